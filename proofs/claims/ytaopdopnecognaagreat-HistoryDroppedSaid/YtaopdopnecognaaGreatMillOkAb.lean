/- The functions compute this. -/
import Derived.Test.YtaopdopnecognaaGreatMillSeat3
import Derived.Test.YtaopdopnecognaaGreatMillFAb
namespace Go.Proofs.Mill
set_option linter.all false
noncomputable def e37:Env:=env1 []
theorem g37:Zai e37:=Zam mix1 ent1 Zah
noncomputable def ZyQ:LSpec:=Zen [2,5,6] (Zaa (ZaQ 63 .sentry) (Zaa (Zae .i64) (Zac (Zae .i64)))) (⟨.exit 0,[2],(Zac (ZaQ 63 .sentry))⟩:Way) (ZaH Zh1)
set_option maxRecDepth 100000 in
theorem Zzu:LoopOK e37 16 ZyQ (Zbc e37.P 37 2) :=
  ZcL (L:=ZaT []) (rounds:=20) (depth:=6) (ts:=[2,5,6]) (v:=(Zaa (ZaQ 63 .sentry) (Zaa (Zae .i64) (Zac (Zae .i64))))) (a:=⟨.exit 0,[2],(Zac (ZaQ 63 .sentry))⟩) (step:=Zh1) g37 rfl Za8 (fun x=>by kernel_rfl)
noncomputable def s37:Spec:=Zao (Zac (Zaq celConfig)) (Zas (Zap .sentry)) Zkb
set_option maxRecDepth 100000 in
theorem ok37:Zan Tryz.prog 37 s37 :=
  Zaj (V:=e37) (L:=(ZaT [(2,ZyQ)])) (rounds:=20) (depth:=6) g37 (ZbH (nt:=16) (by kernel_rfl) (Zcn (by kernel_rfl)) (ZaM Zzu Za3)) (fun x=>by kernel_rfl)
noncomputable def e17:Env:=env1 [(37,s37)]
theorem g17:Zai e17:=Zam mix1 ent1 (Zab ok37 rfl Zah)
noncomputable def ZvI:LSpec:=Zgw [1,4,5,14,15,16] (Zaa (Zae .i64) (Zaa (ZaQ 63 .sentry) (Zaa (Zap .sentry) (Zaa (Zap .sentry) (Zaa (Zae .i64) (Zac (Zae .i64))))))) (⟨.exit 0,[4],(Zac (ZaQ 63 .sentry))⟩:Way) (⟨.exit 2,[1,4,5],(Zaa (Zae .i64) (Zaa (ZaQ 63 .sentry) (Zac (Zap .sentry))))⟩:Way) (ZaH Zhy)
set_option maxRecDepth 100000 in
theorem Zun:LoopOK e17 29 ZvI (Zbc e17.P 17 5) :=
  Zet (L:=ZaT []) (rounds:=20) (depth:=6) (ts:=[1,4,5,14,15,16]) (v:=(Zaa (Zae .i64) (Zaa (ZaQ 63 .sentry) (Zaa (Zap .sentry) (Zaa (Zap .sentry) (Zaa (Zae .i64) (Zac (Zae .i64)))))))) (a:=⟨.exit 0,[4],(Zac (ZaQ 63 .sentry))⟩) (b:=⟨.exit 2,[1,4,5],(Zaa (Zae .i64) (Zaa (ZaQ 63 .sentry) (Zac (Zap .sentry))))⟩) (step:=Zhy) g17 rfl rfl Za8 (fun x=>by kernel_rfl)
noncomputable def ZyB:LSpec:=Zen [1,4,5] (Zaa (Zae .i64) (Zaa (ZaQ 63 .sentry) (Zac (Zap .sentry)))) (⟨.exit 0,[4],(Zac (ZaQ 63 .sentry))⟩:Way) (ZaH Zg1)
set_option maxRecDepth 100000 in
theorem Zzk:LoopOK e17 29 ZyB (Zbc e17.P 17 2) :=
  ZcL (L:=ZaT [(5,ZvI)]) (rounds:=20) (depth:=6) (ts:=[1,4,5]) (v:=(Zaa (Zae .i64) (Zaa (ZaQ 63 .sentry) (Zac (Zap .sentry))))) (a:=⟨.exit 0,[4],(Zac (ZaQ 63 .sentry))⟩) (step:=Zg1) g17 rfl (Zsw (by kernel_rfl) (ZaM Zun Za3)) (fun x=>by kernel_rfl)
noncomputable def s17:Spec:=Zao (Zaa (Zaq celConfig) (Zac (Zae .i64))) (Zas (Zap .sentry)) Zi6
set_option maxRecDepth 100000 in
theorem ok17:Zan Tryz.prog 17 s17 :=
  Zaj (V:=e17) (L:=(ZaT [(5,ZvI),(2,ZyB)])) (rounds:=20) (depth:=6) g17 (ZbH (nt:=29) (by kernel_rfl) (Zcn (by kernel_rfl)) (ZaM Zun (ZaM Zzk Za3))) (fun x=>by kernel_rfl)
noncomputable def e53:Env:=env1 []
theorem g53:Zai e53:=Zam mix1 ent1 Zah
noncomputable def s53:Spec:=Zao (Zac (Zaq celConfig)) (Zas (Zae .i64)) Zk8
set_option maxRecDepth 100000 in
theorem ok53:Zan Tryz.prog 53 s53 :=
  Zaj (V:=e53) (L:=nL) (rounds:=20) (depth:=6) g53 Zak (fun x=>by kernel_rfl)
noncomputable def e18:Env:=env1 [(53,s53)]
theorem g18:Zai e18:=Zam mix1 ent1 (Zab ok53 rfl Zah)
noncomputable def s18:Spec:=Zao (Zac (Zaq celConfig)) (Zas (Zae .i64)) ZgC
set_option maxRecDepth 100000 in
theorem ok18:Zan Tryz.prog 18 s18 :=
  Zaj (V:=e18) (L:=nL) (rounds:=20) (depth:=6) g18 Zak (fun x=>by kernel_rfl)
noncomputable def e24:Env:=env1 []
theorem g24:Zai e24:=Zam mix1 ent1 Zah
noncomputable def s24:Spec:=Zao (Zac (Zaq Zix)) (Zas (ZaY)) Zb7
set_option maxRecDepth 100000 in
theorem ok24:Zan Tryz.prog 24 s24 :=
  Zaj (V:=e24) (L:=nL) (rounds:=20) (depth:=6) g24 Zak (fun x=>by kernel_rfl)
noncomputable def e83:Env:=env1 []
theorem g83:Zai e83:=Zam mix1 ent1 Zah
noncomputable def s83:Spec:=Zao (Zaa (Zae .i64) (Zac (Zae .i64))) (Zas (ZaY)) Zdx
set_option maxRecDepth 100000 in
theorem ok83:Zan Tryz.prog 83 s83 :=
  Zaj (V:=e83) (L:=nL) (rounds:=20) (depth:=6) g83 Zak (fun x=>by kernel_rfl)
noncomputable def e107:Env:=env1 []
theorem g107:Zai e107:=Zam mix1 ent1 Zah
noncomputable def s107:Spec:=Zao (Zac (Zae .i64)) (Zas (ZaY)) Zj7
set_option maxRecDepth 100000 in
theorem ZAK:Zan Tryz.prog 107 s107 :=
  Zaj (V:=e107) (L:=nL) (rounds:=20) (depth:=6) g107 Zak (fun x=>by kernel_rfl)
noncomputable def e84:Env:=env1 [(107,s107)]
theorem g84:Zai e84:=Zam mix1 ent1 (Zab ZAK rfl Zah)
noncomputable def s84:Spec:=Zao (Zaa (Zaq Zhj) (Zac (ZaY))) (Zas (ZaY)) Zjm
set_option maxRecDepth 100000 in
theorem ok84:Zan Tryz.prog 84 s84 :=
  Zaj (V:=e84) (L:=nL) (rounds:=20) (depth:=6) g84 Zak (fun x=>by kernel_rfl)
noncomputable def e61:Env:=env1 [(83,s83),(84,s84)]
theorem g61:Zai e61:=Zam mix1 ent1 (Zab ok83 rfl (Zab ok84 rfl Zah))
noncomputable def s61:Spec:=Zao (Zaa (Zaq celConfig) (Zac (Zaq Zxd))) (Zas (Zae .i64)) ZhY
set_option maxRecDepth 100000 in
theorem ok61:Zan Tryz.prog 61 s61 :=
  Zaj (V:=e61) (L:=nL) (rounds:=20) (depth:=6) g61 Zak (fun x=>by kernel_rfl)
noncomputable def s85:Spec:=Zao (Zac (Zap .thread)) (Zas (ZaQ 57 .thread)) Zic
noncomputable def s86:Spec:=Zao (Zac (Zap .mark)) (Zas (ZaQ 65 .mark)) Zi3
noncomputable def s87:Spec:=Zao (Zac (Zap .event)) (Zas (ZaQ 50 .event)) ZiX
noncomputable def e112:Env:=env1 []
theorem g112:Zai e112:=Zam mix1 ent1 Zah
noncomputable def s112:Spec:=Zao (Zaa (Zae .i64) (Zac (Zae .i64))) (Zas (Zae .i64)) Zj9
set_option maxRecDepth 100000 in
theorem ZBo:Zan Tryz.prog 112 s112 :=
  Zaj (V:=e112) (L:=nL) (rounds:=20) (depth:=6) g112 Zak (fun x=>by kernel_rfl)
noncomputable def e100:Env:=env1 [(112,s112)]
theorem g100:Zai e100:=Zam mix1 ent1 (Zab ZBo rfl Zah)
noncomputable def s100:Spec:=Zao (Zaa (Zaq celConfig) (Zaa (Zae .i64) (Zaa (Zaq Zix) (Zaa (Zae .i64) (Zaa (Zaq Zhj) (Zac (Zae .i64))))))) (Zas (Zaq Zix)) Zh6
set_option maxRecDepth 100000 in
theorem ZAV:Zan Tryz.prog 100 s100 :=
  Zaj (V:=e100) (L:=nL) (rounds:=20) (depth:=6) g100 Zak (fun x=>by kernel_rfl)
noncomputable def e26:Env:=env1 [(24,s24),(61,s61),(85,s85),(86,s86),(87,s87),(100,s100)]
noncomputable def e49:Env:=env1 []
theorem g49:Zai e49:=Zam mix1 ent1 Zah
noncomputable def s49:Spec:=Zao (Zac (Zaq celConfig)) (Zas (Zae .i64)) Zml
set_option maxRecDepth 100000 in
theorem ok49:Zan Tryz.prog 49 s49 :=
  Zaj (V:=e49) (L:=nL) (rounds:=20) (depth:=6) g49 Zak (fun x=>by kernel_rfl)
noncomputable def e44:Env:=env1 []
theorem g44:Zai e44:=Zam mix1 ent1 Zah
noncomputable def s44:Spec:=Zao (Zaa (Zaq Zhj) (Zac (ZaY))) (Zas (ZaY)) ZtN
set_option maxRecDepth 100000 in
theorem ok44:Zan Tryz.prog 44 s44 :=
  Zaj (V:=e44) (L:=nL) (rounds:=20) (depth:=6) g44 Zak (fun x=>by kernel_rfl)
noncomputable def e32:Env:=env1 [(49,s49)]
theorem g32:Zai e32:=Zam mix1 ent1 (Zab ok49 rfl Zah)
noncomputable def s32:Spec:=Zao (Zac (Zaq celConfig)) (Zas (ZaY)) ZnR
set_option maxRecDepth 100000 in
theorem ok32:Zan Tryz.prog 32 s32 :=
  Zaj (V:=e32) (L:=nL) (rounds:=20) (depth:=6) g32 Zak (fun x=>by kernel_rfl)
noncomputable def e73:Env:=env1 []
theorem g73:Zai e73:=Zam mix1 ent1 Zah
noncomputable def s73:Spec:=Zao (Zac (Zaq celConfig)) (Zas (Zae .i64)) Zmp
set_option maxRecDepth 100000 in
theorem ok73:Zan Tryz.prog 73 s73 :=
  Zaj (V:=e73) (L:=nL) (rounds:=20) (depth:=6) g73 Zak (fun x=>by kernel_rfl)
noncomputable def e34:Env:=env1 [(73,s73)]
theorem g34:Zai e34:=Zam mix1 ent1 (Zab ok73 rfl Zah)
noncomputable def s34:Spec:=Zao (Zac (Zaq celConfig)) (Zas (Zae .i64)) Zk9
set_option maxRecDepth 100000 in
theorem ok34:Zan Tryz.prog 34 s34 :=
  Zaj (V:=e34) (L:=nL) (rounds:=20) (depth:=6) g34 Zak (fun x=>by kernel_rfl)
noncomputable def e35:Env:=env1 []
theorem g35:Zai e35:=Zam mix1 ent1 Zah
noncomputable def ZyD:LSpec:=Zgw [0,1,5] (Zaa (Zap .sentry) (Zaa (Zap .sentry) (Zac (Zae .i64)))) (⟨.exit 0,[],Zee⟩:Way) (⟨.ret,[4],(Zac (ZaY))⟩:Way) (ZaH ZhO)
set_option maxRecDepth 100000 in
theorem Zz1:LoopOK e35 26 ZyD (Zbc e35.P 35 4) :=
  Zet (L:=ZaT []) (rounds:=20) (depth:=6) (ts:=[0,1,5]) (v:=(Zaa (Zap .sentry) (Zaa (Zap .sentry) (Zac (Zae .i64))))) (a:=⟨.exit 0,[],Zee⟩) (b:=⟨.ret,[4],(Zac (ZaY))⟩) (step:=ZhO) g35 rfl rfl Za8 (fun x=>by kernel_rfl)
noncomputable def s35:Spec:=Zao (Zaa (Zap .sentry) (Zac (Zap .sentry))) (Zas (ZaY)) ZsE
set_option maxRecDepth 100000 in
theorem ok35:Zan Tryz.prog 35 s35 :=
  Zaj (V:=e35) (L:=(ZaT [(4,ZyD)])) (rounds:=20) (depth:=6) g35 (ZbH (nt:=26) (by kernel_rfl) (Zcn (by kernel_rfl)) (ZaM Zz1 Za3)) (fun x=>by kernel_rfl)
noncomputable def e36:Env:=env1 []
theorem g36:Zai e36:=Zam mix1 ent1 Zah
noncomputable def Zy3:LSpec:=Zen [0,3,4] (Zaa (Zap .sentry) (Zaa (ZaQ 120 .sentry) (Zac (Zae .i64)))) (⟨.exit 0,[3],(Zac (ZaQ 120 .sentry))⟩:Way) (ZaH ZiZ)
set_option maxRecDepth 100000 in
theorem Zz5:LoopOK e36 37 Zy3 (Zbc e36.P 36 3) :=
  ZcL (L:=ZaT []) (rounds:=20) (depth:=6) (ts:=[0,3,4]) (v:=(Zaa (Zap .sentry) (Zaa (ZaQ 120 .sentry) (Zac (Zae .i64))))) (a:=⟨.exit 0,[3],(Zac (ZaQ 120 .sentry))⟩) (step:=ZiZ) g36 rfl Za8 (fun x=>by kernel_rfl)
noncomputable def s36:Spec:=Zao (Zac (Zap .sentry)) (Zas (Zap .sentry)) Zt3
set_option maxRecDepth 100000 in
theorem ok36:Zan Tryz.prog 36 s36 :=
  Zaj (V:=e36) (L:=(ZaT [(3,Zy3)])) (rounds:=20) (depth:=6) g36 (ZbH (nt:=37) (by kernel_rfl) (Zcn (by kernel_rfl)) (ZaM Zz5 Za3)) (fun x=>by kernel_rfl)
noncomputable def e39:Env:=env1 []
theorem g39:Zai e39:=Zam mix1 ent1 Zah
noncomputable def ZuO:LSpec:=Zgw [1,2,5,6,7] (Zaa (Zae .i64) (Zaa (ZaA celConfig) (Zaa (ZaQ 120 .sentry) (Zaa (Zae .i64) (Zac (Zae .i64)))))) (⟨.exit 2,[1,2,5,6],(Zaa (Zae .i64) (Zaa (ZaA celConfig) (Zaa (ZaQ 120 .sentry) (Zac (Zae .i64)))))⟩:Way) (⟨.ret,[4],(Zac (Zap .sentry))⟩:Way) (ZaH ZgH)
set_option maxRecDepth 100000 in
theorem Zut:LoopOK e39 30 ZuO (Zbc e39.P 39 6) :=
  Zet (L:=ZaT []) (rounds:=20) (depth:=6) (ts:=[1,2,5,6,7]) (v:=(Zaa (Zae .i64) (Zaa (ZaA celConfig) (Zaa (ZaQ 120 .sentry) (Zaa (Zae .i64) (Zac (Zae .i64))))))) (a:=⟨.exit 2,[1,2,5,6],(Zaa (Zae .i64) (Zaa (ZaA celConfig) (Zaa (ZaQ 120 .sentry) (Zac (Zae .i64)))))⟩) (b:=⟨.ret,[4],(Zac (Zap .sentry))⟩) (step:=ZgH) g39 rfl rfl Za8 (fun x=>by kernel_rfl)
noncomputable def Zy7:LSpec:=Zgw [1,2,5,6] (Zaa (Zae .i64) (Zaa (ZaA celConfig) (Zaa (ZaQ 120 .sentry) (Zac (Zae .i64))))) (⟨.exit 0,[5],(Zac (ZaQ 120 .sentry))⟩:Way) (⟨.ret,[4],(Zac (Zap .sentry))⟩:Way) (ZaH ZgI)
set_option maxRecDepth 100000 in
theorem ZzT:LoopOK e39 30 Zy7 (Zbc e39.P 39 3) :=
  Zet (L:=ZaT [(6,ZuO)]) (rounds:=20) (depth:=6) (ts:=[1,2,5,6]) (v:=(Zaa (Zae .i64) (Zaa (ZaA celConfig) (Zaa (ZaQ 120 .sentry) (Zac (Zae .i64)))))) (a:=⟨.exit 0,[5],(Zac (ZaQ 120 .sentry))⟩) (b:=⟨.ret,[4],(Zac (Zap .sentry))⟩) (step:=ZgI) g39 rfl rfl (Zsw (by kernel_rfl) (ZaM Zut Za3)) (fun x=>by kernel_rfl)
noncomputable def s39:Spec:=Zao (Zaa (Zaq celConfig) (Zac (Zae .i64))) (Zas (Zap .sentry)) Zlo
set_option maxRecDepth 100000 in
theorem ok39:Zan Tryz.prog 39 s39 :=
  Zaj (V:=e39) (L:=(ZaT [(6,ZuO),(3,Zy7)])) (rounds:=20) (depth:=6) g39 (ZbH (nt:=30) (by kernel_rfl) (Zcn (by kernel_rfl)) (ZaM Zut (ZaM ZzT Za3))) (fun x=>by kernel_rfl)
noncomputable def e38:Env:=env1 [(39,s39)]
theorem g38:Zai e38:=Zam mix1 ent1 (Zab ok39 rfl Zah)
noncomputable def s38:Spec:=Zao (Zac (Zaq celConfig)) (Zas (Zap .sentry)) Zrr
set_option maxRecDepth 100000 in
theorem ok38:Zan Tryz.prog 38 s38 :=
  Zaj (V:=e38) (L:=nL) (rounds:=20) (depth:=6) g38 Zak (fun x=>by kernel_rfl)
noncomputable def e74:Env:=env1 []
theorem g74:Zai e74:=Zam mix1 ent1 Zah
noncomputable def Zze:LSpec:=Zgw [0,6,7] (Zaa (Zap .sentry) (Zaa (Zae .i64) (Zac (Zae .i64)))) (⟨.exit 0,[0],(Zac (Zap .sentry))⟩:Way) (⟨.ret,[2],(Zac (Zap .sentry))⟩:Way) (ZaH ZhE)
set_option maxRecDepth 100000 in
theorem Zzn:LoopOK e74 26 Zze (Zbc e74.P 74 2) :=
  Zet (L:=ZaT []) (rounds:=20) (depth:=6) (ts:=[0,6,7]) (v:=(Zaa (Zap .sentry) (Zaa (Zae .i64) (Zac (Zae .i64))))) (a:=⟨.exit 0,[0],(Zac (Zap .sentry))⟩) (b:=⟨.ret,[2],(Zac (Zap .sentry))⟩) (step:=ZhE) g74 rfl rfl Za8 (fun x=>by kernel_rfl)
noncomputable def s74:Spec:=Zao (Zac (Zap .sentry)) (Zas (Zap .sentry)) Zmi
set_option maxRecDepth 100000 in
theorem ok74:Zan Tryz.prog 74 s74 :=
  Zaj (V:=e74) (L:=(ZaT [(2,Zze)])) (rounds:=20) (depth:=6) g74 (ZbH (nt:=26) (by kernel_rfl) (Zcn (by kernel_rfl)) (ZaM Zzn Za3)) (fun x=>by kernel_rfl)
noncomputable def e40:Env:=env1 [(74,s74)]
theorem g40:Zai e40:=Zam mix1 ent1 (Zab ok74 rfl Zah)
noncomputable def ZyI:LSpec:=Zen [2,4,5,9,10,11] (Zaa (ZaA celConfig) (Zaa (Zae .i64) (Zaa (Zae .i64) (Zaa (Zap .sentry) (Zaa (Zae .i64) (Zac (Zae .i64))))))) (⟨.exit 0,[4],(Zac (Zae .i64))⟩:Way) (ZaH Zh4)
set_option maxRecDepth 100000 in
theorem Zzp:LoopOK e40 34 ZyI (Zbc e40.P 40 3) :=
  ZcL (L:=ZaT []) (rounds:=20) (depth:=6) (ts:=[2,4,5,9,10,11]) (v:=(Zaa (ZaA celConfig) (Zaa (Zae .i64) (Zaa (Zae .i64) (Zaa (Zap .sentry) (Zaa (Zae .i64) (Zac (Zae .i64)))))))) (a:=⟨.exit 0,[4],(Zac (Zae .i64))⟩) (step:=Zh4) g40 rfl Za8 (fun x=>by kernel_rfl)
noncomputable def s40:Spec:=Zao (Zaa (Zaq celConfig) (Zac (Zap .sentry))) (Zas (Zae .i64)) ZhB
set_option maxRecDepth 100000 in
theorem ok40:Zan Tryz.prog 40 s40 :=
  Zaj (V:=e40) (L:=(ZaT [(3,ZyI)])) (rounds:=20) (depth:=6) g40 (ZbH (nt:=34) (by kernel_rfl) (Zcn (by kernel_rfl)) (ZaM Zzp Za3)) (fun x=>by kernel_rfl)
noncomputable def e41:Env:=env1 []
theorem g41:Zai e41:=Zam mix1 ent1 Zah
noncomputable def ZyA:LSpec:=Zen [1,2,7,8] (Zaa (Zap .sentry) (Zaa (ZaA celConfig) (Zaa (Zae .i64) (Zac (Zae .i64))))) (⟨.exit 2,[2,7],(Zaa (ZaA celConfig) (Zac (Zae .i64)))⟩:Way) (ZaH Zg6)
set_option maxRecDepth 100000 in
theorem Zz3:LoopOK e41 52 ZyA (Zbc e41.P 41 9) :=
  ZcL (L:=ZaT []) (rounds:=20) (depth:=6) (ts:=[1,2,7,8]) (v:=(Zaa (Zap .sentry) (Zaa (ZaA celConfig) (Zaa (Zae .i64) (Zac (Zae .i64)))))) (a:=⟨.exit 2,[2,7],(Zaa (ZaA celConfig) (Zac (Zae .i64)))⟩) (step:=Zg6) g41 rfl Za8 (fun x=>by kernel_rfl)
noncomputable def ZyX:LSpec:=Zen [1,2,5,6] (Zaa (Zap .sentry) (Zaa (ZaA celConfig) (Zaa (Zae .i64) (Zac (Zae .i64))))) (⟨.exit 0,[1,2,5],(Zaa (Zap .sentry) (Zaa (ZaA celConfig) (Zac (Zae .i64))))⟩:Way) (ZaH Zhq)
set_option maxRecDepth 100000 in
theorem ZzY:LoopOK e41 52 ZyX (Zbc e41.P 41 3) :=
  ZcL (L:=ZaT []) (rounds:=20) (depth:=6) (ts:=[1,2,5,6]) (v:=(Zaa (Zap .sentry) (Zaa (ZaA celConfig) (Zaa (Zae .i64) (Zac (Zae .i64)))))) (a:=⟨.exit 0,[1,2,5],(Zaa (Zap .sentry) (Zaa (ZaA celConfig) (Zac (Zae .i64))))⟩) (step:=Zhq) g41 rfl Za8 (fun x=>by kernel_rfl)
noncomputable def s41:Spec:=Zao (Zaa (Zaq celConfig) (Zac (Zap .sentry))) (Zas (Zae .i64)) Zmc
set_option maxRecDepth 100000 in
theorem ok41:Zan Tryz.prog 41 s41 :=
  Zaj (V:=e41) (L:=(ZaT [(9,ZyA),(3,ZyX)])) (rounds:=20) (depth:=6) g41 (ZbH (nt:=52) (by kernel_rfl) (Zcn (by kernel_rfl)) (ZaM Zz3 (ZaM ZzY Za3))) (fun x=>by kernel_rfl)
noncomputable def e42:Env:=env1 [(18,s18),(40,s40)]
theorem g42:Zai e42:=Zam mix1 ent1 (Zab ok18 rfl (Zab ok40 rfl Zah))
noncomputable def s42:Spec:=Zao (Zaa (Zaq celConfig) (Zac (Zap .sentry))) (Zas (ZaY)) Zfc
set_option maxRecDepth 100000 in
theorem ok42:Zan Tryz.prog 42 s42 :=
  Zaj (V:=e42) (L:=nL) (rounds:=20) (depth:=6) g42 Zak (fun x=>by kernel_rfl)
noncomputable def e43:Env:=env1 [(34,s34),(41,s41)]
theorem g43:Zai e43:=Zam mix1 ent1 (Zab ok34 rfl (Zab ok41 rfl Zah))
noncomputable def s43:Spec:=Zao (Zaa (Zaq celConfig) (Zac (Zap .sentry))) (Zas (ZaY)) ZrZ
set_option maxRecDepth 100000 in
theorem ok43:Zan Tryz.prog 43 s43 :=
  Zaj (V:=e43) (L:=nL) (rounds:=20) (depth:=6) g43 Zak (fun x=>by kernel_rfl)
noncomputable def e45:Env:=env1 [(24,s24)]
theorem g45:Zai e45:=Zam mix1 ent1 (Zab ok24 rfl Zah)
noncomputable def Zyv:LSpec:=Zen [2,6,7,8] (Zaa (Zae .i64) (Zaa (Zap .thread) (Zaa (Zae .i64) (Zac (Zae .i64))))) (⟨.exit 0,[2],(Zac (Zae .i64))⟩:Way) (ZaH Zh5)
set_option maxRecDepth 100000 in
theorem Zzx:LoopOK e45 18 Zyv (Zbc e45.P 45 2) :=
  ZcL (L:=ZaT []) (rounds:=20) (depth:=6) (ts:=[2,6,7,8]) (v:=(Zaa (Zae .i64) (Zaa (Zap .thread) (Zaa (Zae .i64) (Zac (Zae .i64)))))) (a:=⟨.exit 0,[2],(Zac (Zae .i64))⟩) (step:=Zh5) g45 rfl Za8 (fun x=>by kernel_rfl)
noncomputable def s45:Spec:=Zao (Zac (Zaq Zex)) (Zas (Zae .i64)) Znj
set_option maxRecDepth 100000 in
theorem ok45:Zan Tryz.prog 45 s45 :=
  Zaj (V:=e45) (L:=(ZaT [(2,Zyv)])) (rounds:=20) (depth:=6) g45 (ZbH (nt:=18) (by kernel_rfl) (Zcn (by kernel_rfl)) (ZaM Zzx Za3)) (fun x=>by kernel_rfl)
noncomputable def s47:Spec:=Zao (Zaa (Zaq celConfig) (Zac (Zae .i64))) (Zas (Zae .i64)) ZsS
noncomputable def e75:Env:=env1 []
theorem g75:Zai e75:=Zam mix1 ent1 Zah
noncomputable def s75:Spec:=Zao (Zaa (Zae .i64) (Zac (Zae .i64))) (Zb0 (Zaa (Zae .i64) (Zac (ZaY)))) Zfm
set_option maxRecDepth 100000 in
theorem ok75:Zan Tryz.prog 75 s75 :=
  Zaj (V:=e75) (L:=nL) (rounds:=20) (depth:=6) g75 Zak (fun x=>by kernel_rfl)
noncomputable def e48:Env:=env1 [(75,s75)]
theorem g48:Zai e48:=Zam mix1 ent1 (Zab ok75 rfl Zah)
noncomputable def s48:Spec:=Zao (Zaa (Zaq Zhj) (Zaa (Zae .i64) (Zaa (Zae .i64) (Zac (Zae .i64))))) (Zb0 (Zaa (Zae .i64) (Zac (ZaY)))) Zi7
set_option maxRecDepth 100000 in
theorem ok48:Zan Tryz.prog 48 s48 :=
  Zaj (V:=e48) (L:=nL) (rounds:=20) (depth:=6) g48 Zak (fun x=>by kernel_rfl)
noncomputable def e56:Env:=env1 []
theorem g56:Zai e56:=Zam mix1 ent1 Zah
noncomputable def ZyS:LSpec:=Zgw [1,29,30] (Zaa (ZaA celConfig) (Zaa (Zaq (Zal (Zar .i64) (Zal (Zar .i64) (Zal (Zar .i64) (Zal (Zar .i64) (Zal (Zar .i64) (Zal (Zar .i64) (Zal (Zar .i64) (Zal (Zar .i64) (Zal (Zar .i64) (Zal (Zar .i64) (Zal (Zar .i64) (Zal (Zar .i64) (Zal (Zar .i64) (Zal (Zar .i64) (Zal (Zar .i64) (Zal (Zar .i64) (Zal (Zar .i64) (Zal (Zar .i64) (Zal (Zar .i64) (Zal (Zar .i64) (Zal (Zar .i64) (Zal (Zar .i64) (Zal (Zar .i64) (Zar .i64))))))))))))))))))))))))) (Zac (Zae .i64)))) (⟨.exit 0,[1],(Zac (ZaA celConfig))⟩:Way) (⟨.ret,[2],(Zac (Zae .i64))⟩:Way) (ZaH ZdX)
set_option maxRecDepth 100000 in
theorem ZzJ:LoopOK e56 65 ZyS (Zbc e56.P 56 2) :=
  Zet (L:=ZaT []) (rounds:=20) (depth:=6) (ts:=[1,29,30]) (v:=(Zaa (ZaA celConfig) (Zaa (Zaq (Zal (Zar .i64) (Zal (Zar .i64) (Zal (Zar .i64) (Zal (Zar .i64) (Zal (Zar .i64) (Zal (Zar .i64) (Zal (Zar .i64) (Zal (Zar .i64) (Zal (Zar .i64) (Zal (Zar .i64) (Zal (Zar .i64) (Zal (Zar .i64) (Zal (Zar .i64) (Zal (Zar .i64) (Zal (Zar .i64) (Zal (Zar .i64) (Zal (Zar .i64) (Zal (Zar .i64) (Zal (Zar .i64) (Zal (Zar .i64) (Zal (Zar .i64) (Zal (Zar .i64) (Zal (Zar .i64) (Zar .i64))))))))))))))))))))))))) (Zac (Zae .i64))))) (a:=⟨.exit 0,[1],(Zac (ZaA celConfig))⟩) (b:=⟨.ret,[2],(Zac (Zae .i64))⟩) (step:=ZdX) g56 rfl rfl Za8 (fun x=>by kernel_rfl)
noncomputable def s56:Spec:=Zao (Zac (Zaq celConfig)) (Zas (Zae .i64)) Zde
set_option maxRecDepth 100000 in
theorem ok56:Zan Tryz.prog 56 s56 :=
  Zaj (V:=e56) (L:=(ZaT [(2,ZyS)])) (rounds:=20) (depth:=6) g56 (ZbH (nt:=65) (by kernel_rfl) (Zcn (by kernel_rfl)) (ZaM ZzJ Za3)) (fun x=>by kernel_rfl)
noncomputable def e51:Env:=env1 [(56,s56),(61,s61)]
theorem g51:Zai e51:=Zam mix1 ent1 (Zab ok56 rfl (Zab ok61 rfl Zah))
noncomputable def Zyy:LSpec:=Zgw [2,18,19,20] (Zaa (ZaA celConfig) (Zaa (Zap .sentry) (Zaa (Zae .i64) (Zac (Zae .i64))))) (⟨.exit 0,[],Zee⟩:Way) (⟨.ret,[4,5],(Zaa (Zae .i64) (Zac (Zae .i64)))⟩:Way) (ZaH Zf5)
set_option maxRecDepth 100000 in
theorem ZzA:LoopOK e51 33 Zyy (Zbc e51.P 51 7) :=
  Zet (L:=ZaT []) (rounds:=20) (depth:=6) (ts:=[2,18,19,20]) (v:=(Zaa (ZaA celConfig) (Zaa (Zap .sentry) (Zaa (Zae .i64) (Zac (Zae .i64)))))) (a:=⟨.exit 0,[],Zee⟩) (b:=⟨.ret,[4,5],(Zaa (Zae .i64) (Zac (Zae .i64)))⟩) (step:=Zf5) g51 rfl rfl Za8 (fun x=>by kernel_rfl)
noncomputable def s51:Spec:=Zao (Zaa (Zaq celConfig) (Zac (Zap .sentry))) (Zb0 (Zaa (Zae .i64) (Zac (Zae .i64)))) Zg2
set_option maxRecDepth 100000 in
theorem ok51:Zan Tryz.prog 51 s51 :=
  Zaj (V:=e51) (L:=(ZaT [(7,Zyy)])) (rounds:=20) (depth:=6) g51 (ZbH (nt:=33) (by kernel_rfl) (Zcn (by kernel_rfl)) (ZaM ZzA Za3)) (fun x=>by kernel_rfl)
noncomputable def e110:Env:=env1 []
theorem g110:Zai e110:=Zam mix1 ent1 Zah
noncomputable def s110:Spec:=Zao (Zac (Zaq celConfig)) (Zas (Zae .i64)) Ze4
set_option maxRecDepth 100000 in
theorem ZyO:Zan Tryz.prog 110 s110 :=
  Zaj (V:=e110) (L:=nL) (rounds:=20) (depth:=6) g110 Zak (fun x=>by kernel_rfl)
noncomputable def e94:Env:=env1 [(110,s110)]
theorem g94:Zai e94:=Zam mix1 ent1 (Zab ZyO rfl Zah)
noncomputable def s94:Spec:=Zao (Zac (Zaq celConfig)) (Zas (Zaq Zzq)) Zcf
set_option maxRecDepth 100000 in
theorem ok94:Zan Tryz.prog 94 s94 :=
  Zaj (V:=e94) (L:=nL) (rounds:=20) (depth:=6) g94 Zak (fun x=>by kernel_rfl)
noncomputable def e71:Env:=env1 [(94,s94)]
theorem g71:Zai e71:=Zam mix1 ent1 (Zab ok94 rfl Zah)
noncomputable def s71:Spec:=Zao (Zaa (Zaq celConfig) (Zac (Zae .i64))) (Zas (Zae .i64)) ZcA
set_option maxRecDepth 100000 in
theorem ok71:Zan Tryz.prog 71 s71 :=
  Zaj (V:=e71) (L:=nL) (rounds:=20) (depth:=6) g71 Zak (fun x=>by kernel_rfl)
noncomputable def e103:Env:=env1 []
theorem g103:Zai e103:=Zam mix1 ent1 Zah
noncomputable def s103:Spec:=Zao (Zac (Zae .i64)) (Zas (ZaQ 3 .int)) Zg9
set_option maxRecDepth 100000 in
theorem ZBa:Zan Tryz.prog 103 s103 :=
  Zaj (V:=e103) (L:=nL) (rounds:=20) (depth:=6) g103 Zak (fun x=>by kernel_rfl)
noncomputable def e104:Env:=env1 []
theorem g104:Zai e104:=Zam mix1 ent1 Zah
noncomputable def s104:Spec:=Zao (Zac (Zae .i64)) (Zas (ZaQ 54 (.lst .entry))) ZdU
set_option maxRecDepth 100000 in
theorem ZBx:Zan Tryz.prog 104 s104 :=
  Zaj (V:=e104) (L:=nL) (rounds:=20) (depth:=6) g104 Zak (fun x=>by kernel_rfl)
noncomputable def e80:Env:=env1 [(103,s103),(104,s104)]
theorem g80:Zai e80:=Zam mix1 ent1 (Zab ZBa rfl (Zab ZBx rfl Zah))
noncomputable def s80:Spec:=Zao (Zaa (Zae .i64) (Zac (Zae .i64))) (Zas (Zaq (Zcr (Zal (Zbr 3 .int) (Zbr 54 (.lst .entry))) Memo (fun y=>⟨y.1,y.2⟩) (fun x=>(x.words,x.boxes)) (fun _=>rfl)))) ZlE
set_option maxRecDepth 100000 in
theorem ok80:Zan Tryz.prog 80 s80 :=
  Zaj (V:=e80) (L:=nL) (rounds:=20) (depth:=6) g80 Zak (fun x=>by kernel_rfl)
noncomputable def e81:Env:=env1 [(94,s94)]
theorem g81:Zai e81:=Zam mix1 ent1 (Zab ok94 rfl Zah)
noncomputable def s81:Spec:=Zao (Zac (Zaq celConfig)) (Zas (Zae .i64)) Zjx
set_option maxRecDepth 100000 in
theorem ok81:Zan Tryz.prog 81 s81 :=
  Zaj (V:=e81) (L:=nL) (rounds:=20) (depth:=6) g81 Zak (fun x=>by kernel_rfl)
noncomputable def e57:Env:=env1 [(71,s71),(80,s80),(81,s81)]
theorem g57:Zai e57:=Zam mix1 ent1 (Zab ok71 rfl (Zab ok80 rfl (Zab ok81 rfl Zah)))
noncomputable def Zzf:LSpec:=Zen [1,2,3,11,12] (Zaa (ZaA celConfig) (Zaa (ZaA Zb2) (Zaa (ZaA (Zcr (Zal (Zbr 3 .int) (Zbr 54 (.lst .entry))) Memo (fun y=>⟨y.1,y.2⟩) (fun x=>(x.words,x.boxes)) (fun _=>rfl))) (Zaa (Zae .i64) (Zac (Zae .i64)))))) (⟨.exit 0,[2,3],(Zaa (ZaA Zb2) (Zac (ZaA (Zcr (Zal (Zbr 3 .int) (Zbr 54 (.lst .entry))) Memo (fun y=>⟨y.1,y.2⟩) (fun x=>(x.words,x.boxes)) (fun _=>rfl)))))⟩:Way) (ZaH Zfu)
set_option maxRecDepth 100000 in
theorem ZzD:LoopOK e57 25 Zzf (Zbc e57.P 57 3) :=
  ZcL (L:=ZaT []) (rounds:=20) (depth:=6) (ts:=[1,2,3,11,12]) (v:=(Zaa (ZaA celConfig) (Zaa (ZaA Zb2) (Zaa (ZaA (Zcr (Zal (Zbr 3 .int) (Zbr 54 (.lst .entry))) Memo (fun y=>⟨y.1,y.2⟩) (fun x=>(x.words,x.boxes)) (fun _=>rfl))) (Zaa (Zae .i64) (Zac (Zae .i64))))))) (a:=⟨.exit 0,[2,3],(Zaa (ZaA Zb2) (Zac (ZaA (Zcr (Zal (Zbr 3 .int) (Zbr 54 (.lst .entry))) Memo (fun y=>⟨y.1,y.2⟩) (fun x=>(x.words,x.boxes)) (fun _=>rfl)))))⟩) (step:=Zfu) g57 rfl Za8 (fun x=>by kernel_rfl)
noncomputable def s57:Spec:=Zao (Zac (Zaq celConfig)) (Zas (Zaq (Zcr (Zal (Zbr 3 .int) (Zbr 54 (.lst .entry))) Memo (fun y=>⟨y.1,y.2⟩) (fun x=>(x.words,x.boxes)) (fun _=>rfl)))) ZiN
set_option maxRecDepth 100000 in
theorem ok57:Zan Tryz.prog 57 s57 :=
  Zaj (V:=e57) (L:=(ZaT [(3,Zzf)])) (rounds:=20) (depth:=6) g57 (ZbH (nt:=25) (by kernel_rfl) (Zcn (by kernel_rfl)) (ZaM ZzD Za3)) (fun x=>by kernel_rfl)
noncomputable def e59:Env:=env1 []
theorem g59:Zai e59:=Zam mix1 ent1 Zah
noncomputable def s59:Spec:=Zao Zee (Zas (Zaq Zix)) ZjZ
set_option maxRecDepth 100000 in
theorem ok59:Zan Tryz.prog 59 s59 :=
  Zaj (V:=e59) (L:=nL) (rounds:=20) (depth:=6) g59 Zak (fun x=>by kernel_rfl)
noncomputable def e60:Env:=env1 []
theorem g60:Zai e60:=Zam mix1 ent1 Zah
noncomputable def s60:Spec:=Zao (Zac (Zap .int)) (Zas (ZaQ 3 .int)) Zbn
set_option maxRecDepth 100000 in
theorem ok60:Zan Tryz.prog 60 s60 :=
  Zop (V:=e60) (L:=nL) (rounds:=20) (depth:=6) (r:=(Zas (ZaQ 3 .int))) g60 Zak (by kernel_rfl) (fun x=>by kernel_rfl)
noncomputable def e91:Env:=env1 []
theorem g91:Zai e91:=Zam mix1 ent1 Zah
noncomputable def s91:Spec:=Zao (Zaa (Zap .int) (Zac (Zae .i64))) (Zb0 (Zaa (Zae .i64) (Zac (Zae .i64)))) Zbs
set_option maxRecDepth 100000 in
theorem ok91:Zan Tryz.prog 91 s91 :=
  Zaj (V:=e91) (L:=nL) (rounds:=20) (depth:=6) g91 Zak (fun x=>by kernel_rfl)
noncomputable def e70:Env:=env1 [(91,s91)]
theorem g70:Zai e70:=Zam mix1 ent1 (Zab ok91 rfl Zah)
noncomputable def s70:Spec:=Zao (Zaa (Zaq Zb2) (Zac (Zae .i64))) (Zb0 (Zaa (Zae .i64) (Zac (Zae .i64)))) ZbN
set_option maxRecDepth 100000 in
theorem ok70:Zan Tryz.prog 70 s70 :=
  Zaj (V:=e70) (L:=nL) (rounds:=20) (depth:=6) g70 Zak (fun x=>by kernel_rfl)
noncomputable def e106:Env:=env1 []
theorem g106:Zai e106:=Zam mix1 ent1 Zah
noncomputable def s106:Spec:=Zao (Zaa (Zae .u64) (Zac (Zae .u64))) (Zb0 (Zaa (Zae .u64) (Zac (Zae .u64)))) Zjg
set_option maxRecDepth 100000 in
theorem ZAH:Zan Tryz.prog 106 s106 :=
  Zaj (V:=e106) (L:=nL) (rounds:=20) (depth:=6) g106 Zak (fun x=>by kernel_rfl)
noncomputable def e82:Env:=env1 [(106,s106)]
theorem g82:Zai e82:=Zam mix1 ent1 (Zab ZAH rfl Zah)
noncomputable def s82:Spec:=Zao (Zaa (Zae .u64) (Zac (Zae .u64))) (Zb0 (Zaa (Zae .u64) (Zac (Zae .u64)))) Zdy
set_option maxRecDepth 100000 in
theorem ok82:Zan Tryz.prog 82 s82 :=
  Zaj (V:=e82) (L:=nL) (rounds:=20) (depth:=6) g82 Zak (fun x=>by kernel_rfl)
noncomputable def e109:Env:=env1 []
theorem g109:Zai e109:=Zam mix1 ent1 Zah
noncomputable def s109:Spec:=Zao (Zaa (Zae .i64) (Zaa (Zae .i64) (Zaa (Zae .i64) (Zac (Zae .i64))))) (Zas (ZaY)) Zja
set_option maxRecDepth 100000 in
theorem ZA7:Zan Tryz.prog 109 s109 :=
  Zaj (V:=e109) (L:=nL) (rounds:=20) (depth:=6) g109 Zak (fun x=>by kernel_rfl)
noncomputable def e90:Env:=env1 [(109,s109)]
theorem g90:Zai e90:=Zam mix1 ent1 (Zab ZA7 rfl Zah)
noncomputable def s90:Spec:=Zao (Zaa (Zaq Zhj) (Zaa (Zae .i64) (Zaa (Zae .i64) (Zac (Zae .i64))))) (Zb0 (Zaa (Zae .i64) (Zac (ZaY)))) Zb6
set_option maxRecDepth 100000 in
theorem ok90:Zan Tryz.prog 90 s90 :=
  Zaj (V:=e90) (L:=nL) (rounds:=20) (depth:=6) g90 Zak (fun x=>by kernel_rfl)
noncomputable def e120:Env:=env1 [(60,s60),(91,s91)]
theorem g120:Zai e120:=Zam mix1 ent1 (Zab ok60 rfl (Zab ok91 rfl Zah))
noncomputable def s120:Spec:=Zao (Zaa (Zaq Zb2) (Zaa (Zae .i64) (Zac (Zae .i64)))) (Zb0 (Zaa (Zaq Zb2) (Zac (Zae .i64)))) ZbX
set_option maxRecDepth 100000 in
theorem ZoQ:Zan Tryz.prog 120 s120 :=
  Zaj (V:=e120) (L:=nL) (rounds:=20) (depth:=6) g120 Zak (fun x=>by kernel_rfl)
noncomputable def e121:Env:=env1 [(94,s94)]
theorem g121:Zai e121:=Zam mix1 ent1 (Zab ok94 rfl Zah)
noncomputable def s121:Spec:=Zao (Zaa (Zaq celConfig) (Zac (Zae .i64))) (Zas (Zae .i64)) ZcX
set_option maxRecDepth 100000 in
theorem Zvm:Zan Tryz.prog 121 s121 :=
  Zaj (V:=e121) (L:=nL) (rounds:=20) (depth:=6) g121 Zak (fun x=>by kernel_rfl)
noncomputable def e122:Env:=env1 []
theorem g122:Zai e122:=Zam mix1 ent1 Zah
noncomputable def s122:Spec:=Zao (Zac (Zaq ZaC)) (Zas (Zaq ZaC)) Zhh
set_option maxRecDepth 100000 in
theorem ZAG:Zan Tryz.prog 122 s122 :=
  Zaj (V:=e122) (L:=nL) (rounds:=20) (depth:=6) g122 Zak (fun x=>by kernel_rfl)
noncomputable def e114:Env:=env1 [(120,s120),(121,s121),(122,s122)]
theorem g114:Zai e114:=Zam mix1 ent1 (Zab ZoQ rfl (Zab Zvm rfl (Zab ZAG rfl Zah)))
noncomputable def s114:Spec:=Zao (Zac (Zaq ZaC)) (Zb0 (Zaa (Zaq ZaC) (Zac (ZaY)))) Zhd
set_option maxRecDepth 100000 in
theorem ZAL:Zan Tryz.prog 114 s114 :=
  Zaj (V:=e114) (L:=nL) (rounds:=20) (depth:=6) g114 Zak (fun x=>by kernel_rfl)
noncomputable def e131:Env:=env1 [(94,s94),(110,s110)]
theorem g131:Zai e131:=Zam mix1 ent1 (Zab ok94 rfl (Zab ZyO rfl Zah))
noncomputable def s131:Spec:=Zao (Zaa (Zaq celConfig) (Zaa (Zae .i64) (Zac (Zae .i64)))) (Zas (Zae .i64)) Zd3
set_option maxRecDepth 100000 in
theorem Zu1:Zan Tryz.prog 131 s131 :=
  Zaj (V:=e131) (L:=nL) (rounds:=20) (depth:=6) g131 Zak (fun x=>by kernel_rfl)
noncomputable def e156:Env:=env1 []
theorem g156:Zai e156:=Zam mix1 ent1 Zah
noncomputable def s156:Spec:=Zao (Zac (Zaq Zuw)) (Zas (Zae .i64)) ZbG
set_option maxRecDepth 100000 in
theorem ZoK:Zan Tryz.prog 156 s156 :=
  Zaj (V:=e156) (L:=nL) (rounds:=20) (depth:=6) g156 Zak (fun x=>by kernel_rfl)
noncomputable def e132:Env:=env1 [(156,s156)]
theorem g132:Zai e132:=Zam mix1 ent1 (Zab ZoK rfl Zah)
noncomputable def s132:Spec:=Zao (Zac (Zae .i64)) (Zas (Zae .i64)) ZeM
set_option maxRecDepth 100000 in
theorem Zvc:Zan Tryz.prog 132 s132 :=
  Zaj (V:=e132) (L:=nL) (rounds:=20) (depth:=6) g132 Zak (fun x=>by kernel_rfl)
noncomputable def e157:Env:=env1 []
theorem g157:Zai e157:=Zam mix1 ent1 Zah
noncomputable def s157:Spec:=Zao (Zac (Zae .i64)) (Zas (Zae .i64)) ZhW
set_option maxRecDepth 100000 in
theorem ZAx:Zan Tryz.prog 157 s157 :=
  Zaj (V:=e157) (L:=nL) (rounds:=20) (depth:=6) g157 Zak (fun x=>by kernel_rfl)
noncomputable def e174:Env:=env1 []
theorem g174:Zai e174:=Zam mix1 ent1 Zah
noncomputable def s174:Spec:=Zao (Zac (Zaq ZaC)) (Zas (Zaq ZaC)) ZfT
set_option maxRecDepth 100000 in
theorem Zyw:Zan Tryz.prog 174 s174 :=
  Zaj (V:=e174) (L:=nL) (rounds:=20) (depth:=6) g174 Zak (fun x=>by kernel_rfl)
noncomputable def e158:Env:=env1 [(174,s174)]
theorem g158:Zai e158:=Zam mix1 ent1 (Zab Zyw rfl Zah)
noncomputable def s158:Spec:=Zao (Zac (Zaq ZaC)) (Zas (Zaq ZaC)) ZdW
set_option maxRecDepth 100000 in
theorem Zvg:Zan Tryz.prog 158 s158 :=
  Zaj (V:=e158) (L:=nL) (rounds:=20) (depth:=6) g158 Zak (fun x=>by kernel_rfl)
noncomputable def e133:Env:=env1 [(60,s60),(157,s157),(158,s158)]
theorem g133:Zai e133:=Zam mix1 ent1 (Zab ok60 rfl (Zab ZAx rfl (Zab Zvg rfl Zah)))
noncomputable def s133:Spec:=Zao (Zac (Zaq ZaC)) (Zas (Zaq ZaC)) ZiW
set_option maxRecDepth 100000 in
theorem ZBh:Zan Tryz.prog 133 s133 :=
  Zaj (V:=e133) (L:=nL) (rounds:=20) (depth:=6) g133 Zak (fun x=>by kernel_rfl)
noncomputable def e135:Env:=env1 [(60,s60),(91,s91)]
theorem g135:Zai e135:=Zam mix1 ent1 (Zab ok60 rfl (Zab ok91 rfl Zah))
noncomputable def s135:Spec:=Zao (Zaa (Zaq Zb2) (Zaa (Zae .i64) (Zaa (Zae .i64) (Zac (Zae .i64))))) (Zb0 (Zaa (Zaq Zb2) (Zaa (ZaY) (Zac (Zae .i64))))) ZcK
set_option maxRecDepth 100000 in
theorem ZrK:Zan Tryz.prog 135 s135 :=
  Zaj (V:=e135) (L:=nL) (rounds:=20) (depth:=6) g135 Zak (fun x=>by kernel_rfl)
noncomputable def e153:Env:=env1 []
theorem g153:Zai e153:=Zam mix1 ent1 Zah
noncomputable def s153:Spec:=Zao (Zac (Zaq ZaC)) (Zas (ZaY)) ZdA
set_option maxRecDepth 100000 in
theorem Zu8:Zan Tryz.prog 153 s153 :=
  Zaj (V:=e153) (L:=nL) (rounds:=20) (depth:=6) g153 Zak (fun x=>by kernel_rfl)
noncomputable def e175:Env:=env1 []
theorem g175:Zai e175:=Zam mix1 ent1 Zah
noncomputable def s175:Spec:=Zao (Zac (Zae .i64)) (Zas (Zaq Zuw)) ZiA
set_option maxRecDepth 100000 in
theorem Zyx:Zan Tryz.prog 175 s175 :=
  Zaj (V:=e175) (L:=nL) (rounds:=20) (depth:=6) g175 Zak (fun x=>by kernel_rfl)
noncomputable def e160:Env:=env1 [(175,s175)]
theorem g160:Zai e160:=Zam mix1 ent1 (Zab Zyx rfl Zah)
noncomputable def s160:Spec:=Zao (Zac (Zae .i64)) (Zas (Zae .i64)) Zgk
set_option maxRecDepth 100000 in
theorem ZyL:Zan Tryz.prog 160 s160 :=
  Zaj (V:=e160) (L:=nL) (rounds:=20) (depth:=6) g160 Zak (fun x=>by kernel_rfl)
noncomputable def e136:Env:=env1 [(153,s153),(158,s158),(160,s160)]
theorem g136:Zai e136:=Zam mix1 ent1 (Zab Zu8 rfl (Zab Zvg rfl (Zab ZyL rfl Zah)))
noncomputable def s136:Spec:=Zao (Zaa (Zaq ZaC) (Zac (Zae .i64))) (Zas (Zaq ZaC)) Zkf
set_option maxRecDepth 100000 in
theorem ZAU:Zan Tryz.prog 136 s136 :=
  Zaj (V:=e136) (L:=nL) (rounds:=20) (depth:=6) g136 Zak (fun x=>by kernel_rfl)
noncomputable def e137:Env:=env1 [(156,s156)]
theorem g137:Zai e137:=Zam mix1 ent1 (Zab ZoK rfl Zah)
noncomputable def s137:Spec:=Zao (Zac (Zae .i64)) (Zas (Zae .i64)) ZiM
set_option maxRecDepth 100000 in
theorem ZAA:Zan Tryz.prog 137 s137 :=
  Zaj (V:=e137) (L:=nL) (rounds:=20) (depth:=6) g137 Zak (fun x=>by kernel_rfl)
noncomputable def e138:Env:=env1 [(158,s158)]
theorem g138:Zai e138:=Zam mix1 ent1 (Zab Zvg rfl Zah)
noncomputable def s138:Spec:=Zao (Zac (Zaq ZaC)) (Zas (Zaq ZaC)) ZhQ
set_option maxRecDepth 100000 in
theorem ZAM:Zan Tryz.prog 138 s138 :=
  Zaj (V:=e138) (L:=nL) (rounds:=20) (depth:=6) g138 Zak (fun x=>by kernel_rfl)
noncomputable def e117:Env:=env1 [(70,s70),(131,s131),(132,s132),(133,s133),(135,s135),(136,s136),(137,s137),(138,s138)]
theorem g117:Zai e117:=Zam mix1 ent1 (Zab ok70 rfl (Zab Zu1 rfl (Zab Zvc rfl (Zab ZBh rfl (Zab ZrK rfl (Zab ZAU rfl (Zab ZAA rfl (Zab ZAM rfl Zah))))))))
noncomputable def s117:Spec:=Zao (Zac (Zaq ZaC)) (Zb0 (Zaa (Zaq ZaC) (Zac (ZaY)))) ZjT
set_option maxRecDepth 100000 in
theorem ZA3:Zan Tryz.prog 117 s117 :=
  Zaj (V:=e117) (L:=nL) (rounds:=20) (depth:=6) g117 Zak (fun x=>by kernel_rfl)
noncomputable def e176:Env:=env1 [(131,s131)]
theorem g176:Zai e176:=Zam mix1 ent1 (Zab Zu1 rfl Zah)
noncomputable def s176:Spec:=Zao (Zac (Zaq ZaC)) (Zas (Zae .i64)) Ze2
set_option maxRecDepth 100000 in
theorem ZuQ:Zan Tryz.prog 176 s176 :=
  Zaj (V:=e176) (L:=nL) (rounds:=20) (depth:=6) g176 Zak (fun x=>by kernel_rfl)
noncomputable def e177:Env:=env1 [(175,s175)]
theorem g177:Zai e177:=Zam mix1 ent1 (Zab Zyx rfl Zah)
noncomputable def s177:Spec:=Zao (Zac (Zae .i64)) (Zas (Zae .i64)) ZlC
set_option maxRecDepth 100000 in
theorem ZBy:Zan Tryz.prog 177 s177 :=
  Zaj (V:=e177) (L:=nL) (rounds:=20) (depth:=6) g177 Zak (fun x=>by kernel_rfl)
noncomputable def e161:Env:=env1 [(70,s70),(132,s132),(160,s160),(176,s176),(177,s177)]
theorem g161:Zai e161:=Zam mix1 ent1 (Zab ok70 rfl (Zab Zvc rfl (Zab ZyL rfl (Zab ZuQ rfl (Zab ZBy rfl Zah)))))
noncomputable def s161:Spec:=Zao (Zac (Zaq ZaC)) (Zas (Zaq ZaC)) ZiP
set_option maxRecDepth 100000 in
theorem ZAJ:Zan Tryz.prog 161 s161 :=
  Zaj (V:=e161) (L:=nL) (rounds:=20) (depth:=6) g161 Zak (fun x=>by kernel_rfl)
noncomputable def e180:Env:=env1 [(174,s174)]
theorem g180:Zai e180:=Zam mix1 ent1 (Zab Zyw rfl Zah)
noncomputable def s180:Spec:=Zao (Zac (Zaq ZaC)) (Zas (Zaq ZaC)) ZgB
set_option maxRecDepth 100000 in
theorem Zy6:Zan Tryz.prog 180 s180 :=
  Zaj (V:=e180) (L:=nL) (rounds:=20) (depth:=6) g180 Zak (fun x=>by kernel_rfl)
noncomputable def e162:Env:=env1 [(132,s132),(135,s135),(176,s176),(180,s180)]
theorem g162:Zai e162:=Zam mix1 ent1 (Zab Zvc rfl (Zab ZrK rfl (Zab ZuQ rfl (Zab Zy6 rfl Zah))))
noncomputable def s162:Spec:=Zao (Zac (Zaq ZaC)) (Zas (Zaq ZaC)) Zjc
set_option maxRecDepth 100000 in
theorem ZBC:Zan Tryz.prog 162 s162 :=
  Zaj (V:=e162) (L:=nL) (rounds:=20) (depth:=6) g162 Zak (fun x=>by kernel_rfl)
noncomputable def e173:Env:=env1 []
theorem g173:Zai e173:=Zam mix1 ent1 Zah
noncomputable def s173:Spec:=Zao (Zac (Zap .entry)) (Zas (ZaQ 178 .entry)) Zbg
set_option maxRecDepth 100000 in
theorem ZvG:Zan Tryz.prog 173 s173 :=
  Zop (V:=e173) (L:=nL) (rounds:=20) (depth:=6) (r:=(Zas (ZaQ 178 .entry))) g173 Zak (by kernel_rfl) (fun x=>by kernel_rfl)
noncomputable def e191:Env:=env1 []
theorem g191:Zai e191:=Zam mix1 ent1 Zah
noncomputable def s191:Spec:=Zao (Zaa (Zap (.lst .entry)) (Zac (Zae .i64))) (Zb0 (Zaa (Zap .entry) (Zac (Zae .i64)))) Zcb
set_option maxRecDepth 100000 in
theorem ZyZ:Zan Tryz.prog 191 s191 :=
  Zaj (V:=e191) (L:=nL) (rounds:=20) (depth:=6) g191 Zak (fun x=>by kernel_rfl)
noncomputable def e181:Env:=env1 [(173,s173),(191,s191)]
theorem g181:Zai e181:=Zam mix1 ent1 (Zab ZvG rfl (Zab ZyZ rfl Zah))
noncomputable def s181:Spec:=Zao (Zaa (Zaq Zb2) (Zac (Zae .i64))) (Zb0 (Zaa (Zap .entry) (Zac (Zae .i64)))) ZhA
set_option maxRecDepth 100000 in
theorem ZyV:Zan Tryz.prog 181 s181 :=
  Zaj (V:=e181) (L:=nL) (rounds:=20) (depth:=6) g181 Zak (fun x=>by kernel_rfl)
noncomputable def e200:Env:=Zzc []
theorem g200:Zai e200:=Zam mix1 ent1 Zah
noncomputable def s200:Spec:=Zao (Zaa (ZsT) (Zac (Zae .i64))) (Zas (ZaQ 216 .kid)) Zd5
set_option maxRecDepth 100000 in
theorem ZBe:Zan Tryz.prog 200 s200 :=
  Zaj (V:=e200) (L:=nL) (rounds:=20) (depth:=6) g200 Zak (fun x=>by kernel_rfl)
noncomputable def e192:Env:=env1 [(200,s200)]
theorem g192:Zai e192:=Zam mix1 ent1 (Zab ZBe rfl Zah)
noncomputable def Zuu:LSpec:=Zen [6,25,26,27] (Zaa (ZaQ 216 .kid) (Zaa (Zap (.lst .kid)) (Zaa (Zae .i64) (Zac (Zae .i64))))) (⟨.exit 2,[6],(Zac (ZaQ 216 .kid))⟩:Way) (ZaH Zbx)
set_option maxRecDepth 100000 in
theorem Zxf:LoopOK e192 36 Zuu (Zbc e192.P 192 11) :=
  ZcL (L:=ZaT []) (rounds:=20) (depth:=6) (ts:=[6,25,26,27]) (v:=(Zaa (ZaQ 216 .kid) (Zaa (Zap (.lst .kid)) (Zaa (Zae .i64) (Zac (Zae .i64)))))) (a:=⟨.exit 2,[6],(Zac (ZaQ 216 .kid))⟩) (step:=Zbx) g192 rfl Za8 (fun x=>by kernel_rfl)
noncomputable def Zxj:LSpec:=Zen [0,3,9,10,11] (Zaa (Zap (.lst .kid)) (Zaa (Zae .i64) (Zaa (Zap (.lst .kid)) (Zaa (Zae .i64) (Zac (Zae .i64)))))) (⟨.exit 0,[0,3],(Zaa (Zap (.lst .kid)) (Zac (Zae .i64)))⟩:Way) (ZaH ZbC)
set_option maxRecDepth 100000 in
theorem Zx4:LoopOK e192 36 Zxj (Zbc e192.P 192 3) :=
  ZcL (L:=ZaT []) (rounds:=20) (depth:=6) (ts:=[0,3,9,10,11]) (v:=(Zaa (Zap (.lst .kid)) (Zaa (Zae .i64) (Zaa (Zap (.lst .kid)) (Zaa (Zae .i64) (Zac (Zae .i64))))))) (a:=⟨.exit 0,[0,3],(Zaa (Zap (.lst .kid)) (Zac (Zae .i64)))⟩) (step:=ZbC) g192 rfl Za8 (fun x=>by kernel_rfl)
noncomputable def s192:Spec:=Zao (Zac (Zap (.lst .kid))) (Zas (ZaQ 216 .kid)) ZdB
set_option maxRecDepth 100000 in
theorem ZAP:Zan Tryz.prog 192 s192 :=
  Zaj (V:=e192) (L:=(ZaT [(11,Zuu),(3,Zxj)])) (rounds:=20) (depth:=6) g192 (ZbH (nt:=36) (by kernel_rfl) (Zcn (by kernel_rfl)) (ZaM Zxf (ZaM Zx4 Za3))) (fun x=>by kernel_rfl)
noncomputable def e203:Env:=Zzc []
theorem g203:Zai e203:=Zam mix1 ent1 Zah
noncomputable def s203:Spec:=Zao (Zaa (ZsT) (Zac (Zae .i64))) (Zas (ZaQ 178 .entry)) ZdN
set_option maxRecDepth 100000 in
theorem ZBc:Zan Tryz.prog 203 s203 :=
  Zaj (V:=e203) (L:=nL) (rounds:=20) (depth:=6) g203 Zak (fun x=>by kernel_rfl)
noncomputable def e201:Env:=env1 [(203,s203)]
theorem g201:Zai e201:=Zam mix1 ent1 (Zab ZBc rfl Zah)
noncomputable def Zup:LSpec:=Zen [6,25,26,27] (Zaa (ZaQ 178 .entry) (Zaa (Zap (.lst .entry)) (Zaa (Zae .i64) (Zac (Zae .i64))))) (⟨.exit 2,[6],(Zac (ZaQ 178 .entry))⟩:Way) (ZaH Zbq)
set_option maxRecDepth 100000 in
theorem Zwn:LoopOK e201 36 Zup (Zbc e201.P 201 11) :=
  ZcL (L:=ZaT []) (rounds:=20) (depth:=6) (ts:=[6,25,26,27]) (v:=(Zaa (ZaQ 178 .entry) (Zaa (Zap (.lst .entry)) (Zaa (Zae .i64) (Zac (Zae .i64)))))) (a:=⟨.exit 2,[6],(Zac (ZaQ 178 .entry))⟩) (step:=Zbq) g201 rfl Za8 (fun x=>by kernel_rfl)
noncomputable def Zv9:LSpec:=Zen [0,3,9,10,11] (Zaa (Zap (.lst .entry)) (Zaa (Zae .i64) (Zaa (Zap (.lst .entry)) (Zaa (Zae .i64) (Zac (Zae .i64)))))) (⟨.exit 0,[0,3],(Zaa (Zap (.lst .entry)) (Zac (Zae .i64)))⟩:Way) (ZaH Zbw)
set_option maxRecDepth 100000 in
theorem ZxO:LoopOK e201 36 Zv9 (Zbc e201.P 201 3) :=
  ZcL (L:=ZaT []) (rounds:=20) (depth:=6) (ts:=[0,3,9,10,11]) (v:=(Zaa (Zap (.lst .entry)) (Zaa (Zae .i64) (Zaa (Zap (.lst .entry)) (Zaa (Zae .i64) (Zac (Zae .i64))))))) (a:=⟨.exit 0,[0,3],(Zaa (Zap (.lst .entry)) (Zac (Zae .i64)))⟩) (step:=Zbw) g201 rfl Za8 (fun x=>by kernel_rfl)
noncomputable def s201:Spec:=Zao (Zac (Zap (.lst .entry))) (Zas (ZaQ 178 .entry)) Zdi
set_option maxRecDepth 100000 in
theorem ZBf:Zan Tryz.prog 201 s201 :=
  Zaj (V:=e201) (L:=(ZaT [(11,Zup),(3,Zv9)])) (rounds:=20) (depth:=6) g201 (ZbH (nt:=36) (by kernel_rfl) (Zcn (by kernel_rfl)) (ZaM Zwn (ZaM ZxO Za3))) (fun x=>by kernel_rfl)
noncomputable def e193:Env:=env1 [(201,s201)]
theorem g193:Zai e193:=Zam mix1 ent1 (Zab ZBf rfl Zah)
noncomputable def s193:Spec:=Zao (Zac (Zap (.lst .entry))) (Zas (Zap .entry)) Zjz
set_option maxRecDepth 100000 in
theorem ZAY:Zan Tryz.prog 193 s193 :=
  Zaj (V:=e193) (L:=nL) (rounds:=20) (depth:=6) g193 Zak (fun x=>by kernel_rfl)
noncomputable def e183:Env:=env1 [(192,s192),(193,s193)]
theorem g183:Zai e183:=Zam mix1 ent1 (Zab ZAP rfl (Zab ZAY rfl Zah))
noncomputable def s183:Spec:=Zao (Zaa (Zaq ZaC) (Zaa (Zae .i64) (Zac (Zap .entry)))) (Zas (Zaq ZaC)) Zfa
set_option maxRecDepth 100000 in
theorem ZyP:Zan Tryz.prog 183 s183 :=
  Zaj (V:=e183) (L:=nL) (rounds:=20) (depth:=6) g183 Zak (fun x=>by kernel_rfl)
noncomputable def e163:Env:=env1 [(181,s181),(183,s183)]
theorem g163:Zai e163:=Zam mix1 ent1 (Zab ZyV rfl (Zab ZyP rfl Zah))
noncomputable def s163:Spec:=Zao (Zac (Zaq ZaC)) (Zas (Zaq ZaC)) ZgJ
set_option maxRecDepth 100000 in
theorem ZAI:Zan Tryz.prog 163 s163 :=
  Zaj (V:=e163) (L:=nL) (rounds:=20) (depth:=6) g163 Zak (fun x=>by kernel_rfl)
noncomputable def e164:Env:=env1 [(120,s120),(176,s176),(180,s180)]
theorem g164:Zai e164:=Zam mix1 ent1 (Zab ZoQ rfl (Zab ZuQ rfl (Zab Zy6 rfl Zah)))
noncomputable def s164:Spec:=Zao (Zac (Zaq ZaC)) (Zas (Zaq ZaC)) ZiO
set_option maxRecDepth 100000 in
theorem ZBp:Zan Tryz.prog 164 s164 :=
  Zaj (V:=e164) (L:=nL) (rounds:=20) (depth:=6) g164 Zak (fun x=>by kernel_rfl)
noncomputable def e194:Env:=env1 []
theorem g194:Zai e194:=Zam mix1 ent1 Zah
noncomputable def s194:Spec:=Zao (Zac (Zap (.lst .entry))) (Zas (ZaQ 54 (.lst .entry))) Zdl
set_option maxRecDepth 100000 in
theorem ZBr:Zan Tryz.prog 194 s194 :=
  Zop (V:=e194) (L:=nL) (rounds:=20) (depth:=6) (r:=(Zas (ZaQ 54 (.lst .entry)))) g194 Zak (by kernel_rfl) (fun x=>by kernel_rfl)
noncomputable def e184:Env:=env1 [(173,s173),(191,s191),(194,s194)]
theorem g184:Zai e184:=Zam mix1 ent1 (Zab ZvG rfl (Zab ZyZ rfl (Zab ZBr rfl Zah)))
noncomputable def s184:Spec:=Zao (Zaa (Zaq Zb2) (Zaa (Zae .i64) (Zac (Zap .entry)))) (Zb0 (Zaa (Zaq Zb2) (Zac (Zae .i64)))) Zhr
set_option maxRecDepth 100000 in
theorem Zy0:Zan Tryz.prog 184 s184 :=
  Zaj (V:=e184) (L:=nL) (rounds:=20) (depth:=6) g184 Zak (fun x=>by kernel_rfl)
noncomputable def e165:Env:=env1 [(184,s184)]
theorem g165:Zai e165:=Zam mix1 ent1 (Zab Zy0 rfl Zah)
noncomputable def s165:Spec:=Zao (Zac (Zaq ZaC)) (Zas (Zaq ZaC)) ZgP
set_option maxRecDepth 100000 in
theorem ZBm:Zan Tryz.prog 165 s165 :=
  Zaj (V:=e165) (L:=nL) (rounds:=20) (depth:=6) g165 Zak (fun x=>by kernel_rfl)
noncomputable def e185:Env:=env1 [(156,s156)]
theorem g185:Zai e185:=Zam mix1 ent1 (Zab ZoK rfl Zah)
noncomputable def s185:Spec:=Zao (Zac (Zae .i64)) (Zas (Zae .i64)) ZgQ
set_option maxRecDepth 100000 in
theorem ZBD:Zan Tryz.prog 185 s185 :=
  Zaj (V:=e185) (L:=nL) (rounds:=20) (depth:=6) g185 Zak (fun x=>by kernel_rfl)
noncomputable def e166:Env:=env1 [(120,s120),(131,s131),(185,s185)]
theorem g166:Zai e166:=Zam mix1 ent1 (Zab ZoQ rfl (Zab Zu1 rfl (Zab ZBD rfl Zah)))
noncomputable def s166:Spec:=Zao (Zac (Zaq ZaC)) (Zas (Zaq ZaC)) ZgR
set_option maxRecDepth 100000 in
theorem ZA4:Zan Tryz.prog 166 s166 :=
  Zaj (V:=e166) (L:=nL) (rounds:=20) (depth:=6) g166 Zak (fun x=>by kernel_rfl)
noncomputable def e118:Env:=env1 [(161,s161),(162,s162),(163,s163),(164,s164),(165,s165),(166,s166)]
theorem g118:Zai e118:=Zam mix1 ent1 (Zab ZAJ rfl (Zab ZBC rfl (Zab ZAI rfl (Zab ZBp rfl (Zab ZBm rfl (Zab ZA4 rfl Zah))))))
noncomputable def s118:Spec:=Zao (Zac (Zaq ZaC)) (Zb0 (Zaa (Zaq ZaC) (Zac (ZaY)))) ZiI
set_option maxRecDepth 100000 in
theorem ZA8:Zan Tryz.prog 118 s118 :=
  Zaj (V:=e118) (L:=nL) (rounds:=20) (depth:=6) g118 Zak (fun x=>by kernel_rfl)
noncomputable def e129:Env:=env1 [(153,s153)]
theorem g129:Zai e129:=Zam mix1 ent1 (Zab Zu8 rfl Zah)
noncomputable def s129:Spec:=Zao (Zac (Zaq ZaC)) (Zas (Zaq ZaC)) Zcd
set_option maxRecDepth 100000 in
theorem ZyC:Zan Tryz.prog 129 s129 :=
  Zaj (V:=e129) (L:=nL) (rounds:=20) (depth:=6) g129 Zak (fun x=>by kernel_rfl)
noncomputable def e140:Env:=env1 [(156,s156)]
theorem g140:Zai e140:=Zam mix1 ent1 (Zab ZoK rfl Zah)
noncomputable def s140:Spec:=Zao (Zaa (Zae .i64) (Zac (Zae .i64))) (Zas (Zae .i64)) Zil
set_option maxRecDepth 100000 in
theorem ZA1:Zan Tryz.prog 140 s140 :=
  Zaj (V:=e140) (L:=nL) (rounds:=20) (depth:=6) g140 Zak (fun x=>by kernel_rfl)
noncomputable def e142:Env:=env1 [(121,s121)]
theorem g142:Zai e142:=Zam mix1 ent1 (Zab Zvm rfl Zah)
noncomputable def s142:Spec:=ZgX (Zaa (Zph (Zal ZaC (Zar .i64))) (Zac (Zae .i64))) (Zas (Zae .i64)) ZbS
set_option maxRecDepth 100000 in
theorem ZBz:Zan Tryz.prog 142 s142 :=
  Zf0 (V:=e142) (L:=nL) (rounds:=20) (depth:=6) g142 Zak (fun x=>by kernel_rfl)
noncomputable def e146:Env:=env1 [(156,s156)]
theorem g146:Zai e146:=Zam mix1 ent1 (Zab ZoK rfl Zah)
noncomputable def s146:Spec:=Zao Zee (Zas (Zae .i64)) Zgq
set_option maxRecDepth 100000 in
theorem ZA2:Zan Tryz.prog 146 s146 :=
  Zaj (V:=e146) (L:=nL) (rounds:=20) (depth:=6) g146 Zak (fun x=>by kernel_rfl)
noncomputable def e147:Env:=env1 [(94,s94)]
theorem g147:Zai e147:=Zam mix1 ent1 (Zab ok94 rfl Zah)
noncomputable def s147:Spec:=Zao (Zaa (Zaq celConfig) (Zac (Zae .i64))) (Zas (Zae .i64)) ZeG
set_option maxRecDepth 100000 in
theorem ZBg:Zan Tryz.prog 147 s147 :=
  Zaj (V:=e147) (L:=nL) (rounds:=20) (depth:=6) g147 Zak (fun x=>by kernel_rfl)
noncomputable def e148:Env:=env1 []
theorem g148:Zai e148:=Zam mix1 ent1 Zah
noncomputable def s148:Spec:=Zao (Zac (Zaq ZaC)) (Zas (Zaq ZaC)) Zc9
set_option maxRecDepth 100000 in
theorem ZyY:Zan Tryz.prog 148 s148 :=
  Zaj (V:=e148) (L:=nL) (rounds:=20) (depth:=6) g148 Zak (fun x=>by kernel_rfl)
noncomputable def e151:Env:=env1 [(173,s173)]
theorem g151:Zai e151:=Zam mix1 ent1 (Zab ZvG rfl Zah)
noncomputable def s151:Spec:=Zao (Zaa (Zap .entry) (Zac (Zae .i64))) (Zas (Zap .entry)) Zj6
set_option maxRecDepth 100000 in
theorem ZBE:Zan Tryz.prog 151 s151 :=
  Zaj (V:=e151) (L:=nL) (rounds:=20) (depth:=6) g151 Zak (fun x=>by kernel_rfl)
noncomputable def e187:Env:=env1 [(60,s60),(91,s91)]
theorem g187:Zai e187:=Zam mix1 ent1 (Zab ok60 rfl (Zab ok91 rfl Zah))
noncomputable def s187:Spec:=Zao (Zaa (Zaq Zb2) (Zaa (Zae .i64) (Zac (Zae .i64)))) (Zb0 (Zaa (Zaq Zb2) (Zaa (Zae .i64) (Zac (Zae .i64))))) ZkT
set_option maxRecDepth 100000 in
theorem ZAz:Zan Tryz.prog 187 s187 :=
  Zaj (V:=e187) (L:=nL) (rounds:=20) (depth:=6) g187 Zak (fun x=>by kernel_rfl)
noncomputable def e188:Env:=env1 [(94,s94)]
theorem g188:Zai e188:=Zam mix1 ent1 (Zab ok94 rfl Zah)
noncomputable def s188:Spec:=Zao (Zaa (Zaq celConfig) (Zaa (Zae .i64) (Zaa (Zae .i64) (Zac (Zae .i64))))) (Zas (Zae .i64)) Zjw
set_option maxRecDepth 100000 in
theorem ZBu:Zan Tryz.prog 188 s188 :=
  Zaj (V:=e188) (L:=nL) (rounds:=20) (depth:=6) g188 Zak (fun x=>by kernel_rfl)
noncomputable def e204:Env:=env1 []
theorem g204:Zai e204:=Zam mix1 ent1 Zah
noncomputable def s204:Spec:=Zao (Zac (Zaq Zds)) (Zas (Zae .i64)) Zfg
set_option maxRecDepth 100000 in
theorem ZAD:Zan Tryz.prog 204 s204 :=
  Zaj (V:=e204) (L:=nL) (rounds:=20) (depth:=6) g204 Zak (fun x=>by kernel_rfl)
end Go.Proofs.Mill
