/- The functions compute this. -/
import Derived.Test.YtaopdopnecognaaGreatMillOkCb
import Derived.Test.YtaopdopnecognaaGreatMillItersb
import Derived.Test.YtaopdopnecognaaGreatMillSeat3
import Derived.Test.YtaopdopnecognaaGreatMillFDb
namespace Go.Proofs.Mill
set_option linter.all false
noncomputable def e23:Env:=env1 []
theorem g23:Zai e23:=Zal mix1 ent1 Zah
noncomputable def ZyF:LSpec:=Znf 9 itEvents [4,5] (Zaa (Zay ZeV) (Zac (Zay celBool)))  (Zil itEvents Zft)
set_option maxRecDepth 100000 in
theorem ZzP:LoopOK e23 20 ZyF (Za9 e23.P 23 2) :=
  Znh (nt:=20) (n:=1) (rounds:=20) (depth:=6) (gt:=9) (it:=itEvents) (ts:=[4,5]) (v:=(Zaa (Zay ZeV) (Zac (Zay celBool))))  (step:=Zft) g23 ZpG (fun _=>rfl)  (by kernel_rfl) (fun x e=>by kernel_rfl)
noncomputable def s23:Spec:=Zao (Zaa (Zap .event) (Zac (Zad .i64))) (Zb3 (Zaa (Zaq ZeV) (Zac (ZaW)))) Zjn
set_option maxRecDepth 100000 in
theorem ok23:Zan Tryz.prog 23 s23 :=
  Zaj (V:=e23) (L:=(ZaR [(2,ZyF)])) (rounds:=20) (depth:=6) g23 (Zbu (nt:=20) (by kernel_rfl) (Zb9 (by kernel_rfl)) (ZaK ZzP Za1)) (fun x=>by kernel_rfl)
noncomputable def e27:Env:=env1 []
theorem g27:Zai e27:=Zal mix1 ent1 Zah
noncomputable def Zy5:LSpec:=Zei [2,3,4,7,8,9] (Zaa (Zad .i64) (Zaa (Zad .i64) (Zaa (Zad .i64) (Zaa (Zap .event) (Zaa (Zad .i64) (Zac (Zad .i64))))))) (⟨.exit 0,[2,3,4],(Zaa (Zad .i64) (Zaa (Zad .i64) (Zac (Zad .i64))))⟩:Way) (ZaH ZfN)
set_option maxRecDepth 100000 in
theorem ZAi:LoopOK e27 31 Zy5 (Za9 e27.P 27 2) :=
  ZcC (L:=ZaR []) (rounds:=20) (depth:=6) (ts:=[2,3,4,7,8,9]) (v:=(Zaa (Zad .i64) (Zaa (Zad .i64) (Zaa (Zad .i64) (Zaa (Zap .event) (Zaa (Zad .i64) (Zac (Zad .i64)))))))) (a:=⟨.exit 0,[2,3,4],(Zaa (Zad .i64) (Zaa (Zad .i64) (Zac (Zad .i64))))⟩) (step:=ZfN) g27 rfl Za4 (fun x=>by kernel_rfl)
noncomputable def s27:Spec:=Zao (Zac (Zap .event)) (Zb3 (Zaa (Zad .i64) (Zaa (Zad .i64) (Zac (Zad .i64))))) ZjX
set_option maxRecDepth 100000 in
theorem ok27:Zan Tryz.prog 27 s27 :=
  Zaj (V:=e27) (L:=(ZaR [(2,Zy5)])) (rounds:=20) (depth:=6) g27 (Zbu (nt:=31) (by kernel_rfl) (Zb9 (by kernel_rfl)) (ZaK ZAi Za1)) (fun x=>by kernel_rfl)
noncomputable def e68:Env:=env1 []
theorem g68:Zai e68:=Zal mix1 ent1 Zah
noncomputable def s68:Spec:=Zao (Zaa (Zad .i64) (Zac (Zad .i64))) (Zas (Zad .i64)) Zhs
set_option maxRecDepth 100000 in
theorem ok68:Zan Tryz.prog 68 s68 :=
  Zaj (V:=e68) (L:=nL) (rounds:=20) (depth:=6) g68 Zak (fun x=>by kernel_rfl)
noncomputable def e66:Env:=env1 [(68,s68)]
theorem g66:Zai e66:=Zal mix1 ent1 (Zab ok68 rfl Zah)
noncomputable def ZyK:LSpec:=Zgc [0,1,5] (Zaa (Zap .mark) (Zaa (ZvF 67) (Zac (Zad .i64)))) (⟨.exit 0,[],Zem⟩:Way) (⟨.ret,[4],(Zac (ZaW))⟩:Way) (ZaH Zbb)
set_option maxRecDepth 100000 in
theorem ZzI:LoopOK e66 25 ZyK (Za9 e66.P 66 2) :=
  Zec (L:=ZaR []) (rounds:=20) (depth:=6) (ts:=[0,1,5]) (v:=(Zaa (Zap .mark) (Zaa (ZvF 67) (Zac (Zad .i64))))) (a:=⟨.exit 0,[],Zem⟩) (b:=⟨.ret,[4],(Zac (ZaW))⟩) (step:=Zbb) g66 rfl rfl Za4 (fun x=>by kernel_rfl)
noncomputable def s66:Spec:=Zao (Zaa (Zap .mark) (Zac (ZvF 67))) (Zas (ZaW)) ZcF
set_option maxRecDepth 100000 in
theorem ok66:Zan Tryz.prog 66 s66 :=
  Zaj (V:=e66) (L:=(ZaR [(2,ZyK)])) (rounds:=20) (depth:=6) g66 (Zbu (nt:=25) (by kernel_rfl) (Zb9 (by kernel_rfl)) (ZaK ZzI Za1)) (fun x=>by kernel_rfl)
noncomputable def e69:Env:=env1 [(90,s90)]
theorem g69:Zai e69:=Zal mix1 ent1 (Zab ok90 rfl Zah)
noncomputable def Zy2:LSpec:=Znf 15 itReplay [3,8,9] (Zaa (Zay celConfig) (Zaa (Zay (Zar .i64)) (Zac (Zay celBool))))  (Zil itReplay Zdt)
set_option maxRecDepth 100000 in
theorem ZAb:LoopOK e69 37 Zy2 (Za9 e69.P 69 3) :=
  Znh (nt:=37) (n:=1) (rounds:=20) (depth:=6) (gt:=15) (it:=itReplay) (ts:=[3,8,9]) (v:=(Zaa (Zay celConfig) (Zaa (Zay (Zar .i64)) (Zac (Zay celBool)))))  (step:=Zdt) g69 Zvt (fun _=>rfl)  (by kernel_rfl) (fun x e=>by kernel_rfl)
noncomputable def s69:Spec:=Zao (Zaa (Zaq celConfig) (Zaa (Zap .mark) (Zac (Zad .i64)))) (Zb3 (Zaa (Zad .i64) (Zac (ZaW)))) Zdc
set_option maxRecDepth 100000 in
theorem ok69:Zan Tryz.prog 69 s69 :=
  Zaj (V:=e69) (L:=(ZaR [(3,Zy2)])) (rounds:=20) (depth:=6) g69 (Zbu (nt:=37) (by kernel_rfl) (Zb9 (by kernel_rfl)) (ZaK ZAb Za1)) (fun x=>by kernel_rfl)
noncomputable def e111:Env:=env1 []
theorem g111:Zai e111:=Zal mix1 ent1 Zah
noncomputable def Zw2:LSpec:=Znf 6 itOwn [2] (Zac (Zay (Zbr 65 .mark)))  (Zil itOwn ZbJ)
set_option maxRecDepth 100000 in
theorem ZxS:LoopOK e111 13 Zw2 (Za9 e111.P 111 2) :=
  Znh (nt:=13) (n:=1) (rounds:=20) (depth:=6) (gt:=6) (it:=itOwn) (ts:=[2]) (v:=(Zac (Zay (Zbr 65 .mark))))  (step:=ZbJ) g111 ZAk (fun _=>rfl)  (by kernel_rfl) (fun x e=>by kernel_rfl)
noncomputable def s111:Spec:=ZgY (Zaa (ZsM) (Zac (Zzd itOwn))) (Zas (ZaM 65 .mark)) ZcX
set_option maxRecDepth 100000 in
theorem ZBv:Zan Tryz.prog 111 s111 :=
  ZfY (V:=e111) (L:=(ZaR [(2,Zw2)])) (rounds:=20) (depth:=6) g111 (Zbu (nt:=13) (by kernel_rfl) (Zb9 (by kernel_rfl)) (ZaK ZxS Za1)) (fun x=>by kernel_rfl)
noncomputable def e95:Env:=env1 [(111,s111)]
theorem g95:Zai e95:=Zal mix1 ent1 (Zab ZBv rfl Zah)
noncomputable def s95:Spec:=ZgY (Zac (Zzd itOwn)) (Zas (ZaM 65 .mark)) Zdf
set_option maxRecDepth 100000 in
theorem ok95:Zan Tryz.prog 95 s95 :=
  ZfY (V:=e95) (L:=nL) (rounds:=20) (depth:=6) g95 Zak (fun x=>by kernel_rfl)
noncomputable def e98:Env:=env1 []
theorem g98:Zai e98:=Zal mix1 ent1 Zah
noncomputable def s98:Spec:=Zao (Zac (Zaq ZeV)) (Zas (Zaq Zx8)) ZeG
set_option maxRecDepth 100000 in
theorem ok98:Zan Tryz.prog 98 s98 :=
  Zaj (V:=e98) (L:=nL) (rounds:=20) (depth:=6) g98 Zak (fun x=>by kernel_rfl)
noncomputable def e97:Env:=env1 [(90,s90),(98,s98)]
theorem g97:Zai e97:=Zal mix1 ent1 (Zab ok90 rfl (Zab ok98 rfl Zah))
noncomputable def s97:Spec:=Zao (Zaa (Zaq celConfig) (Zaa (Zaq Zqn) (Zaa (Zaq ZeV) (Zac (Zaq ZeV))))) (Zas (ZaW)) ZfB
set_option maxRecDepth 100000 in
theorem ok97:Zan Tryz.prog 97 s97 :=
  Zaj (V:=e97) (L:=nL) (rounds:=20) (depth:=6) g97 Zak (fun x=>by kernel_rfl)
noncomputable def e72:Env:=env1 [(95,s95),(97,s97),(98,s98)]
theorem g72:Zai e72:=Zal mix1 ent1 (Zab ok95 rfl (Zab ok97 rfl (Zab ok98 rfl Zah)))
noncomputable def ZyR:LSpec:=Zsc 19 itEvents [4,8,9,10,11] (Zaa (Zay celConfig) (Zaa (Zay celBool) (Zaa (Zay (ZeM .mark)) (Zaa (Zay ZeV) (Zac (Zay celBool)))))) (⟨.ret,[8],(Zac (Zay celBool))⟩:Way) (ZnP itEvents Zch)
set_option maxRecDepth 100000 in
theorem ZzA:LoopOK e72 78 ZyR (Za9 e72.P 72 5) :=
  Zw1 (nt:=78) (n:=1) (rounds:=20) (depth:=6) (gt:=19) (it:=itEvents) (ts:=[4,8,9,10,11]) (v:=(Zaa (Zay celConfig) (Zaa (Zay celBool) (Zaa (Zay (ZeM .mark)) (Zaa (Zay ZeV) (Zac (Zay celBool))))))) (b:=⟨.ret,[8],(Zac (Zay celBool))⟩) (step:=Zch) g72 ZpG (fun _=>rfl) rfl (by kernel_rfl) (fun x e=>by kernel_rfl)
noncomputable def s72:Spec:=Zao (Zaa (Zaq celConfig) (Zaa (Zap .mark) (Zaa (Zap .event) (Zac (Zad .i64))))) (Zas (ZaW)) Zc7
set_option maxRecDepth 100000 in
theorem ok72:Zan Tryz.prog 72 s72 :=
  Zaj (V:=e72) (L:=(ZaR [(5,ZyR)])) (rounds:=20) (depth:=6) g72 (Zbu (nt:=78) (by kernel_rfl) (Zb9 (by kernel_rfl)) (ZaK ZzA Za1)) (fun x=>by kernel_rfl)
noncomputable def e31:Env:=env1 [(56,s56),(66,s66),(69,s69),(70,s70),(71,s71),(72,s72)]
theorem g31:Zai e31:=Zal mix1 ent1 (Zab ok56 rfl (Zab ok66 rfl (Zab ok69 rfl (Zab ok70 rfl (Zab ok71 rfl (Zab ok72 rfl Zah))))))
noncomputable def Zwh:LSpec:=Zgc [1,58,59] (Zaa (Zay Zc4) (Zaa (Zad .i64) (Zac (Zad .i64)))) (⟨.exit 2,[],Zem⟩:Way) (⟨.ret,[2],(Zac (ZaW))⟩:Way) (ZaH ZcD)
set_option maxRecDepth 100000 in
theorem Zx2:LoopOK e31 72 Zwh (Za9 e31.P 31 12) :=
  Zec (L:=ZaR []) (rounds:=20) (depth:=6) (ts:=[1,58,59]) (v:=(Zaa (Zay Zc4) (Zaa (Zad .i64) (Zac (Zad .i64))))) (a:=⟨.exit 2,[],Zem⟩) (b:=⟨.ret,[2],(Zac (ZaW))⟩) (step:=ZcD) g31 rfl rfl Za4 (fun x=>by kernel_rfl)
noncomputable def Zzm:LSpec:=Zgc [1,21,22] (Zaa (Zay Zc4) (Zaa (Zad .i64) (Zac (Zad .i64)))) (⟨.exit 0,[1],(Zac (Zay Zc4))⟩:Way) (⟨.ret,[2],(Zac (ZaW))⟩:Way) (ZaH ZcR)
set_option maxRecDepth 100000 in
theorem ZzB:LoopOK e31 72 Zzm (Za9 e31.P 31 4) :=
  Zec (L:=ZaR []) (rounds:=20) (depth:=6) (ts:=[1,21,22]) (v:=(Zaa (Zay Zc4) (Zaa (Zad .i64) (Zac (Zad .i64))))) (a:=⟨.exit 0,[1],(Zac (Zay Zc4))⟩) (b:=⟨.ret,[2],(Zac (ZaW))⟩) (step:=ZcR) g31 rfl rfl Za4 (fun x=>by kernel_rfl)
noncomputable def s31:Spec:=Zao (Zac (Zaq Zc4)) (Zas (ZaW)) ZbH
set_option maxRecDepth 100000 in
theorem ok31:Zan Tryz.prog 31 s31 :=
  Zaj (V:=e31) (L:=(ZaR [(12,Zwh),(4,Zzm)])) (rounds:=20) (depth:=6) g31 (Zbu (nt:=72) (by kernel_rfl) (Zb9 (by kernel_rfl)) (ZaK Zx2 (ZaK ZzB Za1))) (fun x=>by kernel_rfl)
noncomputable def e46:Env:=env1 [(23,s23),(27,s27),(69,s69),(72,s72)]
theorem g46:Zai e46:=Zal mix1 ent1 (Zab ok23 rfl (Zab ok27 rfl (Zab ok69 rfl (Zab ok72 rfl Zah))))
noncomputable def s46:Spec:=Zao Zem (Zas (ZaW)) ZdM
set_option maxRecDepth 100000 in
theorem ok46:Zan Tryz.prog 46 s46 :=
  Zaj (V:=e46) (L:=nL) (rounds:=20) (depth:=6) g46 Zak (fun x=>by kernel_rfl)
noncomputable def e10:Env:=env1 [(16,s16),(31,s31),(46,s46),(47,s47)]
theorem g10:Zai e10:=Zal mix1 ent1 (Zab ok16 rfl (Zab ok31 rfl (Zab ok46 rfl (Zab ok47 rfl Zah))))
noncomputable def ZwU:LSpec:=Zgc [3,4,5,11,15,16,19,20] (Zaa (Zad .u8) (Zaa (Zad .i64) (Zaa (Zay celConfig) (Zaa (Zay Zc4) (Zaa (ZaM 50 .event) (Zaa (ZaM 3 .int) (Zaa (Zay Zc4) (Zac (Zad .i64))))))))) (⟨.exit 0,[3,4,5,11,16],(Zaa (Zad .u8) (Zaa (Zad .i64) (Zaa (Zay celConfig) (Zaa (Zay Zc4) (Zac (ZaM 3 .int))))))⟩:Way) (⟨.ret,[10],(Zac (ZaW))⟩:Way) (ZaH Zd7)
set_option maxRecDepth 100000 in
theorem ZxG:LoopOK e10 149 ZwU (Za9 e10.P 10 18) :=
  Zec (L:=ZaR []) (rounds:=20) (depth:=6) (ts:=[3,4,5,11,15,16,19,20]) (v:=(Zaa (Zad .u8) (Zaa (Zad .i64) (Zaa (Zay celConfig) (Zaa (Zay Zc4) (Zaa (ZaM 50 .event) (Zaa (ZaM 3 .int) (Zaa (Zay Zc4) (Zac (Zad .i64)))))))))) (a:=⟨.exit 0,[3,4,5,11,16],(Zaa (Zad .u8) (Zaa (Zad .i64) (Zaa (Zay celConfig) (Zaa (Zay Zc4) (Zac (ZaM 3 .int))))))⟩) (b:=⟨.ret,[10],(Zac (ZaW))⟩) (step:=Zd7) g10 rfl rfl Za4 (fun x=>by kernel_rfl)
noncomputable def s10:Spec:=Zao (Zaa (Zaq celConfig) (Zaa (Zap .sentry) (Zaa (Zap .int) (Zaa (Zad .u8) (Zac (Zad .i64)))))) (Zas (ZaW)) Zlt
set_option maxRecDepth 100000 in
theorem ok10:Zan Tryz.prog 10 s10 :=
  Zaj (V:=e10) (L:=(ZaR [(18,ZwU)])) (rounds:=20) (depth:=6) g10 (Zbu (nt:=149) (by kernel_rfl) (Zb9 (by kernel_rfl)) (ZaK ZxG Za1)) (fun x=>by kernel_rfl)
noncomputable def e11:Env:=env1 [(16,s16),(23,s23),(31,s31),(46,s46),(48,s48)]
noncomputable def e12:Env:=env1 [(16,s16),(23,s23),(24,s24),(27,s27),(31,s31),(45,s45),(46,s46)]
end Go.Proofs.Mill
