/- The functions compute this. -/
import Derived.Test.YtaopdopnecognaaGreatMillOkCb
import Derived.Test.YtaopdopnecognaaGreatMillItersb
import Derived.Test.YtaopdopnecognaaGreatMillSeat3
import Derived.Test.YtaopdopnecognaaGreatMillFDb
namespace Go.Proofs.Mill
set_option linter.all false
noncomputable def e23:Env:=env1 []
theorem g23:Zai e23:=Zam mix1 ent1 Zah
noncomputable def Zy8:LSpec:=Zna 9 itEvents [4,5] (Zaa (ZaA ZeW) (Zac (ZaA celBool)))  (Zii itEvents Zea)
set_option maxRecDepth 100000 in
theorem Zzw:LoopOK e23 20 Zy8 (Zbc e23.P 23 2) :=
  Znc (nt:=20) (n:=1) (rounds:=20) (depth:=6) (gt:=9) (it:=itEvents) (ts:=[4,5]) (v:=(Zaa (ZaA ZeW) (Zac (ZaA celBool))))  (step:=Zea) g23 Zpl (fun _=>rfl)  (by kernel_rfl) (fun x e=>by kernel_rfl)
noncomputable def s23:Spec:=Zao (Zaa (Zap .event) (Zac (Zae .i64))) (Zb0 (Zaa (Zaq ZeW) (Zac (ZaY)))) Zev
set_option maxRecDepth 100000 in
theorem ok23:Zan Tryz.prog 23 s23 :=
  Zaj (V:=e23) (L:=(ZaT [(2,Zy8)])) (rounds:=20) (depth:=6) g23 (ZbH (nt:=20) (by kernel_rfl) (Zcn (by kernel_rfl)) (ZaM Zzw Za3)) (fun x=>by kernel_rfl)
noncomputable def e27:Env:=env1 []
theorem g27:Zai e27:=Zam mix1 ent1 Zah
noncomputable def Zzi:LSpec:=Zen [2,3,4,7,8,9] (Zaa (Zae .i64) (Zaa (Zae .i64) (Zaa (Zae .i64) (Zaa (Zap .event) (Zaa (Zae .i64) (Zac (Zae .i64))))))) (⟨.exit 0,[2,3,4],(Zaa (Zae .i64) (Zaa (Zae .i64) (Zac (Zae .i64))))⟩:Way) (ZaH Zfy)
set_option maxRecDepth 100000 in
theorem ZzH:LoopOK e27 31 Zzi (Zbc e27.P 27 2) :=
  ZcL (L:=ZaT []) (rounds:=20) (depth:=6) (ts:=[2,3,4,7,8,9]) (v:=(Zaa (Zae .i64) (Zaa (Zae .i64) (Zaa (Zae .i64) (Zaa (Zap .event) (Zaa (Zae .i64) (Zac (Zae .i64)))))))) (a:=⟨.exit 0,[2,3,4],(Zaa (Zae .i64) (Zaa (Zae .i64) (Zac (Zae .i64))))⟩) (step:=Zfy) g27 rfl Za8 (fun x=>by kernel_rfl)
noncomputable def s27:Spec:=Zao (Zac (Zap .event)) (Zb0 (Zaa (Zae .i64) (Zaa (Zae .i64) (Zac (Zae .i64))))) Zj5
set_option maxRecDepth 100000 in
theorem ok27:Zan Tryz.prog 27 s27 :=
  Zaj (V:=e27) (L:=(ZaT [(2,Zzi)])) (rounds:=20) (depth:=6) g27 (ZbH (nt:=31) (by kernel_rfl) (Zcn (by kernel_rfl)) (ZaM ZzH Za3)) (fun x=>by kernel_rfl)
noncomputable def e68:Env:=env1 []
theorem g68:Zai e68:=Zam mix1 ent1 Zah
noncomputable def s68:Spec:=Zao (Zaa (Zae .i64) (Zac (Zae .i64))) (Zas (Zae .i64)) Zg7
set_option maxRecDepth 100000 in
theorem ok68:Zan Tryz.prog 68 s68 :=
  Zaj (V:=e68) (L:=nL) (rounds:=20) (depth:=6) g68 Zak (fun x=>by kernel_rfl)
noncomputable def e66:Env:=env1 [(68,s68)]
theorem g66:Zai e66:=Zam mix1 ent1 (Zab ok68 rfl Zah)
noncomputable def Zy9:LSpec:=Zgw [0,1,5] (Zaa (Zap .mark) (Zaa (ZvT 67) (Zac (Zae .i64)))) (⟨.exit 0,[],Zee⟩:Way) (⟨.ret,[4],(Zac (ZaY))⟩:Way) (ZaH Zbb)
set_option maxRecDepth 100000 in
theorem ZzK:LoopOK e66 25 Zy9 (Zbc e66.P 66 2) :=
  Zet (L:=ZaT []) (rounds:=20) (depth:=6) (ts:=[0,1,5]) (v:=(Zaa (Zap .mark) (Zaa (ZvT 67) (Zac (Zae .i64))))) (a:=⟨.exit 0,[],Zee⟩) (b:=⟨.ret,[4],(Zac (ZaY))⟩) (step:=Zbb) g66 rfl rfl Za8 (fun x=>by kernel_rfl)
noncomputable def s66:Spec:=Zao (Zaa (Zap .mark) (Zac (ZvT 67))) (Zas (ZaY)) ZcE
set_option maxRecDepth 100000 in
theorem ok66:Zan Tryz.prog 66 s66 :=
  Zaj (V:=e66) (L:=(ZaT [(2,Zy9)])) (rounds:=20) (depth:=6) g66 (ZbH (nt:=25) (by kernel_rfl) (Zcn (by kernel_rfl)) (ZaM ZzK Za3)) (fun x=>by kernel_rfl)
noncomputable def e69:Env:=env1 [(90,s90)]
theorem g69:Zai e69:=Zam mix1 ent1 (Zab ok90 rfl Zah)
noncomputable def ZyF:LSpec:=Zna 15 itReplay [3,8,9] (Zaa (ZaA celConfig) (Zaa (ZaA (Zar .i64)) (Zac (ZaA celBool))))  (Zii itReplay Zdq)
set_option maxRecDepth 100000 in
theorem ZzC:LoopOK e69 37 ZyF (Zbc e69.P 69 3) :=
  Znc (nt:=37) (n:=1) (rounds:=20) (depth:=6) (gt:=15) (it:=itReplay) (ts:=[3,8,9]) (v:=(Zaa (ZaA celConfig) (Zaa (ZaA (Zar .i64)) (Zac (ZaA celBool)))))  (step:=Zdq) g69 ZvR (fun _=>rfl)  (by kernel_rfl) (fun x e=>by kernel_rfl)
noncomputable def s69:Spec:=Zao (Zaa (Zaq celConfig) (Zaa (Zap .mark) (Zac (Zae .i64)))) (Zb0 (Zaa (Zae .i64) (Zac (ZaY)))) Zc8
set_option maxRecDepth 100000 in
theorem ok69:Zan Tryz.prog 69 s69 :=
  Zaj (V:=e69) (L:=(ZaT [(3,ZyF)])) (rounds:=20) (depth:=6) g69 (ZbH (nt:=37) (by kernel_rfl) (Zcn (by kernel_rfl)) (ZaM ZzC Za3)) (fun x=>by kernel_rfl)
noncomputable def e111:Env:=env1 []
theorem g111:Zai e111:=Zam mix1 ent1 Zah
noncomputable def Zw6:LSpec:=Zna 6 itOwn [2] (Zac (ZaA (Zbr 65 .mark)))  (Zii itOwn ZbF)
set_option maxRecDepth 100000 in
theorem Zx2:LoopOK e111 13 Zw6 (Zbc e111.P 111 2) :=
  Znc (nt:=13) (n:=1) (rounds:=20) (depth:=6) (gt:=6) (it:=itOwn) (ts:=[2]) (v:=(Zac (ZaA (Zbr 65 .mark))))  (step:=ZbF) g111 Zzy (fun _=>rfl)  (by kernel_rfl) (fun x e=>by kernel_rfl)
noncomputable def s111:Spec:=ZgX (Zaa (ZsT) (Zac (Zzh itOwn))) (Zas (ZaQ 65 .mark)) ZcT
set_option maxRecDepth 100000 in
theorem ZBj:Zan Tryz.prog 111 s111 :=
  Zf0 (V:=e111) (L:=(ZaT [(2,Zw6)])) (rounds:=20) (depth:=6) g111 (ZbH (nt:=13) (by kernel_rfl) (Zcn (by kernel_rfl)) (ZaM Zx2 Za3)) (fun x=>by kernel_rfl)
noncomputable def e95:Env:=env1 [(111,s111)]
theorem g95:Zai e95:=Zam mix1 ent1 (Zab ZBj rfl Zah)
noncomputable def s95:Spec:=ZgX (Zac (Zzh itOwn)) (Zas (ZaQ 65 .mark)) Zdd
set_option maxRecDepth 100000 in
theorem ok95:Zan Tryz.prog 95 s95 :=
  Zf0 (V:=e95) (L:=nL) (rounds:=20) (depth:=6) g95 Zak (fun x=>by kernel_rfl)
noncomputable def e98:Env:=env1 []
theorem g98:Zai e98:=Zam mix1 ent1 Zah
noncomputable def s98:Spec:=Zao (Zac (Zaq ZeW)) (Zas (Zaq ZxY)) Zez
set_option maxRecDepth 100000 in
theorem ok98:Zan Tryz.prog 98 s98 :=
  Zaj (V:=e98) (L:=nL) (rounds:=20) (depth:=6) g98 Zak (fun x=>by kernel_rfl)
noncomputable def e97:Env:=env1 [(90,s90),(98,s98)]
theorem g97:Zai e97:=Zam mix1 ent1 (Zab ok90 rfl (Zab ok98 rfl Zah))
noncomputable def s97:Spec:=Zao (Zaa (Zaq celConfig) (Zaa (Zaq Zqq) (Zaa (Zaq ZeW) (Zac (Zaq ZeW))))) (Zas (ZaY)) ZfO
set_option maxRecDepth 100000 in
theorem ok97:Zan Tryz.prog 97 s97 :=
  Zaj (V:=e97) (L:=nL) (rounds:=20) (depth:=6) g97 Zak (fun x=>by kernel_rfl)
noncomputable def e72:Env:=env1 [(95,s95),(97,s97),(98,s98)]
theorem g72:Zai e72:=Zam mix1 ent1 (Zab ok95 rfl (Zab ok97 rfl (Zab ok98 rfl Zah)))
noncomputable def Zy1:LSpec:=Zsa 19 itEvents [4,8,9,10,11] (Zaa (ZaA celConfig) (Zaa (ZaA celBool) (Zaa (ZaA (ZeB .mark)) (Zaa (ZaA ZeW) (Zac (ZaA celBool)))))) (⟨.ret,[8],(Zac (ZaA celBool))⟩:Way) (Znw itEvents Zcc)
set_option maxRecDepth 100000 in
theorem ZzP:LoopOK e72 78 Zy1 (Zbc e72.P 72 5) :=
  Zwy (nt:=78) (n:=1) (rounds:=20) (depth:=6) (gt:=19) (it:=itEvents) (ts:=[4,8,9,10,11]) (v:=(Zaa (ZaA celConfig) (Zaa (ZaA celBool) (Zaa (ZaA (ZeB .mark)) (Zaa (ZaA ZeW) (Zac (ZaA celBool))))))) (b:=⟨.ret,[8],(Zac (ZaA celBool))⟩) (step:=Zcc) g72 Zpl (fun _=>rfl) rfl (by kernel_rfl) (fun x e=>by kernel_rfl)
noncomputable def s72:Spec:=Zao (Zaa (Zaq celConfig) (Zaa (Zap .mark) (Zaa (Zap .event) (Zac (Zae .i64))))) (Zas (ZaY)) Zc0
set_option maxRecDepth 100000 in
theorem ok72:Zan Tryz.prog 72 s72 :=
  Zaj (V:=e72) (L:=(ZaT [(5,Zy1)])) (rounds:=20) (depth:=6) g72 (ZbH (nt:=78) (by kernel_rfl) (Zcn (by kernel_rfl)) (ZaM ZzP Za3)) (fun x=>by kernel_rfl)
noncomputable def e31:Env:=env1 [(56,s56),(66,s66),(69,s69),(70,s70),(71,s71),(72,s72)]
theorem g31:Zai e31:=Zam mix1 ent1 (Zab ok56 rfl (Zab ok66 rfl (Zab ok69 rfl (Zab ok70 rfl (Zab ok71 rfl (Zab ok72 rfl Zah))))))
noncomputable def Zw0:LSpec:=Zgw [1,58,59] (Zaa (ZaA Zex) (Zaa (Zae .i64) (Zac (Zae .i64)))) (⟨.exit 2,[],Zee⟩:Way) (⟨.ret,[2],(Zac (ZaY))⟩:Way) (ZaH Zcz)
set_option maxRecDepth 100000 in
theorem ZxX:LoopOK e31 72 Zw0 (Zbc e31.P 31 12) :=
  Zet (L:=ZaT []) (rounds:=20) (depth:=6) (ts:=[1,58,59]) (v:=(Zaa (ZaA Zex) (Zaa (Zae .i64) (Zac (Zae .i64))))) (a:=⟨.exit 2,[],Zee⟩) (b:=⟨.ret,[2],(Zac (ZaY))⟩) (step:=Zcz) g31 rfl rfl Za8 (fun x=>by kernel_rfl)
noncomputable def ZyG:LSpec:=Zgw [1,21,22] (Zaa (ZaA Zex) (Zaa (Zae .i64) (Zac (Zae .i64)))) (⟨.exit 0,[1],(Zac (ZaA Zex))⟩:Way) (⟨.ret,[2],(Zac (ZaY))⟩:Way) (ZaH ZcP)
set_option maxRecDepth 100000 in
theorem Zzv:LoopOK e31 72 ZyG (Zbc e31.P 31 4) :=
  Zet (L:=ZaT []) (rounds:=20) (depth:=6) (ts:=[1,21,22]) (v:=(Zaa (ZaA Zex) (Zaa (Zae .i64) (Zac (Zae .i64))))) (a:=⟨.exit 0,[1],(Zac (ZaA Zex))⟩) (b:=⟨.ret,[2],(Zac (ZaY))⟩) (step:=ZcP) g31 rfl rfl Za8 (fun x=>by kernel_rfl)
noncomputable def s31:Spec:=Zao (Zac (Zaq Zex)) (Zas (ZaY)) ZcN
set_option maxRecDepth 100000 in
theorem ok31:Zan Tryz.prog 31 s31 :=
  Zaj (V:=e31) (L:=(ZaT [(12,Zw0),(4,ZyG)])) (rounds:=20) (depth:=6) g31 (ZbH (nt:=72) (by kernel_rfl) (Zcn (by kernel_rfl)) (ZaM ZxX (ZaM Zzv Za3))) (fun x=>by kernel_rfl)
noncomputable def e46:Env:=env1 [(23,s23),(27,s27),(69,s69),(72,s72)]
theorem g46:Zai e46:=Zam mix1 ent1 (Zab ok23 rfl (Zab ok27 rfl (Zab ok69 rfl (Zab ok72 rfl Zah))))
noncomputable def s46:Spec:=Zao Zee (Zas (ZaY)) Zef
set_option maxRecDepth 100000 in
theorem ok46:Zan Tryz.prog 46 s46 :=
  Zaj (V:=e46) (L:=nL) (rounds:=20) (depth:=6) g46 Zak (fun x=>by kernel_rfl)
noncomputable def e10:Env:=env1 [(16,s16),(31,s31),(46,s46),(47,s47)]
noncomputable def e11:Env:=env1 [(16,s16),(23,s23),(31,s31),(46,s46),(48,s48)]
theorem g11:Zai e11:=Zam mix1 ent1 (Zab ok16 rfl (Zab ok23 rfl (Zab ok31 rfl (Zab ok46 rfl (Zab ok48 rfl Zah)))))
noncomputable def s11:Spec:=Zao (Zaa (Zaq celConfig) (Zaa (Zap .sentry) (Zac (Zap .int)))) (Zas (ZaY)) ZkF
set_option maxRecDepth 100000 in
theorem ok11:Zan Tryz.prog 11 s11 :=
  Zaj (V:=e11) (L:=nL) (rounds:=20) (depth:=6) g11 Zak (fun x=>by kernel_rfl)
noncomputable def e12:Env:=env1 [(16,s16),(23,s23),(24,s24),(27,s27),(31,s31),(45,s45),(46,s46)]
end Go.Proofs.Mill
