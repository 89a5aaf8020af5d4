/- The functions compute this. -/
import Derived.Test.YtaopdopnecognaaGreatMillOkCb
import Derived.Test.YtaopdopnecognaaGreatMillItersb
import Derived.Test.YtaopdopnecognaaGreatMillSeat3
import Derived.Test.YtaopdopnecognaaGreatMillFDb
namespace Go.Proofs.Mill
set_option linter.all false
noncomputable def e23:Env:=env1 []
theorem g23:Zai e23:=Zam mix1 ent1 Zah
noncomputable def Zy5:LSpec:=Znk 9 itEvents [4,5] (Zaa (Zaz Ze2) (Zac (Zaz celBool)))  (Ziy itEvents Zek)
set_option maxRecDepth 100000 in
theorem ZzC:LoopOK e23 20 Zy5 (Za9 e23.P 23 2) :=
  Zm0 (nt:=20) (n:=1) (rounds:=20) (depth:=6) (gt:=9) (it:=itEvents) (ts:=[4,5]) (v:=(Zaa (Zaz Ze2) (Zac (Zaz celBool))))  (step:=Zek) g23 Zpz (fun _=>rfl)  (by kernel_rfl) (fun x e=>by kernel_rfl)
noncomputable def s23:Spec:=Zao (Zaa (Zap .event) (Zac (Zae .i64))) (Zb1 (Zaa (Zaq Ze2) (Zac (ZaW)))) ZeD
set_option maxRecDepth 100000 in
theorem ok23:Zan Tryz.prog 23 s23 :=
  Zaj (V:=e23) (L:=(ZaS [(2,Zy5)])) (rounds:=20) (depth:=6) g23 (Zbz (nt:=20) (by kernel_rfl) (Zce (by kernel_rfl)) (ZaJ ZzC Za2)) (fun x=>by kernel_rfl)
noncomputable def e27:Env:=env1 []
theorem g27:Zai e27:=Zam mix1 ent1 Zah
noncomputable def Zzp:LSpec:=Zeu [2,3,4,7,8,9] (Zaa (Zae .i64) (Zaa (Zae .i64) (Zaa (Zae .i64) (Zaa (Zap .event) (Zaa (Zae .i64) (Zac (Zae .i64))))))) (⟨.exit 0,[2,3,4],(Zaa (Zae .i64) (Zaa (Zae .i64) (Zac (Zae .i64))))⟩:Way) (ZaH Zdr)
set_option maxRecDepth 100000 in
theorem ZAl:LoopOK e27 31 Zzp (Za9 e27.P 27 2) :=
  ZcM (L:=ZaS []) (rounds:=20) (depth:=6) (ts:=[2,3,4,7,8,9]) (v:=(Zaa (Zae .i64) (Zaa (Zae .i64) (Zaa (Zae .i64) (Zaa (Zap .event) (Zaa (Zae .i64) (Zac (Zae .i64)))))))) (a:=⟨.exit 0,[2,3,4],(Zaa (Zae .i64) (Zaa (Zae .i64) (Zac (Zae .i64))))⟩) (step:=Zdr) g27 rfl Za6 (fun x=>by kernel_rfl)
noncomputable def s27:Spec:=Zao (Zac (Zap .event)) (Zb1 (Zaa (Zae .i64) (Zaa (Zae .i64) (Zac (Zae .i64))))) ZeY
set_option maxRecDepth 100000 in
theorem ok27:Zan Tryz.prog 27 s27 :=
  Zaj (V:=e27) (L:=(ZaS [(2,Zzp)])) (rounds:=20) (depth:=6) g27 (Zbz (nt:=31) (by kernel_rfl) (Zce (by kernel_rfl)) (ZaJ ZAl Za2)) (fun x=>by kernel_rfl)
noncomputable def e68:Env:=env1 []
theorem g68:Zai e68:=Zam mix1 ent1 Zah
noncomputable def s68:Spec:=Zao (Zaa (Zae .i64) (Zac (Zae .i64))) (Zat (Zae .i64)) Zhf
set_option maxRecDepth 100000 in
theorem ok68:Zan Tryz.prog 68 s68 :=
  Zaj (V:=e68) (L:=nL) (rounds:=20) (depth:=6) g68 Zak (fun x=>by kernel_rfl)
noncomputable def e66:Env:=env1 [(68,s68)]
theorem g66:Zai e66:=Zam mix1 ent1 (Zab ok68 rfl Zah)
noncomputable def Zzm:LSpec:=Zgh [0,1,5] (Zaa (Zap .mark) (Zaa (ZvO 67) (Zac (Zae .i64)))) (⟨.exit 0,[],Zdz⟩:Way) (⟨.ret,[4],(Zac (ZaW))⟩:Way) (ZaH Zbb)
set_option maxRecDepth 100000 in
theorem ZzF:LoopOK e66 25 Zzm (Za9 e66.P 66 2) :=
  Zd6 (L:=ZaS []) (rounds:=20) (depth:=6) (ts:=[0,1,5]) (v:=(Zaa (Zap .mark) (Zaa (ZvO 67) (Zac (Zae .i64))))) (a:=⟨.exit 0,[],Zdz⟩) (b:=⟨.ret,[4],(Zac (ZaW))⟩) (step:=Zbb) g66 rfl rfl Za6 (fun x=>by kernel_rfl)
noncomputable def s66:Spec:=Zao (Zaa (Zap .mark) (Zac (ZvO 67))) (Zat (ZaW)) ZcD
set_option maxRecDepth 100000 in
theorem ok66:Zan Tryz.prog 66 s66 :=
  Zaj (V:=e66) (L:=(ZaS [(2,Zzm)])) (rounds:=20) (depth:=6) g66 (Zbz (nt:=25) (by kernel_rfl) (Zce (by kernel_rfl)) (ZaJ ZzF Za2)) (fun x=>by kernel_rfl)
noncomputable def e69:Env:=env1 [(90,s90)]
theorem g69:Zai e69:=Zam mix1 ent1 (Zab ok90 rfl Zah)
noncomputable def Zy3:LSpec:=Znk 15 itReplay [3,8,9] (Zaa (Zaz celConfig) (Zaa (Zaz (Zar .i64)) (Zac (Zaz celBool))))  (Ziy itReplay Zdq)
set_option maxRecDepth 100000 in
theorem ZzE:LoopOK e69 37 Zy3 (Za9 e69.P 69 3) :=
  Zm0 (nt:=37) (n:=1) (rounds:=20) (depth:=6) (gt:=15) (it:=itReplay) (ts:=[3,8,9]) (v:=(Zaa (Zaz celConfig) (Zaa (Zaz (Zar .i64)) (Zac (Zaz celBool)))))  (step:=Zdq) g69 Zvo (fun _=>rfl)  (by kernel_rfl) (fun x e=>by kernel_rfl)
noncomputable def s69:Spec:=Zao (Zaa (Zaq celConfig) (Zaa (Zap .mark) (Zac (Zae .i64)))) (Zb1 (Zaa (Zae .i64) (Zac (ZaW)))) Zc8
set_option maxRecDepth 100000 in
theorem ok69:Zan Tryz.prog 69 s69 :=
  Zaj (V:=e69) (L:=(ZaS [(3,Zy3)])) (rounds:=20) (depth:=6) g69 (Zbz (nt:=37) (by kernel_rfl) (Zce (by kernel_rfl)) (ZaJ ZzE Za2)) (fun x=>by kernel_rfl)
noncomputable def e111:Env:=env1 []
theorem g111:Zai e111:=Zam mix1 ent1 Zah
noncomputable def ZxC:LSpec:=Znk 6 itOwn [2] (Zac (Zaz (Zbr 65 .mark)))  (Ziy itOwn ZbI)
set_option maxRecDepth 100000 in
theorem ZyK:LoopOK e111 13 ZxC (Za9 e111.P 111 2) :=
  Zm0 (nt:=13) (n:=1) (rounds:=20) (depth:=6) (gt:=6) (it:=itOwn) (ts:=[2]) (v:=(Zac (Zaz (Zbr 65 .mark))))  (step:=ZbI) g111 ZAe (fun _=>rfl)  (by kernel_rfl) (fun x e=>by kernel_rfl)
noncomputable def s111:Spec:=Zg6 (Zaa (Zsr) (Zac (ZyZ itOwn))) (Zat (ZaP 65 .mark)) ZcW
set_option maxRecDepth 100000 in
theorem ZBG:Zan Tryz.prog 111 s111 :=
  Zgf (V:=e111) (L:=(ZaS [(2,ZxC)])) (rounds:=20) (depth:=6) g111 (Zbz (nt:=13) (by kernel_rfl) (Zce (by kernel_rfl)) (ZaJ ZyK Za2)) (fun x=>by kernel_rfl)
noncomputable def e95:Env:=env1 [(111,s111)]
theorem g95:Zai e95:=Zam mix1 ent1 (Zab ZBG rfl Zah)
noncomputable def s95:Spec:=Zg6 (Zac (ZyZ itOwn)) (Zat (ZaP 65 .mark)) Zdg
set_option maxRecDepth 100000 in
theorem ok95:Zan Tryz.prog 95 s95 :=
  Zgf (V:=e95) (L:=nL) (rounds:=20) (depth:=6) g95 Zak (fun x=>by kernel_rfl)
noncomputable def e98:Env:=env1 []
theorem g98:Zai e98:=Zam mix1 ent1 Zah
noncomputable def s98:Spec:=Zao (Zac (Zaq Ze2)) (Zat (Zaq Zyz)) ZeS
set_option maxRecDepth 100000 in
theorem ok98:Zan Tryz.prog 98 s98 :=
  Zaj (V:=e98) (L:=nL) (rounds:=20) (depth:=6) g98 Zak (fun x=>by kernel_rfl)
noncomputable def e97:Env:=env1 [(90,s90),(98,s98)]
theorem g97:Zai e97:=Zam mix1 ent1 (Zab ok90 rfl (Zab ok98 rfl Zah))
noncomputable def s97:Spec:=Zao (Zaa (Zaq celConfig) (Zaa (Zaq Zqb) (Zaa (Zaq Ze2) (Zac (Zaq Ze2))))) (Zat (ZaW)) ZfN
set_option maxRecDepth 100000 in
theorem ok97:Zan Tryz.prog 97 s97 :=
  Zaj (V:=e97) (L:=nL) (rounds:=20) (depth:=6) g97 Zak (fun x=>by kernel_rfl)
noncomputable def e72:Env:=env1 [(95,s95),(97,s97),(98,s98)]
theorem g72:Zai e72:=Zam mix1 ent1 (Zab ok95 rfl (Zab ok97 rfl (Zab ok98 rfl Zah)))
noncomputable def Zzc:LSpec:=Zst 19 itEvents [4,8,9,10,11] (Zaa (Zaz celConfig) (Zaa (Zaz celBool) (Zaa (Zaz (ZeI .mark)) (Zaa (Zaz Ze2) (Zac (Zaz celBool)))))) (⟨.ret,[8],(Zac (Zaz celBool))⟩:Way) (Znx itEvents Zcc)
set_option maxRecDepth 100000 in
theorem ZAp:LoopOK e72 78 Zzc (Za9 e72.P 72 5) :=
  Zxk (nt:=78) (n:=1) (rounds:=20) (depth:=6) (gt:=19) (it:=itEvents) (ts:=[4,8,9,10,11]) (v:=(Zaa (Zaz celConfig) (Zaa (Zaz celBool) (Zaa (Zaz (ZeI .mark)) (Zaa (Zaz Ze2) (Zac (Zaz celBool))))))) (b:=⟨.ret,[8],(Zac (Zaz celBool))⟩) (step:=Zcc) g72 Zpz (fun _=>rfl) rfl (by kernel_rfl) (fun x e=>by kernel_rfl)
noncomputable def s72:Spec:=Zao (Zaa (Zaq celConfig) (Zaa (Zap .mark) (Zaa (Zap .event) (Zac (Zae .i64))))) (Zat (ZaW)) Zc1
set_option maxRecDepth 100000 in
theorem ok72:Zan Tryz.prog 72 s72 :=
  Zaj (V:=e72) (L:=(ZaS [(5,Zzc)])) (rounds:=20) (depth:=6) g72 (Zbz (nt:=78) (by kernel_rfl) (Zce (by kernel_rfl)) (ZaJ ZAp Za2)) (fun x=>by kernel_rfl)
noncomputable def e31:Env:=env1 [(56,s56),(66,s66),(69,s69),(70,s70),(71,s71),(72,s72)]
theorem g31:Zai e31:=Zam mix1 ent1 (Zab ok56 rfl (Zab ok66 rfl (Zab ok69 rfl (Zab ok70 rfl (Zab ok71 rfl (Zab ok72 rfl Zah))))))
noncomputable def Zw7:LSpec:=Zgh [1,58,59] (Zaa (Zaz Zea) (Zaa (Zae .i64) (Zac (Zae .i64)))) (⟨.exit 2,[],Zdz⟩:Way) (⟨.ret,[2],(Zac (ZaW))⟩:Way) (ZaH Zcy)
set_option maxRecDepth 100000 in
theorem ZyN:LoopOK e31 72 Zw7 (Za9 e31.P 31 12) :=
  Zd6 (L:=ZaS []) (rounds:=20) (depth:=6) (ts:=[1,58,59]) (v:=(Zaa (Zaz Zea) (Zaa (Zae .i64) (Zac (Zae .i64))))) (a:=⟨.exit 2,[],Zdz⟩) (b:=⟨.ret,[2],(Zac (ZaW))⟩) (step:=Zcy) g31 rfl rfl Za6 (fun x=>by kernel_rfl)
noncomputable def Zzq:LSpec:=Zgh [1,21,22] (Zaa (Zaz Zea) (Zaa (Zae .i64) (Zac (Zae .i64)))) (⟨.exit 0,[1],(Zac (Zaz Zea))⟩:Way) (⟨.ret,[2],(Zac (ZaW))⟩:Way) (ZaH ZcQ)
set_option maxRecDepth 100000 in
theorem ZzU:LoopOK e31 72 Zzq (Za9 e31.P 31 4) :=
  Zd6 (L:=ZaS []) (rounds:=20) (depth:=6) (ts:=[1,21,22]) (v:=(Zaa (Zaz Zea) (Zaa (Zae .i64) (Zac (Zae .i64))))) (a:=⟨.exit 0,[1],(Zac (Zaz Zea))⟩) (b:=⟨.ret,[2],(Zac (ZaW))⟩) (step:=ZcQ) g31 rfl rfl Za6 (fun x=>by kernel_rfl)
noncomputable def s31:Spec:=Zao (Zac (Zaq Zea)) (Zat (ZaW)) Zd9
set_option maxRecDepth 100000 in
theorem ok31:Zan Tryz.prog 31 s31 :=
  Zaj (V:=e31) (L:=(ZaS [(12,Zw7),(4,Zzq)])) (rounds:=20) (depth:=6) g31 (Zbz (nt:=72) (by kernel_rfl) (Zce (by kernel_rfl)) (ZaJ ZyN (ZaJ ZzU Za2))) (fun x=>by kernel_rfl)
noncomputable def e46:Env:=env1 [(23,s23),(27,s27),(69,s69),(72,s72)]
theorem g46:Zai e46:=Zam mix1 ent1 (Zab ok23 rfl (Zab ok27 rfl (Zab ok69 rfl (Zab ok72 rfl Zah))))
noncomputable def s46:Spec:=Zao Zdz (Zat (ZaW)) Zen
set_option maxRecDepth 100000 in
theorem ok46:Zan Tryz.prog 46 s46 :=
  Zaj (V:=e46) (L:=nL) (rounds:=20) (depth:=6) g46 Zak (fun x=>by kernel_rfl)
noncomputable def e10:Env:=env1 [(16,s16),(31,s31),(46,s46),(47,s47)]
noncomputable def e11:Env:=env1 [(16,s16),(23,s23),(31,s31),(46,s46),(48,s48)]
noncomputable def e12:Env:=env1 [(16,s16),(23,s23),(24,s24),(27,s27),(31,s31),(45,s45),(46,s46)]
theorem g12:Zai e12:=Zam mix1 ent1 (Zab ok16 rfl (Zab ok23 rfl (Zab ok24 rfl (Zab ok27 rfl (Zab ok31 rfl (Zab ok45 rfl (Zab ok46 rfl Zah)))))))
noncomputable def ZxA:LSpec:=Zgh [3,7,13] (Zaa (Zaz celConfig) (Zaa (Zaz Zea) (Zac (Zae .i64)))) (⟨.exit 0,[],Zdz⟩:Way) (⟨.ret,[6],(Zac (ZaW))⟩:Way) (ZaH Zdi)
set_option maxRecDepth 100000 in
theorem ZxI:LoopOK e12 125 ZxA (Za9 e12.P 12 10) :=
  Zd6 (L:=ZaS []) (rounds:=20) (depth:=6) (ts:=[3,7,13]) (v:=(Zaa (Zaz celConfig) (Zaa (Zaz Zea) (Zac (Zae .i64))))) (a:=⟨.exit 0,[],Zdz⟩) (b:=⟨.ret,[6],(Zac (ZaW))⟩) (step:=Zdi) g12 rfl rfl Za6 (fun x=>by kernel_rfl)
noncomputable def s12:Spec:=Zao (Zaa (Zaq celConfig) (Zaa (Zap .sentry) (Zac (Zap .int)))) (Zat (ZaW)) ZmF
set_option maxRecDepth 100000 in
theorem ok12:Zan Tryz.prog 12 s12 :=
  Zaj (V:=e12) (L:=(ZaS [(10,ZxA)])) (rounds:=20) (depth:=6) g12 (Zbz (nt:=125) (by kernel_rfl) (Zce (by kernel_rfl)) (ZaJ ZxI Za2)) (fun x=>by kernel_rfl)
end Go.Proofs.Mill
