/- The functions compute this. -/
import Derived.Test.YtaopdopnecognaaGreatMillOkCb
import Derived.Test.YtaopdopnecognaaGreatMillItersb
import Derived.Test.YtaopdopnecognaaGreatMillSeat3
import Derived.Test.YtaopdopnecognaaGreatMillFDb
set_option linter.all false
set_option maxRecDepth 100000
noncomputable section
namespace Go.Proofs.Mill
def s23:Spec:=Zap (Zaa (Zao .event) (Zac (Zaf .i64))) (Zb9 (Zaa (Zar Zhd) (Zac (ZaZ)))) ZjS
def e27:Env:=env1 []
theorem g27:Zai e27:=Zam mix1 ent1 Zah
def ZAg:LSpec:=ZeE [2,3,4,7,8,9] (Zaa (Zaf .i64) (Zaa (Zaf .i64) (Zaa (Zaf .i64) (Zaa (Zao .event) (Zaa (Zaf .i64) (Zac (Zaf .i64))))))) (⟨.exit 0,[2,3,4],(Zaa (Zaf .i64) (Zaa (Zaf .i64) (Zac (Zaf .i64))))⟩:Way) (ZaI ZdD)
theorem ZBe:LoopOK e27 31 ZAg (Zbg e27.P 27 2) :=
 ZcT (L:=ZaV []) (rounds:=20) (depth:=6) (ts:=[2,3,4,7,8,9]) (v:=(Zaa (Zaf .i64) (Zaa (Zaf .i64) (Zaa (Zaf .i64) (Zaa (Zao .event) (Zaa (Zaf .i64) (Zac (Zaf .i64)))))))) (a:=⟨.exit 0,[2,3,4],(Zaa (Zaf .i64) (Zaa (Zaf .i64) (Zac (Zaf .i64))))⟩) (step:=ZdD) g27 rfl Za9 (fun x=>by kernel_rfl)
def s27:Spec:=Zap (Zac (Zao .event)) (Zb9 (Zaa (Zaf .i64) (Zaa (Zaf .i64) (Zac (Zaf .i64))))) Zfq
theorem ok27:Zan Tryz.prog 27 s27 :=
 Zaj (V:=e27) (L:=(ZaV [(2,ZAg)])) (rounds:=20) (depth:=6) g27 (ZbN (nt:=31) (by kernel_rfl) (Zct (by kernel_rfl)) (ZaO ZBe Za6)) (fun x=>by kernel_rfl)
def e68:Env:=env1 []
theorem g68:Zai e68:=Zam mix1 ent1 Zah
def s68:Spec:=Zap (Zaa (Zaf .i64) (Zac (Zaf .i64))) (Zau (Zaf .i64)) ZhF
theorem ok68:Zan Tryz.prog 68 s68 :=
 Zaj (V:=e68) (L:=nL) (rounds:=20) (depth:=6) g68 Zak (fun x=>by kernel_rfl)
def e66:Env:=env1 [(68,s68)]
theorem g66:Zai e66:=Zam mix1 ent1 (Zab ok68 rfl Zah)
def ZAt:LSpec:=Zgw [0,1,5] (Zaa (Zao .mark) (Zaa (ZwC 67) (Zac (Zaf .i64)))) (⟨.exit 0,[],ZdK⟩:Way) (⟨.ret,[4],(Zac (ZaZ))⟩:Way) (ZaI Zbf)
theorem ZAN:LoopOK e66 25 ZAt (Zbg e66.P 66 2) :=
 Zeh (L:=ZaV []) (rounds:=20) (depth:=6) (ts:=[0,1,5]) (v:=(Zaa (Zao .mark) (Zaa (ZwC 67) (Zac (Zaf .i64))))) (a:=⟨.exit 0,[],ZdK⟩) (b:=⟨.ret,[4],(Zac (ZaZ))⟩) (step:=Zbf) g66 rfl rfl Za9 (fun x=>by kernel_rfl)
def s66:Spec:=Zap (Zaa (Zao .mark) (Zac (ZwC 67))) (Zau (ZaZ)) ZcG
theorem ok66:Zan Tryz.prog 66 s66 :=
 Zaj (V:=e66) (L:=(ZaV [(2,ZAt)])) (rounds:=20) (depth:=6) g66 (ZbN (nt:=25) (by kernel_rfl) (Zct (by kernel_rfl)) (ZaO ZAN Za6)) (fun x=>by kernel_rfl)
def e69:Env:=env1 [(90,s90)]
theorem g69:Zai e69:=Zam mix1 ent1 (Zab ok90 rfl Zah)
def ZAj:LSpec:=Zqy 15 itReplay [3,8,9] (Zaa (ZaD celConfig) (Zaa (ZaD (Zas .i64)) (Zac (ZaD celBool))))  (Zj2 itReplay Zdv)
theorem ZAJ:LoopOK e69 37 ZAj (Zbg e69.P 69 3) :=
 Zsb (nt:=37) (n:=1) (rounds:=20) (depth:=6) (gt:=15) (it:=itReplay) (ts:=[3,8,9]) (v:=(Zaa (ZaD celConfig) (Zaa (ZaD (Zas .i64)) (Zac (ZaD celBool)))))  (step:=Zdv) g69 Zv4 (fun _=>rfl)  (by kernel_rfl) (fun x e=>by kernel_rfl)
def s69:Spec:=Zap (Zaa (Zar celConfig) (Zaa (Zao .mark) (Zac (Zaf .i64)))) (Zb9 (Zaa (Zaf .i64) (Zac (ZaZ)))) Zdl
theorem ok69:Zan Tryz.prog 69 s69 :=
 Zaj (V:=e69) (L:=(ZaV [(3,ZAj)])) (rounds:=20) (depth:=6) g69 (ZbN (nt:=37) (by kernel_rfl) (Zct (by kernel_rfl)) (ZaO ZAJ Za6)) (fun x=>by kernel_rfl)
def e111:Env:=env1 []
theorem g111:Zai e111:=Zam mix1 ent1 Zah
def Zyq:LSpec:=Zqy 6 itOwn [2] (Zac (ZaD (ZbB 65 .mark)))  (Zj2 itOwn ZbO)
theorem Zy5:LoopOK e111 13 Zyq (Zbg e111.P 111 2) :=
 Zsb (nt:=13) (n:=1) (rounds:=20) (depth:=6) (gt:=6) (it:=itOwn) (ts:=[2]) (v:=(Zac (ZaD (ZbB 65 .mark))))  (step:=ZbO) g111 ZBi (fun _=>rfl)  (by kernel_rfl) (fun x e=>by kernel_rfl)
def s111:Spec:=Zhv (Zaa (Ztn) (Zac (ZzT itOwn))) (Zau (ZaS 65 .mark)) Zc6
theorem ZCQ:Zan Tryz.prog 111 s111 :=
 Zgp (V:=e111) (L:=(ZaV [(2,Zyq)])) (rounds:=20) (depth:=6) g111 (ZbN (nt:=13) (by kernel_rfl) (Zct (by kernel_rfl)) (ZaO Zy5 Za6)) (fun x=>by kernel_rfl)
def e95:Env:=env1 [(111,s111)]
theorem g95:Zai e95:=Zam mix1 ent1 (Zab ZCQ rfl Zah)
def s95:Spec:=Zhv (Zac (ZzT itOwn)) (Zau (ZaS 65 .mark)) Zdm
theorem ok95:Zan Tryz.prog 95 s95 :=
 Zgp (V:=e95) (L:=nL) (rounds:=20) (depth:=6) g95 Zak (fun x=>by kernel_rfl)
def e98:Env:=env1 []
theorem g98:Zai e98:=Zam mix1 ent1 Zah
def s98:Spec:=Zap (Zac (Zar Zhd)) (Zau (Zar Zy7)) Ze5
theorem ok98:Zan Tryz.prog 98 s98 :=
 Zaj (V:=e98) (L:=nL) (rounds:=20) (depth:=6) g98 Zak (fun x=>by kernel_rfl)
def e97:Env:=env1 [(90,s90),(98,s98)]
theorem g97:Zai e97:=Zam mix1 ent1 (Zab ok90 rfl (Zab ok98 rfl Zah))
def s97:Spec:=Zap (Zaa (Zar celConfig) (Zaa (Zar Zq2) (Zaa (Zar Zhd) (Zac (Zar Zhd))))) (Zau (ZaZ)) Zgj
theorem ok97:Zan Tryz.prog 97 s97 :=
 Zaj (V:=e97) (L:=nL) (rounds:=20) (depth:=6) g97 Zak (fun x=>by kernel_rfl)
def e72:Env:=env1 [(95,s95),(97,s97),(98,s98)]
theorem g72:Zai e72:=Zam mix1 ent1 (Zab ok95 rfl (Zab ok97 rfl (Zab ok98 rfl Zah)))
def ZzJ:LSpec:=Zul 19 itEvents [4,8,9,10,11] (Zaa (ZaD celConfig) (Zaa (ZaD celBool) (Zaa (ZaD (Zfe .mark)) (Zaa (ZaD Zhd) (Zac (ZaD celBool)))))) (⟨.ret,[8],(Zac (ZaD celBool))⟩:Way) (Zoq itEvents Zcl)
theorem ZBd:LoopOK e72 78 ZzJ (Zbg e72.P 72 5) :=
 ZxN (nt:=78) (n:=1) (rounds:=20) (depth:=6) (gt:=19) (it:=itEvents) (ts:=[4,8,9,10,11]) (v:=(Zaa (ZaD celConfig) (Zaa (ZaD celBool) (Zaa (ZaD (Zfe .mark)) (Zaa (ZaD Zhd) (Zac (ZaD celBool))))))) (b:=⟨.ret,[8],(Zac (ZaD celBool))⟩) (step:=Zcl) g72 ZwR (fun _=>rfl) rfl (by kernel_rfl) (fun x e=>by kernel_rfl)
def s72:Spec:=Zap (Zaa (Zar celConfig) (Zaa (Zao .mark) (Zaa (Zao .event) (Zac (Zaf .i64))))) (Zau (ZaZ)) Zdb
theorem ok72:Zan Tryz.prog 72 s72 :=
 Zaj (V:=e72) (L:=(ZaV [(5,ZzJ)])) (rounds:=20) (depth:=6) g72 (ZbN (nt:=78) (by kernel_rfl) (Zct (by kernel_rfl)) (ZaO ZBd Za6)) (fun x=>by kernel_rfl)
def e31:Env:=env1 [(56,s56),(66,s66),(69,s69),(70,s70),(71,s71),(72,s72)]
theorem g31:Zai e31:=Zam mix1 ent1 (Zab ok56 rfl (Zab ok66 rfl (Zab ok69 rfl (Zab ok70 rfl (Zab ok71 rfl (Zab ok72 rfl Zah))))))
def ZxW:LSpec:=Zgw [1,58,59] (Zaa (ZaD Ze3) (Zaa (Zaf .i64) (Zac (Zaf .i64)))) (⟨.exit 2,[],ZdK⟩:Way) (⟨.ret,[2],(Zac (ZaZ))⟩:Way) (ZaI ZcF)
theorem Zzr:LoopOK e31 72 ZxW (Zbg e31.P 31 12) :=
 Zeh (L:=ZaV []) (rounds:=20) (depth:=6) (ts:=[1,58,59]) (v:=(Zaa (ZaD Ze3) (Zaa (Zaf .i64) (Zac (Zaf .i64))))) (a:=⟨.exit 2,[],ZdK⟩) (b:=⟨.ret,[2],(Zac (ZaZ))⟩) (step:=ZcF) g31 rfl rfl Za9 (fun x=>by kernel_rfl)
def ZAn:LSpec:=Zgw [1,21,22] (Zaa (ZaD Ze3) (Zaa (Zaf .i64) (Zac (Zaf .i64)))) (⟨.exit 0,[1],(Zac (ZaD Ze3))⟩:Way) (⟨.ret,[2],(Zac (ZaZ))⟩:Way) (ZaI ZcU)
theorem ZA4:LoopOK e31 72 ZAn (Zbg e31.P 31 4) :=
 Zeh (L:=ZaV []) (rounds:=20) (depth:=6) (ts:=[1,21,22]) (v:=(Zaa (ZaD Ze3) (Zaa (Zaf .i64) (Zac (Zaf .i64))))) (a:=⟨.exit 0,[1],(Zac (ZaD Ze3))⟩) (b:=⟨.ret,[2],(Zac (ZaZ))⟩) (step:=ZcU) g31 rfl rfl Za9 (fun x=>by kernel_rfl)
def s31:Spec:=Zap (Zac (Zar Ze3)) (Zau (ZaZ)) Zhp
theorem ok31:Zan Tryz.prog 31 s31 :=
 Zaj (V:=e31) (L:=(ZaV [(12,ZxW),(4,ZAn)])) (rounds:=20) (depth:=6) g31 (ZbN (nt:=72) (by kernel_rfl) (Zct (by kernel_rfl)) (ZaO Zzr (ZaO ZA4 Za6))) (fun x=>by kernel_rfl)
def s46:Spec:=Zap ZdK (Zau (ZaZ)) ZsF
def e10:Env:=env1 [(16,s16),(31,s31),(46,s46),(47,s47)]
def e11:Env:=env1 [(16,s16),(23,s23),(31,s31),(46,s46),(48,s48)]
def e12:Env:=env1 [(16,s16),(23,s23),(24,s24),(27,s27),(31,s31),(45,s45),(46,s46)]
def e13:Env:=env1 [(16,s16),(17,s17),(18,s18),(27,s27),(30,s30),(31,s31),(32,s32),(33,s33),(36,s36),(45,s45)]
theorem g13:Zai e13:=Zam mix1 ent1 (Zab ok16 rfl (Zab ok17 rfl (Zab ok18 rfl (Zab ok27 rfl (Zab ok30 rfl (Zab ok31 rfl (Zab ok32 rfl (Zab ok33 rfl (Zab ok36 rfl (Zab ok45 rfl Zah))))))))))
def s13:Spec:=Zap (Zaa (Zar celConfig) (Zaa (Zao .sentry) (Zac (Zao .int)))) (Zau (ZaZ)) Zpm
theorem ok13:Zan Tryz.prog 13 s13 :=
 Zaj (V:=e13) (L:=nL) (rounds:=20) (depth:=6) g13 Zak (fun x=>by kernel_rfl)
end Go.Proofs.Mill
