/- The functions compute this. -/
import Derived.Test.YtecgogmolkjhjaaGreatMillShown17
import Derived.Test.YtecgogmolkjhjaaGreatMillSeat2
import Derived.Test.YtecgogmolkjhjaaGreatMillFDa
set_option linter.all false
set_option maxRecDepth 100000
noncomputable section
namespace Go.Proofs.Mill
def e8:Env:=env1 [(39,s39),(40,s40),(41,s41),(42,s42),(43,s43),(44,s44),(45,s45),(46,s46),(47,s47)]
theorem g8:Zaj e8:=Zan mix1 ent1 (Zab ok39 rfl (Zab ok40 rfl (Zab ok41 rfl (Zab ok42 rfl (Zab ok43 rfl (Zab ok44 rfl (Zab ok45 rfl (Zab ok46 rfl (Zab ok47 rfl Zag)))))))))
def e9:Env:=env1 [(39,s39),(40,s40),(41,s41),(48,s48),(49,s49)]
theorem g9:Zaj e9:=Zan mix1 ent1 (Zab ok39 rfl (Zab ok40 rfl (Zab ok41 rfl (Zab ok48 rfl (Zab ok49 rfl Zag)))))
def e10:Env:=env1 [(39,s39),(40,s40),(41,s41),(44,s44),(45,s45)]
theorem g10:Zaj e10:=Zan mix1 ent1 (Zab ok39 rfl (Zab ok40 rfl (Zab ok41 rfl (Zab ok44 rfl (Zab ok45 rfl Zag)))))
def ZzA:LSpec:=ZbJ [2,4,9,10,12,13] (Zaa (Zau .int) (Zaa (Zak celConfig) (Zaa (ZaE 101 .sentry) (Zaa (Zad .i64) (Zaa (ZaE 101 .sentry) (Zac (Zad .i64))))))) (⟨.exit 2,[2,4,9,10,12],(Zaa (Zau .int) (Zaa (Zak celConfig) (Zaa (ZaE 101 .sentry) (Zaa (Zad .i64) (Zac (ZaE 101 .sentry))))))⟩:Way) (Zav ZdB)
theorem ZA7:LoopOK e10 116 ZzA (ZaT e10.P 10 16) :=
 Za8 (L:=ZaA []) (rounds:=20) (depth:=6) (ts:=[2,4,9,10,12,13]) (v:=(Zaa (Zau .int) (Zaa (Zak celConfig) (Zaa (ZaE 101 .sentry) (Zaa (Zad .i64) (Zaa (ZaE 101 .sentry) (Zac (Zad .i64)))))))) (a:=⟨.exit 2,[2,4,9,10,12],(Zaa (Zau .int) (Zaa (Zak celConfig) (Zaa (ZaE 101 .sentry) (Zaa (Zad .i64) (Zac (ZaE 101 .sentry))))))⟩) (step:=ZdB) g10 rfl ZaB (fun x=>by kernel_rfl)
def ZCr:LSpec:=ZbJ [1,2,3,4,9,10,11] (Zaa (Zau .sentry) (Zaa (Zau .int) (Zaa (Zad .u8) (Zaa (Zak celConfig) (Zaa (ZaE 101 .sentry) (Zaa (Zad .i64) (Zac (Zad .i64)))))))) (⟨.exit 0,[2,4,9,10],(Zaa (Zau .int) (Zaa (Zak celConfig) (Zaa (ZaE 101 .sentry) (Zac (Zad .i64)))))⟩:Way) (Zav Zfb)
theorem ZDG:LoopOK e10 116 ZCr (ZaT e10.P 10 7) :=
 Za8 (L:=ZaA []) (rounds:=20) (depth:=6) (ts:=[1,2,3,4,9,10,11]) (v:=(Zaa (Zau .sentry) (Zaa (Zau .int) (Zaa (Zad .u8) (Zaa (Zak celConfig) (Zaa (ZaE 101 .sentry) (Zaa (Zad .i64) (Zac (Zad .i64))))))))) (a:=⟨.exit 0,[2,4,9,10],(Zaa (Zau .int) (Zaa (Zak celConfig) (Zaa (ZaE 101 .sentry) (Zac (Zad .i64)))))⟩) (step:=Zfb) g10 rfl ZaB (fun x=>by kernel_rfl)
def s10:Spec:=Zar (Zaa (Zap celConfig) (Zaa (Zau .sentry) (Zaa (Zau .int) (Zac (Zad .u8))))) (Zat (ZaG)) Zn2
theorem ok10:Zaq Tryz.prog 10 s10 :=
 Zai (V:=e10) (L:=(ZaA [(16,ZzA),(7,ZCr)])) (rounds:=20) (depth:=6) g10 (ZaU (nt:=116) (by kernel_rfl) (Zbd (by kernel_rfl)) (Zax ZA7 (Zax ZDG ZaF))) (fun x=>by kernel_rfl)
def e11:Env:=env1 [(39,s39),(40,s40),(41,s41)]
def e12:Env:=env1 [(40,s40),(43,s43),(44,s44),(45,s45),(50,s50),(51,s51),(52,s52),(53,s53)]
def e15:Env:=env1 [(39,s39),(40,s40),(41,s41),(43,s43),(44,s44),(45,s45),(52,s52),(54,s54)]
end Go.Proofs.Mill
