/- The functions compute this. -/
import Derived.Test.YtecgogmolkjhjaaGreatMillShown17
import Derived.Test.YtecgogmolkjhjaaGreatMillSeat2
import Derived.Test.YtecgogmolkjhjaaGreatMillFDa
set_option linter.all false
set_option maxRecDepth 100000
noncomputable section
namespace Go.Proofs.Mill
def e8:Env:=env1 [(39,s39),(40,s40),(41,s41),(42,s42),(43,s43),(44,s44),(45,s45),(46,s46),(47,s47)]
theorem g8:Zai e8:=Zan mix1 ent1 (Zab ok39 rfl (Zab ok40 rfl (Zab ok41 rfl (Zab ok42 rfl (Zab ok43 rfl (Zab ok44 rfl (Zab ok45 rfl (Zab ok46 rfl (Zab ok47 rfl Zag)))))))))
def e9:Env:=env1 [(39,s39),(40,s40),(41,s41),(48,s48),(49,s49)]
theorem g9:Zai e9:=Zan mix1 ent1 (Zab ok39 rfl (Zab ok40 rfl (Zab ok41 rfl (Zab ok48 rfl (Zab ok49 rfl Zag)))))
def e10:Env:=env1 [(39,s39),(40,s40),(41,s41),(44,s44),(45,s45)]
def e11:Env:=env1 [(39,s39),(40,s40),(41,s41)]
def e12:Env:=env1 [(40,s40),(43,s43),(44,s44),(45,s45),(50,s50),(51,s51),(52,s52),(53,s53)]
def e13:Env:=env1 [(39,s39),(40,s40),(41,s41),(44,s44),(45,s45),(52,s52)]
theorem g13:Zai e13:=Zan mix1 ent1 (Zab ok39 rfl (Zab ok40 rfl (Zab ok41 rfl (Zab ok44 rfl (Zab ok45 rfl (Zab ok52 rfl Zag))))))
def Zz1:LSpec:=ZbO [2,9,12,17] (Zaa (Zau .sentry) (Zaa (Zak ZaB) (Zaa (Zak ZaB) (Zac (Zad .i64))))) (⟨.exit 4,[9,12],(Zaa (Zak ZaB) (Zac (Zak ZaB)))⟩:Way) (Zav Zdk)
theorem ZBr:LoopOK e13 150 Zz1 (ZaT e13.P 13 20) :=
 Zba (L:=ZaA []) (rounds:=20) (depth:=6) (ts:=[2,9,12,17]) (v:=(Zaa (Zau .sentry) (Zaa (Zak ZaB) (Zaa (Zak ZaB) (Zac (Zad .i64)))))) (a:=⟨.exit 4,[9,12],(Zaa (Zak ZaB) (Zac (Zak ZaB)))⟩) (step:=Zdk) g13 rfl ZaC (fun x=>by kernel_rfl)
def ZAb:LSpec:=Zc0 [2,9,12,16] (Zaa (Zau .sentry) (Zaa (Zak ZaB) (Zaa (Zak ZaB) (Zac (Zad .i64))))) (⟨.exit 2,[2,9,12],(Zaa (Zau .sentry) (Zaa (Zak ZaB) (Zac (Zak ZaB))))⟩:Way) (⟨.ret,[8],(Zac (ZaE))⟩:Way) (Zav Zdm)
theorem ZA3:LoopOK e13 150 ZAb (ZaT e13.P 13 15) :=
 Zb6 (L:=ZaA []) (rounds:=20) (depth:=6) (ts:=[2,9,12,16]) (v:=(Zaa (Zau .sentry) (Zaa (Zak ZaB) (Zaa (Zak ZaB) (Zac (Zad .i64)))))) (a:=⟨.exit 2,[2,9,12],(Zaa (Zau .sentry) (Zaa (Zak ZaB) (Zac (Zak ZaB))))⟩) (b:=⟨.ret,[8],(Zac (ZaE))⟩) (step:=Zdm) g13 rfl rfl ZaC (fun x=>by kernel_rfl)
def Zza:LSpec:=Zc0 [2,9,12,15] (Zaa (Zau .sentry) (Zaa (Zak ZaB) (Zaa (Zak ZaB) (Zac (Zad .i64))))) (⟨.exit 0,[2,9,12],(Zaa (Zau .sentry) (Zaa (Zak ZaB) (Zac (Zak ZaB))))⟩:Way) (⟨.ret,[8],(Zac (ZaE))⟩:Way) (Zav Zdl)
theorem ZBj:LoopOK e13 150 Zza (ZaT e13.P 13 10) :=
 Zb6 (L:=ZaA []) (rounds:=20) (depth:=6) (ts:=[2,9,12,15]) (v:=(Zaa (Zau .sentry) (Zaa (Zak ZaB) (Zaa (Zak ZaB) (Zac (Zad .i64)))))) (a:=⟨.exit 0,[2,9,12],(Zaa (Zau .sentry) (Zaa (Zak ZaB) (Zac (Zak ZaB))))⟩) (b:=⟨.ret,[8],(Zac (ZaE))⟩) (step:=Zdl) g13 rfl rfl ZaC (fun x=>by kernel_rfl)
def s13:Spec:=Zar (Zaa (Zap celConfig) (Zaa (Zau .sentry) (Zaa (Zau .sentry) (Zac (Zau .int))))) (Zat (ZaE)) ZnV
theorem ok13:Zaq Tryz.prog 13 s13 :=
 Zaj (V:=e13) (L:=(ZaA [(20,Zz1),(15,ZAb),(10,Zza)])) (rounds:=20) (depth:=6) g13 (ZaV (nt:=150) (by kernel_rfl) (Zbe (by kernel_rfl)) (Zax ZBr (Zax ZA3 (Zax ZBj ZaG)))) (fun x=>by kernel_rfl)
def e15:Env:=env1 [(39,s39),(40,s40),(41,s41),(43,s43),(44,s44),(45,s45),(52,s52),(54,s54)]
end Go.Proofs.Mill
