/- The functions compute this. -/
import Derived.Test.YtecgogmolkjhjaaGreatMillShown17
import Derived.Test.YtecgogmolkjhjaaGreatMillSeat2
import Derived.Test.YtecgogmolkjhjaaGreatMillFDa
set_option linter.all false
set_option maxRecDepth 100000
noncomputable section
namespace Go.Proofs.Mill
def e8:Env:=env1 [(39,s39),(40,s40),(41,s41),(42,s42),(43,s43),(44,s44),(45,s45),(46,s46),(47,s47)]
theorem g8:Zaj e8:=Zan mix1 ent1 (Zab ok39 rfl (Zab ok40 rfl (Zab ok41 rfl (Zab ok42 rfl (Zab ok43 rfl (Zab ok44 rfl (Zab ok45 rfl (Zab ok46 rfl (Zab ok47 rfl Zag)))))))))
def e9:Env:=env1 [(39,s39),(40,s40),(41,s41),(48,s48),(49,s49)]
theorem g9:Zaj e9:=Zan mix1 ent1 (Zab ok39 rfl (Zab ok40 rfl (Zab ok41 rfl (Zab ok48 rfl (Zab ok49 rfl Zag)))))
def e10:Env:=env1 [(39,s39),(40,s40),(41,s41),(44,s44),(45,s45)]
def e11:Env:=env1 [(39,s39),(40,s40),(41,s41)]
theorem g11:Zaj e11:=Zan mix1 ent1 (Zab ok39 rfl (Zab ok40 rfl (Zab ok41 rfl Zag)))
def Zuo:LSpec:=ZbL [7,10,11,12] (Zaa (Zak ZaH) (Zaa (Zad .i64) (Zaa (ZaA) (Zac (Zad .i64))))) (⟨.exit 2,[7,10,11],(Zaa (Zak ZaH) (Zaa (Zad .i64) (Zac (ZaA))))⟩:Way) (Zav Zdw)
theorem ZuB:LoopOK e11 127 Zuo (ZaU e11.P 11 11) :=
 Zba (L:=Zay []) (rounds:=20) (depth:=6) (ts:=[7,10,11,12]) (v:=(Zaa (Zak ZaH) (Zaa (Zad .i64) (Zaa (ZaA) (Zac (Zad .i64)))))) (a:=⟨.exit 2,[7,10,11],(Zaa (Zak ZaH) (Zaa (Zad .i64) (Zac (ZaA))))⟩) (step:=Zdw) g11 rfl ZaC (fun x=>by kernel_rfl)
def ZCr:LSpec:=Zc7 [7,10] (Zaa (Zak ZaH) (Zac (Zad .i64))) (⟨.exit 0,[],Zbs⟩:Way) (⟨.ret,[6],(Zac (ZaA))⟩:Way) (Zav ZdO)
theorem ZCX:LoopOK e11 127 ZCr (ZaU e11.P 11 7) :=
 Zb5 (L:=Zay [(11,Zuo)]) (rounds:=20) (depth:=6) (ts:=[7,10]) (v:=(Zaa (Zak ZaH) (Zac (Zad .i64)))) (a:=⟨.exit 0,[],Zbs⟩) (b:=⟨.ret,[6],(Zac (ZaA))⟩) (step:=ZdO) g11 rfl rfl (Zmf (by kernel_rfl) (Zaw ZuB ZaE)) (fun x=>by kernel_rfl)
def s11:Spec:=Zar (Zaa (Zap celConfig) (Zaa (Zau .sentry) (Zac (Zau .int)))) (Zat (ZaA)) ZnX
theorem ok11:Zaq Tryz.prog 11 s11 :=
 Zai (V:=e11) (L:=(Zay [(11,Zuo),(7,ZCr)])) (rounds:=20) (depth:=6) g11 (ZaV (nt:=127) (by kernel_rfl) (Zbd (by kernel_rfl)) (Zaw ZuB (Zaw ZCX ZaE))) (fun x=>by kernel_rfl)
def e12:Env:=env1 [(40,s40),(43,s43),(44,s44),(45,s45),(50,s50),(51,s51),(52,s52),(53,s53)]
def e15:Env:=env1 [(39,s39),(40,s40),(41,s41),(43,s43),(44,s44),(45,s45),(52,s52),(54,s54)]
end Go.Proofs.Mill
