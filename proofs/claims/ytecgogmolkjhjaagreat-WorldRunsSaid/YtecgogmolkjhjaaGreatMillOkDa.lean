/- The functions compute this. -/
import Derived.Test.YtecgogmolkjhjaaGreatMillShown17
import Derived.Test.YtecgogmolkjhjaaGreatMillSeat2
import Derived.Test.YtecgogmolkjhjaaGreatMillFDa
set_option linter.all false
set_option maxRecDepth 100000
noncomputable section
namespace Go.Proofs.Mill
def e8:Env:=env1 [(39,s39),(40,s40),(41,s41),(42,s42),(43,s43),(44,s44),(45,s45),(46,s46),(47,s47)]
theorem g8:Zaj e8:=Zan mix1 ent1 (Zab ok39 rfl (Zab ok40 rfl (Zab ok41 rfl (Zab ok42 rfl (Zab ok43 rfl (Zab ok44 rfl (Zab ok45 rfl (Zab ok46 rfl (Zab ok47 rfl Zag)))))))))
def s8:Spec:=Zas (Zaa (Zaq celConfig) (Zaa (Zax .sentry) (Zac (Zax .int)))) (Zav (ZaF)) Zrw
theorem ok8:Zar Tryz.prog 8 s8 :=
 Zai (V:=e8) (L:=nL) (rounds:=20) (depth:=6) g8 Zam (fun x=>by kernel_rfl)
def e9:Env:=env1 [(39,s39),(40,s40),(41,s41),(48,s48),(49,s49)]
theorem g9:Zaj e9:=Zan mix1 ent1 (Zab ok39 rfl (Zab ok40 rfl (Zab ok41 rfl (Zab ok48 rfl (Zab ok49 rfl Zag)))))
def e10:Env:=env1 [(39,s39),(40,s40),(41,s41),(44,s44),(45,s45)]
def e11:Env:=env1 [(39,s39),(40,s40),(41,s41)]
def e12:Env:=env1 [(40,s40),(43,s43),(44,s44),(45,s45),(50,s50),(51,s51),(52,s52),(53,s53)]
def e15:Env:=env1 [(39,s39),(40,s40),(41,s41),(43,s43),(44,s44),(45,s45),(52,s52),(54,s54)]
end Go.Proofs.Mill
