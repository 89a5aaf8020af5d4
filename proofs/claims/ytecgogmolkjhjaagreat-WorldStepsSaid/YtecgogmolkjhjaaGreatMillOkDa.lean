/- The functions compute this. -/
import Derived.Test.YtecgogmolkjhjaaGreatMillShown17
import Derived.Test.YtecgogmolkjhjaaGreatMillSeat2
import Derived.Test.YtecgogmolkjhjaaGreatMillFDa
set_option linter.all false
set_option maxRecDepth 100000
noncomputable section
namespace Go.Proofs.Mill
def e8:Env:=env1 [(39,s39),(40,s40),(41,s41),(42,s42),(43,s43),(44,s44),(45,s45),(46,s46),(47,s47)]
theorem g8:Zai e8:=Zan mix1 ent1 (Zab ok39 rfl (Zab ok40 rfl (Zab ok41 rfl (Zab ok42 rfl (Zab ok43 rfl (Zab ok44 rfl (Zab ok45 rfl (Zab ok46 rfl (Zab ok47 rfl Zag)))))))))
def e9:Env:=env1 [(39,s39),(40,s40),(41,s41),(48,s48),(49,s49)]
theorem g9:Zai e9:=Zan mix1 ent1 (Zab ok39 rfl (Zab ok40 rfl (Zab ok41 rfl (Zab ok48 rfl (Zab ok49 rfl Zag)))))
def e10:Env:=env1 [(39,s39),(40,s40),(41,s41),(44,s44),(45,s45)]
def e11:Env:=env1 [(39,s39),(40,s40),(41,s41)]
def e12:Env:=env1 [(40,s40),(43,s43),(44,s44),(45,s45),(50,s50),(51,s51),(52,s52),(53,s53)]
theorem g12:Zai e12:=Zan mix1 ent1 (Zab ok40 rfl (Zab ok43 rfl (Zab ok44 rfl (Zab ok45 rfl (Zab ok50 rfl (Zab ok51 rfl (Zab ok52 rfl (Zab ok53 rfl Zag))))))))
def ZAf:LSpec:=Zdm [1,7,9,11] (Zaa (Zaw .sentry) (Zaa (Zak ZaL) (Zaa (Zak ZaL) (Zac (Zad .i64))))) (⟨.exit 0,[],Zby⟩:Way) (⟨.ret,[6],(Zac (ZaF))⟩:Way) (Zay ZdS)
theorem ZBu:LoopOK e12 112 ZAf (ZaX e12.P 12 10) :=
 Zco (L:=ZaA []) (rounds:=20) (depth:=6) (ts:=[1,7,9,11]) (v:=(Zaa (Zaw .sentry) (Zaa (Zak ZaL) (Zaa (Zak ZaL) (Zac (Zad .i64)))))) (a:=⟨.exit 0,[],Zby⟩) (b:=⟨.ret,[6],(Zac (ZaF))⟩) (step:=ZdS) g12 rfl rfl ZaE (fun x=>by kernel_rfl)
def s12:Spec:=Zar (Zaa (Zap celConfig) (Zaa (Zaw .sentry) (Zac (Zaw .int)))) (Zav (ZaF)) ZqN
theorem ok12:Zaq Tryz.prog 12 s12 :=
 Zaj (V:=e12) (L:=(ZaA [(10,ZAf)])) (rounds:=20) (depth:=6) g12 (ZaY (nt:=112) (by kernel_rfl) (Zbg (by kernel_rfl)) (Zaz ZBu ZaG)) (fun x=>by kernel_rfl)
def e15:Env:=env1 [(39,s39),(40,s40),(41,s41),(43,s43),(44,s44),(45,s45),(52,s52),(54,s54)]
end Go.Proofs.Mill
