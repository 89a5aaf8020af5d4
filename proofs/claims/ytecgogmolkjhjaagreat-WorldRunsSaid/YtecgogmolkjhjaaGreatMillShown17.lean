/- What layer 17 shows: two threads on one cell. -/
import Derived.Test.YtecgogmolkjhjaaGreatMillOkCa
import Derived.Test.YtecgogmolkjhjaaGreatMillFS17
set_option linter.all false
set_option maxRecDepth 1000000
noncomputable section
namespace Go.Proofs.Mill
def e40:Env:=envX Tryz.prog E1p hi1 [(26,s26),(33,s33),(41,s41),(46,s46),(50,s50),(75,s75)] [(124,x124)] (fun f=>Nat.beq f 41)
theorem g40:Zaj e40:=Zwy mix1 ent1 (Zab ok26 rfl (Zab ok33 rfl (Zab ok41 rfl (Zab ok46 rfl (Zab ok50 rfl (Zab ok75 rfl Zag)))))) rfl ZAU
def ZDO:LSpec:=ZbY [1,2,3] (Zaa (Zak celConfig) (Zaa (ZaN 101 .sentry) (Zac (Zad .i64)))) (⟨.exit 0,[1,2],(Zaa (Zak celConfig) (Zac (ZaN 101 .sentry)))⟩:Way) (Zay ZnG)
theorem ZE1:LoopOK e40 130 ZDO (ZaW e40.P 40 4) :=
 Zbe (L:=ZaB []) (rounds:=20) (depth:=6) (ts:=[1,2,3]) (v:=(Zaa (Zak celConfig) (Zaa (ZaN 101 .sentry) (Zac (Zad .i64))))) (a:=⟨.exit 0,[1,2],(Zaa (Zak celConfig) (Zac (ZaN 101 .sentry)))⟩) (step:=ZnG) g40 rfl ZaE (fun x=>by kernel_rfl)
def s40:Spec:=Zas ZbG (Zav (ZaF)) ZfV
set_option maxHeartbeats 0 in
theorem ok40:Zar Tryz.prog 40 s40 :=
 Zai (V:=e40) (L:=(ZaB [(4,ZDO)])) (rounds:=20) (depth:=6) g40 (ZaZ (nt:=130) (by kernel_rfl) (Zbh (by kernel_rfl)) (Zaz ZE1 ZaH)) (fun x=>by kernel_rfl)
end Go.Proofs.Mill
