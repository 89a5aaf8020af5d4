/- What layer 17 shows: two threads on one cell. -/
import Derived.Test.YtecgogmolkjhjaaGreatMillOkCa
import Derived.Test.YtecgogmolkjhjaaGreatMillFS17
set_option linter.all false
set_option maxRecDepth 1000000
noncomputable section
namespace Go.Proofs.Mill
def e40:Env:=envX Tryz.prog E1p hi1 [(26,s26),(33,s33),(41,s41),(46,s46),(50,s50),(75,s75)] [(124,x124)] (fun f=>Nat.beq f 41)
theorem g40:Zaj e40:=ZuN mix1 ent1 (Zab ok26 rfl (Zab ok33 rfl (Zab ok41 rfl (Zab ok46 rfl (Zab ok50 rfl (Zab ok75 rfl Zag)))))) rfl ZzR
def ZB0:LSpec:=ZbL [1,2,3] (Zaa (Zak celConfig) (Zaa (ZaM 101 .sentry) (Zac (Zad .i64)))) (⟨.exit 0,[1,2],(Zaa (Zak celConfig) (Zac (ZaM 101 .sentry)))⟩:Way) (Zav Zk7)
theorem ZC6:LoopOK e40 130 ZB0 (ZaU e40.P 40 4) :=
 Zba (L:=Zay []) (rounds:=20) (depth:=6) (ts:=[1,2,3]) (v:=(Zaa (Zak celConfig) (Zaa (ZaM 101 .sentry) (Zac (Zad .i64))))) (a:=⟨.exit 0,[1,2],(Zaa (Zak celConfig) (Zac (ZaM 101 .sentry)))⟩) (step:=Zk7) g40 rfl ZaC (fun x=>by kernel_rfl)
def s40:Spec:=Zar Zbs (Zat (ZaA)) Ze2
set_option maxHeartbeats 0 in
theorem ok40:Zaq Tryz.prog 40 s40 :=
 Zai (V:=e40) (L:=(Zay [(4,ZB0)])) (rounds:=20) (depth:=6) g40 (ZaV (nt:=130) (by kernel_rfl) (Zbd (by kernel_rfl)) (Zaw ZC6 ZaE)) (fun x=>by kernel_rfl)
end Go.Proofs.Mill
