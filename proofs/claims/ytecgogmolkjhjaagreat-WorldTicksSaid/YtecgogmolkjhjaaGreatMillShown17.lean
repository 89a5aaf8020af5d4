/- What layer 17 shows: two threads on one cell. -/
import Derived.Test.YtecgogmolkjhjaaGreatMillOkCa
import Derived.Test.YtecgogmolkjhjaaGreatMillFS17
set_option linter.all false
set_option maxRecDepth 1000000
noncomputable section
namespace Go.Proofs.Mill
def e40:Env:=envX Tryz.prog E1p hi1 [(26,s26),(33,s33),(41,s41),(46,s46),(50,s50),(75,s75)] [(124,x124)] (fun f=>Nat.beq f 41)
theorem g40:Zaj e40:=Zu5 mix1 ent1 (Zab ok26 rfl (Zab ok33 rfl (Zab ok41 rfl (Zab ok46 rfl (Zab ok50 rfl (Zab ok75 rfl Zag)))))) rfl Zzw
def ZCw:LSpec:=ZbJ [1,2,3] (Zaa (Zak celConfig) (Zaa (ZaE 101 .sentry) (Zac (Zad .i64)))) (⟨.exit 0,[1,2],(Zaa (Zak celConfig) (Zac (ZaE 101 .sentry)))⟩:Way) (Zav ZlN)
theorem ZDq:LoopOK e40 130 ZCw (ZaT e40.P 40 4) :=
 Za8 (L:=ZaA []) (rounds:=20) (depth:=6) (ts:=[1,2,3]) (v:=(Zaa (Zak celConfig) (Zaa (ZaE 101 .sentry) (Zac (Zad .i64))))) (a:=⟨.exit 0,[1,2],(Zaa (Zak celConfig) (Zac (ZaE 101 .sentry)))⟩) (step:=ZlN) g40 rfl ZaB (fun x=>by kernel_rfl)
def s40:Spec:=Zar ZbA (Zat (ZaG)) Zfl
set_option maxHeartbeats 0 in
theorem ok40:Zaq Tryz.prog 40 s40 :=
 Zai (V:=e40) (L:=(ZaA [(4,ZCw)])) (rounds:=20) (depth:=6) g40 (ZaU (nt:=130) (by kernel_rfl) (Zbd (by kernel_rfl)) (Zax ZDq ZaF)) (fun x=>by kernel_rfl)
end Go.Proofs.Mill
