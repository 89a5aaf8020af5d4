/- What layer 17 shows: two threads on one cell. -/
import Derived.Test.YtecgogmolkjhjaaGreatMillOkCa
import Derived.Test.YtecgogmolkjhjaaGreatMillFS17
set_option linter.all false
set_option maxRecDepth 1000000
noncomputable section
namespace Go.Proofs.Mill
def e40:Env:=envX Tryz.prog E1p hi1 [(26,s26),(33,s33),(41,s41),(46,s46),(50,s50),(75,s75)] [(124,x124)] (fun f=>Nat.beq f 41)
theorem g40:Zai e40:=ZrZ mix1 ent1 (Zab ok26 rfl (Zab ok33 rfl (Zab ok41 rfl (Zab ok46 rfl (Zab ok50 rfl (Zab ok75 rfl Zag)))))) rfl Zwl
def ZCF:LSpec:=ZbX [1,2,3] (Zaa (Zak celConfig) (Zaa (ZaJ 101 .sentry) (Zac (Zad .i64)))) (⟨.exit 0,[1,2],(Zaa (Zak celConfig) (Zac (ZaJ 101 .sentry)))⟩:Way) (Zay Zns)
theorem ZD5:LoopOK e40 130 ZCF (ZaX e40.P 40 4) :=
 Zbe (L:=ZaA []) (rounds:=20) (depth:=6) (ts:=[1,2,3]) (v:=(Zaa (Zak celConfig) (Zaa (ZaJ 101 .sentry) (Zac (Zad .i64))))) (a:=⟨.exit 0,[1,2],(Zaa (Zak celConfig) (Zac (ZaJ 101 .sentry)))⟩) (step:=Zns) g40 rfl ZaE (fun x=>by kernel_rfl)
def s40:Spec:=Zar Zby (Zav (ZaF)) ZeU
set_option maxHeartbeats 0 in
theorem ok40:Zaq Tryz.prog 40 s40 :=
 Zaj (V:=e40) (L:=(ZaA [(4,ZCF)])) (rounds:=20) (depth:=6) g40 (ZaY (nt:=130) (by kernel_rfl) (Zbg (by kernel_rfl)) (Zaz ZD5 ZaG)) (fun x=>by kernel_rfl)
end Go.Proofs.Mill
