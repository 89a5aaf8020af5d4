/- Plain words for the plain laws: numbers, lists, loops. -/
import Derived.Test.YtaopdopnecognaaGreatMillAll3
set_option linter.all false
namespace Go.Proofs.Mill
theorem Zas {n:Int} (h1 : -9223372036854775808<=n) (h2:n<=9223372036854775807):Zac .i64 n=n:=by
 rw [Zbv]
 simp [IntKind.wrap,IntKind.signed,IntKind.bits]
 omega
theorem Zbb {n:Nat} (h:n<=4294967296):fewB n=true:=Nat.ble_eq_true_of_le h
theorem Zat {α:Type} (p:Prop) [Decidable p] (a b:α):(bif decide p then a else b)=if p then a else b:=by
 by_cases h:p <;> simp [h]
theorem ZCX {n:Int} (h:(Lit.int .i64 n).wf=true) : -9223372036854775808<=n/\n<=9223372036854775807:=by
 simp [Lit.wf,IntKind.has,IntKind.min,IntKind.max,IntKind.signed,IntKind.bits] at h
 omega
theorem ZeL {σ ρ:Type} {step:σ->Option (σ⊕ρ)} (st:Nat->σ) (n:Nat) {y:ρ} (h1:∀ i,i<n->step (st i)=some (.inl (st (i+1)))) (h2:step (st n)=some (.inr y)) :
   ZaA step (st 0)=some y:=by
 have key:∀ k,k<=n->Loops step (st (n-k)) y:=by
   intro k
   induction k with
   | zero=>intro _;exact .done _ _ h2
   | succ k ih =>
     intro hk
     have:=h1 (n-(k+1)) (by omega)
     rw [show n-(k+1)+1=n-k by omega] at this
     exact .more _ _ _ this (ih (by omega))
 have:=key n (Nat.le_refl _)
 rw [Nat.sub_self] at this
 exact whileM_some.2 this
theorem Zso {α:Type} (l:List α) (d:α) (i:Nat) (h:i<l.length):l.take i++[l.getD i d]=l.take (i+1):=by
 rw [List.getD_eq_getElem?_getD,List.getElem?_eq_getElem h,Option.getD_some,List.take_append_getElem]
end Go.Proofs.Mill
