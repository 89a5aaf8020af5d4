/- The plain law of HistoryForged. -/
import Derived.Test.YtaopdopnecognaaGreatMillPureHistoryRuns
namespace Go.Proofs.Mill
set_option linter.all false
theorem ZkM {c:Config} {i:Int}:∀ {a b:List Mark} {x y:Int},Zc5 c i x (a++b)=some y→∃ z,Zc5 c i x a=some z∧Zc5 c i z b=some y
  | [],b,x,y,h=>⟨x,rfl,h⟩
  | m :: a, b, x, y, h => by
    rw [List.cons_append,ZeX] at h
    rw [ZeX]
    by_cases e:m.item≠i
    · rw [if_pos e] at h ⊢;exact ZkM h
    · rw [if_neg e] at h ⊢
      by_cases g:m.prior=x∧Inb c (App m.op x c.lo c.hi).1
      · rw [if_pos g] at h ⊢;exact ZkM h
      · rw [if_neg g] at h;cases h
section
variable {c:Config} {w:Wld} {n:Nat} {ro pa rt:Int→Int} {co:Int→Option Int}
end
end Go.Proofs.Mill
