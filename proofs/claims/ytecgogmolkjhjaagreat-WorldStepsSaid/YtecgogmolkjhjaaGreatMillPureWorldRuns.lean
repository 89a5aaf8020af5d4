/- The plain law of WorldRuns. -/
import Derived.Test.YtecgogmolkjhjaaGreatMillAll37
set_option linter.all false
namespace Go.Proofs.Mill
theorem zero_big:WBig Zpm:=by
 have e:∀ {α:Type} {P:α->Prop},∀ x∈([]:List α),P x:=fun x h=>by cases h
 exact { boxes:=Nat.zero_le _,box:=e,t:=Nat.zero_le _,batch:=e,kids:=e,log:=Nat.zero_le _,hist:=Nat.zero_le _,words:=Nat.zero_le _,held:=e,tape:=Nat.zero_le _ }
end Go.Proofs.Mill
