/- The structs at a law's entry. -/
import Derived.Test.YtaopdopnecognaaGreatMillAll4
set_option linter.all false
namespace Go.Proofs.Mill
def Zz6:List CK:=[.int .i64]++([.int .i64]++([.int .i64]++([.int .i64]++([.int .i64]++([.int .i64]++([.int .i64]++([.int .i64]++([.bool]++([.int .i64]++([.int .i64]++([.int .i64])))))))))))
theorem ZAj:celConfig.Opens Zz6:=Zz9 (ZdG (ZdD .i64) (ZdG (ZdD .i64) (ZdG (ZdD .i64) (ZdG (ZdD .i64) (ZdG (ZdD .i64) (ZdG (ZdD .i64) (ZdG (ZdD .i64) (ZdG (ZdD .i64) (ZdG ZwZ (ZdG (ZdD .i64) (ZdG (ZdD .i64) (ZdD .i64))))))))))))
end Go.Proofs.Mill
