/- The structs at a law's entry. -/
import Derived.Test.YtaopdopnecognaaGreatMillAll4
set_option linter.all false
namespace Go.Proofs.Mill
def ZxV:List CK:=[.int .i64]++([.int .i64]++([.int .i64]++([.int .i64]++([.int .i64]++([.int .i64]++([.int .i64]++([.int .i64]++([.bool]++([.int .i64]++([.int .i64]++([.int .i64])))))))))))
theorem Zyl:celConfig.Opens ZxV:=Zyo (Zdj (Zdn .i64) (Zdj (Zdn .i64) (Zdj (Zdn .i64) (Zdj (Zdn .i64) (Zdj (Zdn .i64) (Zdj (Zdn .i64) (Zdj (Zdn .i64) (Zdj (Zdn .i64) (Zdj Zvt (Zdj (Zdn .i64) (Zdj (Zdn .i64) (Zdn .i64))))))))))))
end Go.Proofs.Mill
