/- The structs at a law's entry. -/
import Derived.Test.YtecgogmolkjhjaaGreatMillAll4
set_option linter.all false
namespace Go.Proofs.Mill
def ZAg:List CK:=[.int .i64]++([.int .i64]++([.int .i64]++([.int .i64]++([.int .i64]++([.int .i64]++([.int .i64]++([.int .i64]++([.bool]++([.int .i64]++([.int .i64]++([.int .i64])))))))))))
theorem ZA6:celConfig.Opens ZAg:=ZAO (Zdq (Zdj .i64) (Zdq (Zdj .i64) (Zdq (Zdj .i64) (Zdq (Zdj .i64) (Zdq (Zdj .i64) (Zdq (Zdj .i64) (Zdq (Zdj .i64) (Zdq (Zdj .i64) (Zdq Zyf (Zdq (Zdj .i64) (Zdq (Zdj .i64) (Zdj .i64))))))))))))
end Go.Proofs.Mill
