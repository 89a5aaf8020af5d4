/- The structs at a law's entry. -/
import Derived.Test.YtecgogmolkjhjaaGreatMillAll4
set_option linter.all false
namespace Go.Proofs.Mill
def ZCn:List CK:=[.int .i64]++([.int .i64]++([.int .i64]++([.int .i64]++([.int .i64]++([.int .i64]++([.int .i64]++([.int .i64]++([.bool]++([.int .i64]++([.int .i64]++([.int .i64])))))))))))
theorem ZCs:celConfig.Opens ZCn:=ZBF (ZdE (Zdt .i64) (ZdE (Zdt .i64) (ZdE (Zdt .i64) (ZdE (Zdt .i64) (ZdE (Zdt .i64) (ZdE (Zdt .i64) (ZdE (Zdt .i64) (ZdE (Zdt .i64) (ZdE ZyU (ZdE (Zdt .i64) (ZdE (Zdt .i64) (Zdt .i64))))))))))))
end Go.Proofs.Mill
