/- The structs at a law's entry. -/
import Derived.Test.YtecgogmolkjhjaaGreatMillAll4
set_option linter.all false
namespace Go.Proofs.Mill
def ZAV:List CK:=[.int .i64]++([.int .i64]++([.int .i64]++([.int .i64]++([.int .i64]++([.int .i64]++([.int .i64]++([.int .i64]++([.bool]++([.int .i64]++([.int .i64]++([.int .i64])))))))))))
theorem ZBm:celConfig.Opens ZAV:=ZAv (Zdv (Zdp .i64) (Zdv (Zdp .i64) (Zdv (Zdp .i64) (Zdv (Zdp .i64) (Zdv (Zdp .i64) (Zdv (Zdp .i64) (Zdv (Zdp .i64) (Zdv (Zdp .i64) (Zdv Zx4 (Zdv (Zdp .i64) (Zdv (Zdp .i64) (Zdp .i64))))))))))))
end Go.Proofs.Mill
