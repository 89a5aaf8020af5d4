/- The structs at a law's entry. -/
import Derived.Test.YtecgogmolkjhjaaGreatMillAll4
set_option linter.all false
namespace Go.Proofs.Mill
def ZBe:List CK:=[.int .i64]++([.int .i64]++([.int .i64]++([.int .i64]++([.int .i64]++([.int .i64]++([.int .i64]++([.int .i64]++([.bool]++([.int .i64]++([.int .i64]++([.int .i64])))))))))))
theorem ZAR:celConfig.Opens ZBe:=ZBf (Zdo (Zdf .i64) (Zdo (Zdf .i64) (Zdo (Zdf .i64) (Zdo (Zdf .i64) (Zdo (Zdf .i64) (Zdo (Zdf .i64) (Zdo (Zdf .i64) (Zdo (Zdf .i64) (Zdo Zxs (Zdo (Zdf .i64) (Zdo (Zdf .i64) (Zdf .i64))))))))))))
end Go.Proofs.Mill
