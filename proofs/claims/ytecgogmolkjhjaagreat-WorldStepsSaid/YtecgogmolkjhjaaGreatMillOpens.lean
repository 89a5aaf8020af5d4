/- The structs at a law's entry. -/
import Derived.Test.YtecgogmolkjhjaaGreatMillAll4
set_option linter.all false
namespace Go.Proofs.Mill
def ZCc:List CK:=[.int .i64]++([.int .i64]++([.int .i64]++([.int .i64]++([.int .i64]++([.int .i64]++([.int .i64]++([.int .i64]++([.bool]++([.int .i64]++([.int .i64]++([.int .i64])))))))))))
theorem ZBX:celConfig.Opens ZCc:=ZCn (Zdw (ZdK .i64) (Zdw (ZdK .i64) (Zdw (ZdK .i64) (Zdw (ZdK .i64) (Zdw (ZdK .i64) (Zdw (ZdK .i64) (Zdw (ZdK .i64) (Zdw (ZdK .i64) (Zdw ZzJ (Zdw (ZdK .i64) (Zdw (ZdK .i64) (ZdK .i64))))))))))))
end Go.Proofs.Mill
