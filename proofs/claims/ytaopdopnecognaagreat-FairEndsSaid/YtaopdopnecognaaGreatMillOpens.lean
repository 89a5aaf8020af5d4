/- The structs at a law's entry. -/
import Derived.Test.YtaopdopnecognaaGreatMillAll4
set_option linter.all false
namespace Go.Proofs.Mill
def ZyV:List CK:=[.int .i64]++([.int .i64]++([.int .i64]++([.int .i64]++([.int .i64]++([.int .i64]++([.int .i64]++([.int .i64]++([.bool]++([.int .i64]++([.int .i64]++([.int .i64])))))))))))
theorem Zy0:celConfig.Opens ZyV:=Zzv (Zdw (ZdG .i64) (Zdw (ZdG .i64) (Zdw (ZdG .i64) (Zdw (ZdG .i64) (Zdw (ZdG .i64) (Zdw (ZdG .i64) (Zdw (ZdG .i64) (Zdw (ZdG .i64) (Zdw ZvP (Zdw (ZdG .i64) (Zdw (ZdG .i64) (ZdG .i64))))))))))))
end Go.Proofs.Mill
