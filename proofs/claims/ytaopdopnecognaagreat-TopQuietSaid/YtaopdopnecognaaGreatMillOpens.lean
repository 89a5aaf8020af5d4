/- The structs at a law's entry. -/
import Derived.Test.YtaopdopnecognaaGreatMillAll4
set_option linter.all false
namespace Go.Proofs.Mill
def ZzZ:List CK:=[.int .i64]++([.int .i64]++([.int .i64]++([.int .i64]++([.int .i64]++([.int .i64]++([.int .i64]++([.int .i64]++([.bool]++([.int .i64]++([.int .i64]++([.int .i64])))))))))))
theorem Zzn:celConfig.Opens ZzZ:=ZzK (Zdv (Zdr .i64) (Zdv (Zdr .i64) (Zdv (Zdr .i64) (Zdv (Zdr .i64) (Zdv (Zdr .i64) (Zdv (Zdr .i64) (Zdv (Zdr .i64) (Zdv (Zdr .i64) (Zdv Zwm (Zdv (Zdr .i64) (Zdv (Zdr .i64) (Zdr .i64))))))))))))
end Go.Proofs.Mill
