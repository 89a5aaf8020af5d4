/- The structs at a law's entry. -/
import Derived.Test.YtaopdopnecognaaGreatMillAll4
set_option linter.all false
namespace Go.Proofs.Mill
def ZxQ:List CK:=[.int .i64]++([.int .i64]++([.int .i64]++([.int .i64]++([.int .i64]++([.int .i64]++([.int .i64]++([.int .i64]++([.bool]++([.int .i64]++([.int .i64]++([.int .i64])))))))))))
theorem Zyn:celConfig.Opens ZxQ:=Zyy (Zdv (Zdn .i64) (Zdv (Zdn .i64) (Zdv (Zdn .i64) (Zdv (Zdn .i64) (Zdv (Zdn .i64) (Zdv (Zdn .i64) (Zdv (Zdn .i64) (Zdv (Zdn .i64) (Zdv Zv0 (Zdv (Zdn .i64) (Zdv (Zdn .i64) (Zdn .i64))))))))))))
end Go.Proofs.Mill
