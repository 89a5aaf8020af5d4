/- The structs at a law's entry. -/
import Derived.Test.YtaopdopnecognaaGreatMillAll4
set_option linter.all false
namespace Go.Proofs.Mill
def ZzX:List CK:=[.int .i64]++([.int .i64]++([.int .i64]++([.int .i64]++([.int .i64]++([.int .i64]++([.int .i64]++([.int .i64]++([.bool]++([.int .i64]++([.int .i64]++([.int .i64])))))))))))
theorem ZzT:celConfig.Opens ZzX:=ZzH (Zdr (Zdv .i64) (Zdr (Zdv .i64) (Zdr (Zdv .i64) (Zdr (Zdv .i64) (Zdr (Zdv .i64) (Zdr (Zdv .i64) (Zdr (Zdv .i64) (Zdr (Zdv .i64) (Zdr ZwH (Zdr (Zdv .i64) (Zdr (Zdv .i64) (Zdv .i64))))))))))))
end Go.Proofs.Mill
