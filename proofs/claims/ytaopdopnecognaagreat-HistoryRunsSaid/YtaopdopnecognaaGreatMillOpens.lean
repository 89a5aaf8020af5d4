/- The structs at a law's entry. -/
import Derived.Test.YtaopdopnecognaaGreatMillAll4
set_option linter.all false
namespace Go.Proofs.Mill
def Zye:List CK:=[.int .i64]++([.int .i64]++([.int .i64]++([.int .i64]++([.int .i64]++([.int .i64]++([.int .i64]++([.int .i64]++([.bool]++([.int .i64]++([.int .i64]++([.int .i64])))))))))))
theorem ZyG:celConfig.Opens Zye:=Zx5 (Zds (Zdn .i64) (Zds (Zdn .i64) (Zds (Zdn .i64) (Zds (Zdn .i64) (Zds (Zdn .i64) (Zds (Zdn .i64) (Zds (Zdn .i64) (Zds (Zdn .i64) (Zds Zwb (Zds (Zdn .i64) (Zds (Zdn .i64) (Zdn .i64))))))))))))
end Go.Proofs.Mill
