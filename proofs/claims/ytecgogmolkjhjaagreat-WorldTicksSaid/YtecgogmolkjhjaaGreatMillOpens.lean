/- The structs at a law's entry. -/
import Derived.Test.YtecgogmolkjhjaaGreatMillAll4
set_option linter.all false
namespace Go.Proofs.Mill
def ZBR:List CK:=[.int .i64]++([.int .i64]++([.int .i64]++([.int .i64]++([.int .i64]++([.int .i64]++([.int .i64]++([.int .i64]++([.bool]++([.int .i64]++([.int .i64]++([.int .i64])))))))))))
theorem ZBA:celConfig.Opens ZBR:=ZBq (Zdr (Zdu .i64) (Zdr (Zdu .i64) (Zdr (Zdu .i64) (Zdr (Zdu .i64) (Zdr (Zdu .i64) (Zdr (Zdu .i64) (Zdr (Zdu .i64) (Zdr (Zdu .i64) (Zdr Zy8 (Zdr (Zdu .i64) (Zdr (Zdu .i64) (Zdu .i64))))))))))))
end Go.Proofs.Mill
