/- The structs at a law's entry. -/
import Derived.Test.YtecgogmolkjhjaaGreatMillAll4
set_option linter.all false
namespace Go.Proofs.Mill
def ckOp:List CK:=[.int .i64]++([.int .i64])
theorem opOp:celOp.Opens ckOp:=Zvu (Zc6 (ZcT .i64) (ZcT .i64))
def ZAY:List CK:=[.int .i64]++([.int .i64]++([.int .i64]++([.int .i64]++([.int .i64]++([.int .i64]++([.int .i64]++([.int .i64]++([.bool]++([.int .i64]++([.int .i64]++([.int .i64])))))))))))
theorem ZAo:celConfig.Opens ZAY:=Zvu (Zc6 (ZcT .i64) (Zc6 (ZcT .i64) (Zc6 (ZcT .i64) (Zc6 (ZcT .i64) (Zc6 (ZcT .i64) (Zc6 (ZcT .i64) (Zc6 (ZcT .i64) (Zc6 (ZcT .i64) (Zc6 Zyc (Zc6 (ZcT .i64) (Zc6 (ZcT .i64) (ZcT .i64))))))))))))
end Go.Proofs.Mill
