/- The structs at a law's entry. -/
import Derived.Test.YtecgogmolkjhjaaGreatMillAll4
set_option linter.all false
namespace Go.Proofs.Mill
def ckOp:List CK:=[.int .i64]++([.int .i64])
theorem opOp:celOp.Opens ckOp:=ZpY (Zcu (Zcm .i64) (Zcm .i64))
def ZAG:List CK:=[.int .i64]++([.int .i64]++([.int .i64]++(ckOp)))
theorem ZA5:celSEntry.Opens ZAG:=ZpY (Zcu (Zcm .i64) (Zcu (Zcm .i64) (Zcu (Zcm .i64) opOp)))
def ZBd:List CK:=[.int .i64]++([.int .i64]++([.int .i64]++([.int .i64]++([.int .i64]++([.int .i64]++([.int .i64]++([.int .i64]++([.bool]++([.int .i64]++([.int .i64]++([.int .i64])))))))))))
theorem ZAK:celConfig.Opens ZBd:=ZpY (Zcu (Zcm .i64) (Zcu (Zcm .i64) (Zcu (Zcm .i64) (Zcu (Zcm .i64) (Zcu (Zcm .i64) (Zcu (Zcm .i64) (Zcu (Zcm .i64) (Zcu (Zcm .i64) (Zcu Zyd (Zcu (Zcm .i64) (Zcu (Zcm .i64) (Zcm .i64))))))))))))
end Go.Proofs.Mill
