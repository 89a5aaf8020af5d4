/- The method script.taker.byte: it takes a byte off the string that it is bound to. -/
import Derived.Test.YtaopdopnecognaaGreatMillSeat3
import Derived.Test.YtaopdopnecognaaGreatMillPtrY
import Derived.Test.YtaopdopnecognaaGreatMillAll3
set_option linter.all false
set_option maxRecDepth 100000
noncomputable section
namespace Go.Proofs.Mill
def Zbc (s:ByteArray):Option (Int×ByteArray) := bif decide ((0:Int)<(↑s.size:Int)) then bif decide ((1:Int)<=(↑s.size:Int)) then bif decide ((↑s.size:Int)<=(↑s.size:Int)) then some (IntKind.i64.wrap (↑(s.data.toList.getD (Int.toNat (0:Int)) (0:UInt8)).toNat:Int),s.extract (Int.toNat (1:Int)) (↑s.size:Int).toNat) else none else none else none
theorem ZyA:Zai (env1 []):=Zal mix1 ent1 Zah
def Zzh (v:AV) (ob:List (Nat×AV)):Option (Int×ByteArray):=match v,look ob 65536 with
 | .int .i64 n,.box [.str s]=>some (n,s)
 | _,_=>none
theorem ZxS (s:ByteArray):fnK (env1 []) (fun _=>none) (inlK (env1 []) 20 6) 20 63 0 [.ptr 65536 0] (Zbh celStr s) Zzh=Zbc s:=by kernel_rfl
theorem Zy0:Zy6 Tryz.prog 63 Zbc:=by
 intro w0 ok w mu p vals s y hy hm hp hvals
 have hv:VL (cx w (Zbh celStr s) mu ok) [.ptr 65536 0] vals.toList:=by rw [hvals];exact ⟨hp,trivial⟩
 have h:=Zqf (V:=env1 []) (J:=fun c'=>Frm (cx w (Zbh celStr s) mu ok) c' p) ZyA (Zba ZyA 6) (Frm.stays _ p) (fun _ _ h=>by cases h) Zak hm hv (Frm.refl hp) ((ZxS s).trans hy)
 refine h.mono fun e w' he=>?_
 obtain ⟨v,u,ob',mu',rfl,h1,h2,h3,h4⟩:=he
 unfold Zzh at h4
 split at h4
 . rename_i n s' e1
   obtain rfl:=Option.some.inj h4
   have h3:u=.int .i64 n:=h3
   subst h3
   exact ⟨ob',mu',rfl,h1,h2,e1⟩
 . cases h4
def y63:YSpec:=yOf Zbc
theorem ZD3:Zxq Tryz.prog 63 y63:=ZBA Zy0
def ZDr (l:List (FuncId×Spec)):Env:=envY Tryz.prog E1p hi1 l 63 y63
end Go.Proofs.Mill
