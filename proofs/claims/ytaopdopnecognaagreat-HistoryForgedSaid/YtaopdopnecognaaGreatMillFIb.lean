/- What the functions compute that choose. -/
import Derived.Test.YtaopdopnecognaaGreatMillAll3
import Derived.Test.YtaopdopnecognaaGreatMillAll8
namespace Go.Proofs.Mill
set_option linter.all false
noncomputable def Znb (x0:Mark) (x1:Int):Option (Bool) :=
 some (x0.item == x1)
noncomputable def ZmV (x:Mark×Int):Option (Bool):=Znb x.1 x.2
noncomputable def ZmE (x0:Mark) (x1:Int):Option (Bool) :=
 some (x0.t == x1)
noncomputable def ZmD (x:Mark×Int):Option (Bool):=ZmE x.1 x.2
noncomputable def Znl (x0:Event) (x1:Int):Option (Bool) :=
 bif x0.t == x1 then
  some (x0.kind != (3:Int))
 else
  some (false)
noncomputable def ZmU (x:Event×Int):Option (Bool):=Znl x.1 x.2
noncomputable def itReplay:ItV:=ZsL .mark 108 89 (fun k (x:Mark)=>x.item == k) (fun _=>rfl)
noncomputable def itOwn:ItV:=ZsL .mark 108 96 (fun k (x:Mark)=>x.t == k) (fun _=>rfl)
noncomputable def itEvents:ItV:=ZsL .event 102 79 (fun k (x:Event)=>x.t == k && x.kind != 3) (fun _=>rfl)
end Go.Proofs.Mill
