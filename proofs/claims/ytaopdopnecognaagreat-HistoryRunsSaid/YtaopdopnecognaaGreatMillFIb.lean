/- What the functions compute that choose. -/
import Derived.Test.YtaopdopnecognaaGreatMillAll3
import Derived.Test.YtaopdopnecognaaGreatMillAll8
namespace Go.Proofs.Mill
set_option linter.all false
noncomputable def Zm5 (x0:Mark) (x1:Int):Option (Bool) :=
 some (x0.item == x1)
noncomputable def ZmN (x:Mark×Int):Option (Bool):=Zm5 x.1 x.2
noncomputable def ZmC (x0:Mark) (x1:Int):Option (Bool) :=
 some (x0.t == x1)
noncomputable def ZmE (x:Mark×Int):Option (Bool):=ZmC x.1 x.2
noncomputable def ZmL (x0:Event) (x1:Int):Option (Bool) :=
 bif x0.t == x1 then
  some (x0.kind != (3:Int))
 else
  some (false)
noncomputable def ZmJ (x:Event×Int):Option (Bool):=ZmL x.1 x.2
noncomputable def itReplay:ItV:=Zsp .mark 108 89 (fun k (x:Mark)=>x.item == k) (fun _=>rfl)
noncomputable def itOwn:ItV:=Zsp .mark 108 96 (fun k (x:Mark)=>x.t == k) (fun _=>rfl)
noncomputable def itEvents:ItV:=Zsp .event 102 79 (fun k (x:Event)=>x.t == k && x.kind != 3) (fun _=>rfl)
end Go.Proofs.Mill
