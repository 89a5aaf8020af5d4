/- What the functions compute that choose. -/
import Derived.Test.YtaopdopnecognaaGreatMillAll3
import Derived.Test.YtaopdopnecognaaGreatMillAll8
namespace Go.Proofs.Mill
set_option linter.all false
noncomputable def Zm1 (x0:Mark) (x1:Int):Option (Bool) :=
 some (x0.item == x1)
noncomputable def ZmG (x:Mark×Int):Option (Bool):=Zm1 x.1 x.2
noncomputable def Zmt (x0:Mark) (x1:Int):Option (Bool) :=
 some (x0.t == x1)
noncomputable def Zms (x:Mark×Int):Option (Bool):=Zmt x.1 x.2
noncomputable def Zmz (x0:Event) (x1:Int):Option (Bool) :=
 bif x0.t == x1 then
  some (x0.kind != (3:Int))
 else
  some (false)
noncomputable def Zmy (x:Event×Int):Option (Bool):=Zmz x.1 x.2
noncomputable def itReplay:ItV:=Zte .mark 108 89 (fun k (x:Mark)=>x.item == k) (fun _=>rfl)
noncomputable def itOwn:ItV:=Zte .mark 108 96 (fun k (x:Mark)=>x.t == k) (fun _=>rfl)
noncomputable def itEvents:ItV:=Zte .event 102 79 (fun k (x:Event)=>x.t == k && x.kind != 3) (fun _=>rfl)
end Go.Proofs.Mill
