/- What the functions compute that choose. -/
import Derived.Test.YtaopdopnecognaaGreatMillAll3
import Derived.Test.YtaopdopnecognaaGreatMillAll8
set_option linter.all false
noncomputable section
namespace Go.Proofs.Mill
def ZnI (x0:Mark) (x1:Int):Option Bool :=
 some (x0.item == x1)
def ZnH (x:Mark×Int):Option Bool:=ZnI x.1 x.2
def ZnA (x0:Mark) (x1:Int):Option Bool :=
 some (x0.t == x1)
def Znt (x:Mark×Int):Option Bool:=ZnA x.1 x.2
def Zn5 (x0:Event) (x1:Int):Option Bool := bif x0.t == x1 then some (x0.kind != 3) else some (false)
def ZoB (x:Event×Int):Option Bool:=Zn5 x.1 x.2
def itReplay:ItV:=ZuI .mark 108 89 (fun k (x:Mark)=>x.item == k) (fun _=>rfl)
def itOwn:ItV:=ZuI .mark 108 96 (fun k (x:Mark)=>x.t == k) (fun _=>rfl)
def itEvents:ItV:=ZuI .event 102 79 (fun k (x:Event)=>x.t == k && x.kind != 3) (fun _=>rfl)
end Go.Proofs.Mill
