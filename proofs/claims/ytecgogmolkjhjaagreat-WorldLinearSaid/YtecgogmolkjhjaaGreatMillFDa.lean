/- What the functions compute. -/
import Derived.Test.YtecgogmolkjhjaaGreatMillAll3
import Derived.Test.YtecgogmolkjhjaaGreatMillFS17
set_option linter.all false
noncomputable section
namespace Go.Proofs.Mill
def Zfo (x0:Config) (x1:List SEntry) (x2:List Int):Option (Bool) := match Zkb (x1,x2) with
 | some y1 => bif y1 then match Zfa () with
  | some y2 => some (y2)
  | none=>none else match Zfa () with
  | some y2 => bif !y2 then match Zfa () with
   | some y3 => some (y3)
   | none=>none else match ZiS (x0,x1,x2) with
   | some y3 => bif y3.snd.snd != (0:Int) then bif (↑y3.fst.log.length:Int) == (0:Int) then some ((↑y3.fst.hist.length:Int) == (0:Int)) else some (false) else match Zjo (x0,y3.fst) with
    | some y4 => bif y4 then match Zhg (x0,y3.fst) with
     | some y5 => some (y5)
     | none=>none else some (false)
    | none=>none
   | none=>none
  | none=>none
 | none=>none
def Znp (x:Config×(List SEntry)×(List Int)):Option (Bool):=Zfo x.1 x.2.1 x.2.2
end Go.Proofs.Mill
