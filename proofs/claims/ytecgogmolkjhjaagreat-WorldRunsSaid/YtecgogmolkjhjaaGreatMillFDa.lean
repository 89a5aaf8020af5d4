/- What the functions compute. -/
import Derived.Test.YtecgogmolkjhjaaGreatMillAll3
import Derived.Test.YtecgogmolkjhjaaGreatMillFS17
set_option linter.all false
noncomputable section
namespace Go.Proofs.Mill
def Zhm (x0:Config) (x1:List SEntry) (x2:List Int):Option Bool := match Zl1 (x1,x2) with
 | some y1 => bif y1 then match ZfV () with
  | some y2 => some y2
  | none=>none else match ZfV () with
  | some y2 => bif !y2 then match ZfV () with
   | some y3 => some y3
   | none=>none else match ZhG (x0,x1,x2) with
   | some y3 => match ZkV x1 with
    | some y4 => match Zoa (x0,y4,x2) with
     | some y5 => bif y3.snd.fst == y5.snd.fst then bif y3.snd.snd == y5.snd.snd then bif decide ((↑y3.fst.t.length:Int)<=16) then bif decide ((↑y3.fst.m.boxes.length:Int)<=16) then bif decide ((↑y3.fst.hist.length:Int)<=1000) then bif decide ((↑y3.fst.log.length:Int)<=1000) then match Zg7 y3.fst with
      | some y6 => match Zit (y6,y5.fst) with
       | some y7 => bif y7 then match Zgy y3.fst with
        | some y8 => match ZiW y5.fst with
         | some y9 => some (y8 == y9)
         | none=>none
        | none=>none else some (false)
       | none=>none
      | none=>none else some (false) else some (false) else some (false) else some (false) else some (false) else some (false)
     | none=>none
    | none=>none
   | none=>none
  | none=>none
 | none=>none
def Zrw (x:Config×(List SEntry)×(List Int)):Option Bool:=Zhm x.1 x.2.1 x.2.2
end Go.Proofs.Mill
