/- What the functions compute. -/
import Derived.Test.YtecgogmolkjhjaaGreatMillAll3
import Derived.Test.YtecgogmolkjhjaaGreatMillFS17
set_option linter.all false
noncomputable section
namespace Go.Proofs.Mill
def Zc0 (x0:List SEntry) (x1:Wld) (x2:Wld) (x3:Int):Option (((List SEntry)×Wld×Wld×Int)⊕((Unit)⊕(Bool))) := bif decide (x3<(↑x0.length:Int)) then bif decide (0<=x3) then bif decide (x3<(↑x0.length:Int)) then match ZmR (x1,x0.getD x3.toNat Za9) with
 | some y1 => bif decide (0<=x3) then bif decide (x3<=Zaf .i64 (x3+1)) then bif decide (Zaf .i64 (x3+1)<=(↑x0.length:Int)) then match Zk2 (List.drop x3.toNat (List.take (Zaf .i64 (x3+1)).toNat x0)) with
  | some y2 => bif decide (0<(↑(List.length y2):Int)) then match Zjf (x2,List.getD y2 (Int.toNat 0) Za9) with
   | some y3 => bif y1.snd != y3.snd then some (Sum.inr (Sum.inr false)) else bif decide ((↑y1.fst.hist.length:Int)>1000) then some (Sum.inr (Sum.inr false)) else bif decide ((↑y1.fst.log.length:Int)>1000) then some (Sum.inr (Sum.inr false)) else match Zc3 y1.fst with
    | some y4 => match Zdy (y4,y3.fst) with
     | some y5 => bif !y5 then some (Sum.inr (Sum.inr false)) else match Zc3 x1 with
      | some y6 => match Zdy (y6,x2) with
       | some y7 => bif !y7 then some (Sum.inr (Sum.inr false)) else some (Sum.inl (x0,y1.fst,y3.fst,Zaf .i64 (x3+1)))
       | none=>none
      | none=>none
     | none=>none
    | none=>none
   | none=>none else none
  | none=>none else none else none else none
 | none=>none else none else none else some (Sum.inr (Sum.inl ()))
def ZdS (x:(List SEntry)×Wld×Wld×Int):Option (((List SEntry)×Wld×Wld×Int)⊕((Unit)⊕(Bool))):=Zc0 x.1 x.2.1 x.2.2.1 x.2.2.2
def ZfJ (x:(List SEntry)×Wld×Wld×Int):Option ((Unit)⊕(Bool)):=Zay ZdS x
def ZgQ (x0:Config) (x1:List SEntry) (x2:List Int):Option Bool := bif decide ((↑x1.length:Int)>60) then match ZeU () with
 | some y1 => some y1
 | none=>none else bif decide ((↑x2.length:Int)>100) then match ZeU () with
  | some y1 => some y1
  | none=>none else match ZeU () with
  | some y1 => bif !y1 then match ZeU () with
   | some y2 => some y2
   | none=>none else match Zhp (x0,x2) with
   | some y2 => match Zhn (x0,x2) with
    | some y3 => bif y2.snd != y3.snd then some (false) else match Zc3 y2.fst with
     | some y4 => match Zdy (y4,y3.fst) with
      | some y5 => bif !y5 then some (false) else bif y2.snd != 0 then some (true) else match ZfJ (x1,y2.fst,y3.fst,0) with
       | some (.inl y6) => some (true)
       | some (.inr y7) => some y7
       | none=>none
      | none=>none
     | none=>none
    | none=>none
   | none=>none
  | none=>none
def ZqN (x:Config×(List SEntry)×(List Int)):Option Bool:=ZgQ x.1 x.2.1 x.2.2
end Go.Proofs.Mill
