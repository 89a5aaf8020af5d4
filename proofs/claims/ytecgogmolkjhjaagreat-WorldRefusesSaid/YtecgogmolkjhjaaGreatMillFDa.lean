/- What the functions compute. -/
import Derived.Test.YtecgogmolkjhjaaGreatMillAll3
import Derived.Test.YtecgogmolkjhjaaGreatMillFS17
set_option linter.all false
noncomputable section
namespace Go.Proofs.Mill
def Ze4 (x0:Config) (x1:List SEntry) (x2:List Int) (x3:SEntry) (x4:Int):Option (Bool) := match Zlg (x1,x2) with
 | some y1 => bif y1 then match Zfe () with
  | some y2 => some (y2)
  | none=>none else match Zfe () with
  | some y2 => bif !y2 then match Zfe () with
   | some y3 => some (y3)
   | none=>none else match Zfv (x0,x1,x2) with
   | some y3 => bif y3.snd.snd != (0:Int) then bif (↑y3.fst.t.length:Int) == (0:Int) then some ((↑y3.fst.m.words.length:Int) == (0:Int)) else some (false) else match ZjX (x3::([]:List SEntry)) with
    | some y4 => bif decide ((0:Int)<(↑(List.length y4):Int)) then match Zfc (x0,List.getD y4 (Int.toNat (0:Int)) Zbo) with
     | some y5 => bif y5 == (0:Int) then some ((↑y3.fst.t.length:Int) == x0.threads) else match ZkH (y3.fst,x3) with
      | some y6 => bif decide (Zaf IntKind.i64 ((↑x1.length:Int)+(1:Int))=(0:Int)) then none else bif decide ((0:Int)<=(IntKind.i64.wrap x4).tmod (Zaf IntKind.i64 ((↑x1.length:Int)+(1:Int)))) then bif decide ((IntKind.i64.wrap x4).tmod (Zaf IntKind.i64 ((↑x1.length:Int)+(1:Int)))<=(↑x1.length:Int)) then bif fewB ((0:Nat)+(List.drop (Int.toNat (0:Int)) (List.take ((IntKind.i64.wrap x4).tmod (Zaf IntKind.i64 ((↑x1.length:Int)+(1:Int)))).toNat x1)).length) then bif fewB ((List.drop (Int.toNat (0:Int)) (List.take ((IntKind.i64.wrap x4).tmod (Zaf IntKind.i64 ((↑x1.length:Int)+(1:Int)))).toNat x1)).length+(x3::([]:List SEntry)).length) then bif decide ((0:Int)<=(IntKind.i64.wrap x4).tmod (Zaf IntKind.i64 ((↑x1.length:Int)+(1:Int)))) then bif decide ((IntKind.i64.wrap x4).tmod (Zaf IntKind.i64 ((↑x1.length:Int)+(1:Int)))<=(↑x1.length:Int)) then bif decide ((↑x1.length:Int)<=(↑x1.length:Int)) then bif fewB ((List.drop (Int.toNat (0:Int)) (List.take ((IntKind.i64.wrap x4).tmod (Zaf IntKind.i64 ((↑x1.length:Int)+(1:Int)))).toNat x1)++x3::([]:List SEntry)).length+(List.drop ((IntKind.i64.wrap x4).tmod (Zaf IntKind.i64 ((↑x1.length:Int)+(1:Int)))).toNat (List.take (↑x1.length:Int).toNat x1)).length) then match Zfv (x0,List.drop (Int.toNat (0:Int)) (List.take ((IntKind.i64.wrap x4).tmod (Zaf IntKind.i64 ((↑x1.length:Int)+(1:Int)))).toNat x1)++x3::([]:List SEntry)++List.drop ((IntKind.i64.wrap x4).tmod (Zaf IntKind.i64 ((↑x1.length:Int)+(1:Int)))).toNat (List.take (↑x1.length:Int).toNat x1),x2) with
       | some y7 => bif y6.snd == y5 then match Zgj y6.fst with
        | some y8 => match Zgj y3.fst with
         | some y9 => match ZkO (y8,y9) with
          | some y10 => bif y10 then bif y7.snd.snd == y5 then bif y7.snd.fst == (IntKind.i64.wrap x4).tmod (Zaf IntKind.i64 ((↑x1.length:Int)+(1:Int))) then bif (↑y7.fst.t.length:Int) == (0:Int) then some ((↑y7.fst.hist.length:Int) == (0:Int)) else some (false) else some (false) else some (false) else some (false)
          | none=>none
         | none=>none
        | none=>none else some (false)
       | none=>none else none else none else none else none else none else none else none else none
      | none=>none
     | none=>none else none
    | none=>none
   | none=>none
  | none=>none
 | none=>none
def Zna (x:Config×(List SEntry)×(List Int)×SEntry×Int):Option (Bool):=Ze4 x.1 x.2.1 x.2.2.1 x.2.2.2.1 x.2.2.2.2
end Go.Proofs.Mill
