/- What the functions compute. -/
import Derived.Test.YtecgogmolkjhjaaGreatMillAll3
import Derived.Test.YtecgogmolkjhjaaGreatMillFS17
set_option linter.all false
noncomputable section
namespace Go.Proofs.Mill
def ZcS (x0:List Int) (x1:Config) (x2:List SEntry) (x3:Int) (x4:List SEntry) (x5:Int):Option (((List Int)×Config×(List SEntry)×Int×(List SEntry)×Int)⊕(((List Int)×Config×(List SEntry)×Int×(List SEntry)))) := bif decide (x5<(↑x2.length:Int)) then bif decide ((0:Int)<=x5) then bif decide (x5<(↑x2.length:Int)) then bif (x2.getD x5.toNat ZaV).kind != (3:Int) then bif decide ((0:Int)<=x5) then bif decide (x5<(↑x2.length:Int)) then bif fewB (x4.length+(x2.getD x5.toNat ZaV::([]:List SEntry)).length) then some (Sum.inl (x0,x1,x2,x3,x4++x2.getD x5.toNat ZaV::([]:List SEntry),Zaf IntKind.i64 (x5+(1:Int)))) else none else none else none else some (Sum.inl (x0,x1,x2,x3,x4,Zaf IntKind.i64 (x5+(1:Int)))) else none else none else some (Sum.inr (x0,x1,x2,x3,x4))
def ZdB (x:(List Int)×Config×(List SEntry)×Int×(List SEntry)×Int):Option (((List Int)×Config×(List SEntry)×Int×(List SEntry)×Int)⊕(((List Int)×Config×(List SEntry)×Int×(List SEntry)))):=ZcS x.1 x.2.1 x.2.2.1 x.2.2.2.1 x.2.2.2.2.1 x.2.2.2.2.2
def ZeO (x:(List Int)×Config×(List SEntry)×Int×(List SEntry)×Int):Option (((List Int)×Config×(List SEntry)×Int×(List SEntry))):=Zav ZdB x
def ZbT (x0:List SEntry) (x1:List Int) (x2:Int) (x3:Config) (x4:List SEntry) (x5:Int) (x6:Int):Option (((List SEntry)×(List Int)×Int×Config×(List SEntry)×Int×Int)⊕(((List Int)×Config×(List SEntry)×Int))) := bif decide (x6<(↑x0.length:Int)) then bif decide ((0:Int)<=x6) then bif decide (x6<(↑x0.length:Int)) then bif (x0.getD x6.toNat ZaV).kind == (3:Int) then some (Sum.inl (x0,x1,x2,x3,x4,x5,Zaf IntKind.i64 (x6+(1:Int)))) else bif x6.tmod (7:Int) == (IntKind.i64.wrap x2).tmod (7:Int) then bif fewB (x4.length+(SEntry.mk (3:Int) (0:Int) (0:Int) (Op.mk (0:Int) (0:Int))::([]:List SEntry)).length) then bif decide ((0:Int)<=x6) then bif decide (x6<(↑x0.length:Int)) then bif fewB ((x4++SEntry.mk (3:Int) (0:Int) (0:Int) (Op.mk (0:Int) (0:Int))::([]:List SEntry)).length+(x0.getD x6.toNat ZaV::([]:List SEntry)).length) then some (Sum.inl (x0,x1,x2,x3,x4++SEntry.mk (3:Int) (0:Int) (0:Int) (Op.mk (0:Int) (0:Int))::([]:List SEntry)++x0.getD x6.toNat ZaV::([]:List SEntry),Zaf IntKind.i64 (x5+(1:Int)),Zaf IntKind.i64 (x6+(1:Int)))) else none else none else none else none else bif decide ((0:Int)<=x6) then bif decide (x6<(↑x0.length:Int)) then bif fewB (x4.length+(x0.getD x6.toNat ZaV::([]:List SEntry)).length) then some (Sum.inl (x0,x1,x2,x3,x4++x0.getD x6.toNat ZaV::([]:List SEntry),x5,Zaf IntKind.i64 (x6+(1:Int)))) else none else none else none else none else none else some (Sum.inr (x1,x3,x4,x5))
def Zfb (x:(List SEntry)×(List Int)×Int×Config×(List SEntry)×Int×Int):Option (((List SEntry)×(List Int)×Int×Config×(List SEntry)×Int×Int)⊕(((List Int)×Config×(List SEntry)×Int))):=ZbT x.1 x.2.1 x.2.2.1 x.2.2.2.1 x.2.2.2.2.1 x.2.2.2.2.2.1 x.2.2.2.2.2.2
def Ze8 (x:(List SEntry)×(List Int)×Int×Config×(List SEntry)×Int×Int):Option (((List Int)×Config×(List SEntry)×Int)):=Zav Zfb x
def ZfI (x0:Config) (x1:List SEntry) (x2:List Int) (x3:Int):Option (Bool) := match Zla (x1,x2) with
 | some y1 => bif y1 then match Zfl () with
  | some y2 => some (y2)
  | none=>none else match Zfl () with
  | some y2 => bif !y2 then match Zfl () with
   | some y3 => some (y3)
   | none=>none else match Ze8 (x1,x2,x3,{ x0 with wait:=(0:Int) },([]:List SEntry),(0:Int),(0:Int)) with
   | some y3 => match ZeO (y3.fst,y3.snd.fst,y3.snd.snd.fst,y3.snd.snd.snd,([]:List SEntry),(0:Int)) with
    | some y4 => match ZgD (y4.snd.fst,y4.snd.snd.fst,y4.fst) with
     | some y5 => match ZgD (y4.snd.fst,y4.snd.snd.snd.snd,y4.fst) with
      | some y6 => bif y5.snd.snd != (0:Int) then some (y5.snd.snd == y6.snd.snd) else bif y6.snd.snd != (0:Int) then some (y5.snd.snd == y6.snd.snd) else match Zgg { y5.fst with now:=Zaf IntKind.i64 (y5.fst.now-y4.snd.snd.snd.fst) } with
       | some y7 => match Zgg y6.fst with
        | some y8 => match ZkK (y7,y8) with
         | some y9 => some (y9)
         | none=>none
        | none=>none
       | none=>none
      | none=>none
     | none=>none
    | none=>none
   | none=>none
  | none=>none
 | none=>none
def Zn2 (x:Config×(List SEntry)×(List Int)×Int):Option (Bool):=ZfI x.1 x.2.1 x.2.2.1 x.2.2.2
end Go.Proofs.Mill
