/- What the functions compute. -/
import Derived.Test.YtecgogmolkjhjaaGreatMillAll3
import Derived.Test.YtecgogmolkjhjaaGreatMillFS17
set_option linter.all false
noncomputable section
namespace Go.Proofs.Mill
def ZcI (x0:List SEntry) (x1:Wld) (x2:Wld) (x3:Int):Option (((List SEntry)×Wld×Wld×Int)⊕((Wld×Wld))) := bif decide (x3<(↑x0.length:Int)) then bif decide ((0:Int)<=x3) then bif decide (x3<(↑x0.length:Int)) then match Zlm (x1,x0.getD x3.toNat Zbc) with
 | some y1 => some (Sum.inl (x0,y1.fst,x2,Zaf IntKind.i64 (x3+(1:Int))))
 | none=>none else none else none else some (Sum.inr (x1,x2))
def Zdk (x:(List SEntry)×Wld×Wld×Int):Option (((List SEntry)×Wld×Wld×Int)⊕((Wld×Wld))):=ZcI x.1 x.2.1 x.2.2.1 x.2.2.2
def ZeK (x:(List SEntry)×Wld×Wld×Int):Option ((Wld×Wld)):=Zav Zdk x
def ZcK (x0:List SEntry) (x1:Wld) (x2:Wld) (x3:Int):Option (((List SEntry)×Wld×Wld×Int)⊕(((List SEntry)×Wld×Wld)⊕(Bool))) := bif decide (x3<(↑x1.hist.length:Int)) then bif decide ((0:Int)<=x3) then bif decide (x3<(↑x1.hist.length:Int)) then bif decide ((0:Int)<=x3) then bif decide (x3<(↑x2.hist.length:Int)) then bif !((x1.hist.getD x3.toNat Za0).kind == (x2.hist.getD x3.toNat Za0).kind && ((x1.hist.getD x3.toNat Za0).t == (x2.hist.getD x3.toNat Za0).t && ((x1.hist.getD x3.toNat Za0).item == (x2.hist.getD x3.toNat Za0).item && ((x1.hist.getD x3.toNat Za0).op.tag == (x2.hist.getD x3.toNat Za0).op.tag && ((x1.hist.getD x3.toNat Za0).op.v == (x2.hist.getD x3.toNat Za0).op.v && true) && ((x1.hist.getD x3.toNat Za0).prior == (x2.hist.getD x3.toNat Za0).prior && ((x1.hist.getD x3.toNat Za0).did == (x2.hist.getD x3.toNat Za0).did && ((x1.hist.getD x3.toNat Za0).step == (x2.hist.getD x3.toNat Za0).step && true))))))) then some (Sum.inr (Sum.inr false)) else some (Sum.inl (x0,x1,x2,Zaf IntKind.i64 (x3+(1:Int)))) else none else none else none else none else some (Sum.inr (Sum.inl (x0,x1,x2)))
def Zdm (x:(List SEntry)×Wld×Wld×Int):Option (((List SEntry)×Wld×Wld×Int)⊕(((List SEntry)×Wld×Wld)⊕(Bool))):=ZcK x.1 x.2.1 x.2.2.1 x.2.2.2
def ZgK (x:(List SEntry)×Wld×Wld×Int):Option (((List SEntry)×Wld×Wld)⊕(Bool)):=Zav Zdm x
def ZcL (x0:List SEntry) (x1:Wld) (x2:Wld) (x3:Int):Option (((List SEntry)×Wld×Wld×Int)⊕(((List SEntry)×Wld×Wld)⊕(Bool))) := bif decide (x3<(↑x1.log.length:Int)) then bif decide ((0:Int)<=x3) then bif decide (x3<(↑x1.log.length:Int)) then bif decide ((0:Int)<=x3) then bif decide (x3<(↑x2.log.length:Int)) then bif !((x1.log.getD x3.toNat ZaU).t == (x2.log.getD x3.toNat ZaU).t && ((x1.log.getD x3.toNat ZaU).item == (x2.log.getD x3.toNat ZaU).item && ((x1.log.getD x3.toNat ZaU).op.tag == (x2.log.getD x3.toNat ZaU).op.tag && ((x1.log.getD x3.toNat ZaU).op.v == (x2.log.getD x3.toNat ZaU).op.v && true) && ((x1.log.getD x3.toNat ZaU).prior == (x2.log.getD x3.toNat ZaU).prior && ((x1.log.getD x3.toNat ZaU).step == (x2.log.getD x3.toNat ZaU).step && true))))) then some (Sum.inr (Sum.inr false)) else some (Sum.inl (x0,x1,x2,Zaf IntKind.i64 (x3+(1:Int)))) else none else none else none else none else some (Sum.inr (Sum.inl (x0,x1,x2)))
def Zdl (x:(List SEntry)×Wld×Wld×Int):Option (((List SEntry)×Wld×Wld×Int)⊕(((List SEntry)×Wld×Wld)⊕(Bool))):=ZcL x.1 x.2.1 x.2.2.1 x.2.2.2
def ZgI (x:(List SEntry)×Wld×Wld×Int):Option (((List SEntry)×Wld×Wld)⊕(Bool)):=Zav Zdl x
def ZfE (x0:Config) (x1:List SEntry) (x2:List SEntry) (x3:List Int):Option (Bool) := match ZhJ (x1,x3) with
 | some y1 => bif y1 then match Zeo () with
  | some y2 => some (y2)
  | none=>none else match ZhJ (x2,x3) with
  | some y2 => bif y2 then match Zeo () with
   | some y3 => some (y3)
   | none=>none else match Zeo () with
   | some y3 => bif !y3 then match Zeo () with
    | some y4 => some (y4)
    | none=>none else match ZgN (x0,x1,x3) with
    | some y4 => bif fewB ((0:Nat)+x1.length) then bif fewB (x1.length+x2.length) then match ZgN (x0,x1++x2,x3) with
     | some y5 => bif y4.snd.snd != (0:Int) then bif y4.snd.snd == (0:Int) then some (true) else some (y5.snd.snd == y4.snd.snd) else bif y5.snd.snd != (0:Int) then bif y4.snd.snd == (0:Int) then some (true) else some (y5.snd.snd == y4.snd.snd) else bif decide ((↑y5.fst.log.length:Int)<(↑y4.fst.log.length:Int)) then some (false) else bif decide ((↑y5.fst.hist.length:Int)<(↑y4.fst.hist.length:Int)) then some (false) else bif decide (y5.fst.steps<y4.fst.steps) then some (false) else bif decide (y5.fst.now<y4.fst.now) then some (false) else match ZgI (x2,y4.fst,y5.fst,(0:Int)) with
      | some (.inl y6) => match ZgK (y6.fst,y6.snd.fst,y6.snd.snd,(0:Int)) with
       | some (.inl y7) => match ZeK (y7.fst,y7.snd.fst,y7.snd.snd,(0:Int)) with
        | some y8 => match Zgh y8.fst with
         | some y9 => match Zgh y8.snd with
          | some y10 => match ZkE (y9,y10) with
           | some y11 => some (y11)
           | none=>none
          | none=>none
         | none=>none
        | none=>none
       | some (.inr y8) => some (y8)
       | none=>none
      | some (.inr y7) => some (y7)
      | none=>none
     | none=>none else none else none
    | none=>none
   | none=>none
  | none=>none
 | none=>none
def ZnV (x:Config×(List SEntry)×(List SEntry)×(List Int)):Option (Bool):=ZfE x.1 x.2.1 x.2.2.1 x.2.2.2
end Go.Proofs.Mill
