/- What the functions compute. -/
import Derived.Test.YtecgogmolkjhjaaGreatMillAll3
import Derived.Test.YtecgogmolkjhjaaGreatMillFS17
set_option linter.all false
noncomputable section
namespace Go.Proofs.Mill
def ZcQ (x0:Wld) (x1:Int) (x2:Bool) (x3:Int):Option ((Wld×Int×Bool×Int)⊕((Wld×Int×Bool))) := bif decide (x3<(↑x0.hist.length:Int)) then bif decide ((0:Int)<=x3) then bif decide (x3<(↑x0.hist.length:Int)) then bif x2 then some (Sum.inl (x0,x1,true,Zaf IntKind.i64 (x3+(1:Int)))) else bif (x0.hist.getD x3.toNat Za3).kind == (1:Int) then bif decide ((0:Int)<=x1) then bif decide (x1<(↑x0.log.length:Int)) then bif (x0.hist.getD x3.toNat Za3).t == (x0.log.getD x1.toNat ZaS).t then bif decide ((0:Int)<=x1) then bif decide (x1<(↑x0.log.length:Int)) then bif (x0.hist.getD x3.toNat Za3).item == (x0.log.getD x1.toNat ZaS).item then bif decide ((0:Int)<=x1) then bif decide (x1<(↑x0.log.length:Int)) then bif (x0.hist.getD x3.toNat Za3).op.tag == (x0.log.getD x1.toNat ZaS).op.tag && ((x0.hist.getD x3.toNat Za3).op.v == (x0.log.getD x1.toNat ZaS).op.v && true) then bif decide ((0:Int)<=x1) then bif decide (x1<(↑x0.log.length:Int)) then some (Sum.inl (x0,x1,decide ((x0.hist.getD x3.toNat Za3).step<(x0.log.getD x1.toNat ZaS).step),Zaf IntKind.i64 (x3+(1:Int)))) else none else none else some (Sum.inl (x0,x1,false,Zaf IntKind.i64 (x3+(1:Int)))) else none else none else some (Sum.inl (x0,x1,false,Zaf IntKind.i64 (x3+(1:Int)))) else none else none else some (Sum.inl (x0,x1,false,Zaf IntKind.i64 (x3+(1:Int)))) else none else none else some (Sum.inl (x0,x1,false,Zaf IntKind.i64 (x3+(1:Int)))) else none else none else some (Sum.inr (x0,x1,x2))
def Zdw (x:Wld×Int×Bool×Int):Option ((Wld×Int×Bool×Int)⊕((Wld×Int×Bool))):=ZcQ x.1 x.2.1 x.2.2.1 x.2.2.2
def ZeD (x:Wld×Int×Bool×Int):Option ((Wld×Int×Bool)):=Zav Zdw x
def ZcY (x0:Wld) (x1:Int):Option ((Wld×Int)⊕((Unit)⊕(Bool))) := bif decide (x1<(↑x0.log.length:Int)) then match ZeD (x0,x1,false,(0:Int)) with
 | some y1 => bif !y1.snd.snd then some (Sum.inr (Sum.inr false)) else bif decide ((0:Int)<=y1.snd.fst) then bif decide (y1.snd.fst<(↑y1.fst.log.length:Int)) then bif decide ((y1.fst.log.getD (Int.toNat y1.snd.fst) ZaS).step>y1.fst.steps) then some (Sum.inr (Sum.inr false)) else bif decide ((0:Int)<=y1.snd.fst) then bif decide (y1.snd.fst<(↑y1.fst.log.length:Int)) then bif decide ((y1.fst.log.getD (Int.toNat y1.snd.fst) ZaS).step<(1:Int)) then some (Sum.inr (Sum.inr false)) else some (Sum.inl (y1.fst,Zaf IntKind.i64 (y1.snd.fst+(1:Int)))) else none else none else none else none
 | none=>none else some (Sum.inr (Sum.inl ()))
def ZdO (x:Wld×Int):Option ((Wld×Int)⊕((Unit)⊕(Bool))):=ZcY x.1 x.2
def Zhg (x:Wld×Int):Option ((Unit)⊕(Bool)):=Zav ZdO x
def Zfr (x0:Config) (x1:List SEntry) (x2:List Int):Option (Bool) := match Zkx (x1,x2) with
 | some y1 => bif y1 then match Ze2 () with
  | some y2 => some (y2)
  | none=>none else match Ze2 () with
  | some y2 => bif !y2 then match Ze2 () with
   | some y3 => some (y3)
   | none=>none else match ZiI (x0,x1,x2) with
   | some y3 => bif y3.snd.snd != (0:Int) then some ((↑y3.fst.log.length:Int) == (0:Int)) else match Zhg (y3.fst,(0:Int)) with
    | some (.inl y4) => some (true)
    | some (.inr y5) => some (y5)
    | none=>none
   | none=>none
  | none=>none
 | none=>none
def ZnX (x:Config×(List SEntry)×(List Int)):Option (Bool):=Zfr x.1 x.2.1 x.2.2
end Go.Proofs.Mill
