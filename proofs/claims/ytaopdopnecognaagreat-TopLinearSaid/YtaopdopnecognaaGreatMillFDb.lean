/- What the functions compute. -/
import Derived.Test.YtaopdopnecognaaGreatMillAll3
import Derived.Test.YtaopdopnecognaaGreatMillFCb
import Derived.Test.YtaopdopnecognaaGreatMillFIb
set_option linter.all false
noncomputable section
namespace Go.Proofs.Mill
def Znu (x0:Event) (x1:Bool) (e:Event):Option ((Event×Bool)⊕(Empty)) :=
 some (Sum.inl (e,e.kind == 1))
def Zf2 (x:Event×Bool) (e:Event):Option ((Event×Bool)⊕(Empty)):=Znu x.1 x.2 e
def ZnD (x:((List Event×Int)×(Event×Bool))):Option (Event×Bool):=Zi8 itEvents Zf2 x
def Zpc (x0:List Event) (x1:Int):Option (Event×Bool) := match ZnD ((x0,x1),Event.mk 0 0 0 (Op.mk 0 0) 0 false 0,false) with
 | some y1 => bif !y1.snd then some ((Event.mk 0 0 0 (Op.mk 0 0) 0 false 0,false)) else some y1
 | none=>none
def Zg0 (x:(List Event)×Int):Option (Event×Bool):=Zpc x.1 x.2
def Zn9 (x0:Int) (x1:Int) (x2:Int) (x3:List Event) (x4:Int) (x5:Int):Option ((Int×Int×Int×(List Event)×Int×Int)⊕((Int×Int×Int))) := bif decide (x5<x4) then bif decide (0<=x5) then bif decide (x5<(↑x3.length:Int)) then bif (x3.getD x5.toNat Zfw).kind == 1 then some (Sum.inl (Zac .i64 (x0+1),x1,x2,x3,x4,Zac .i64 (x5+1))) else bif (x3.getD x5.toNat Zfw).kind == 2 then some (Sum.inl (x0,Zac .i64 (x1+1),x2,x3,x4,Zac .i64 (x5+1))) else bif (x3.getD x5.toNat Zfw).kind == 3 then some (Sum.inl (x0,x1,Zac .i64 (x2+1),x3,x4,Zac .i64 (x5+1))) else some (Sum.inl (x0,x1,x2,x3,x4,Zac .i64 (x5+1))) else none else none else some (Sum.inr (x0,x1,x2))
def ZgA (x:Int×Int×Int×(List Event)×Int×Int):Option ((Int×Int×Int×(List Event)×Int×Int)⊕((Int×Int×Int))):=Zn9 x.1 x.2.1 x.2.2.1 x.2.2.2.1 x.2.2.2.2.1 x.2.2.2.2.2
def ZnU (x:Int×Int×Int×(List Event)×Int×Int):Option (Int×Int×Int):=ZaA ZgA x
def Zp2 (x0:List Event):Option (Int×Int×Int) := match ZnU (0,0,0,x0,(↑x0.length:Int),0) with
 | some y1 => some y1
 | none=>none
def Zfp (x:(List Event)):Option (Int×Int×Int):=Zp2 x
def Zll (x0:Int) (x1:Int):Option Int := bif decide (x0<x1) then some ((-1:Int)) else bif decide (x0>x1) then some (1) else some (0)
def Ziq (x:Int×Int):Option Int:=Zll x.1 x.2
def Zcz (x0:List Mark) (x1:Unit) (x2:Int):Option (((List Mark)×Unit×Int)⊕((Unit)⊕(Bool))) := bif decide (x2>0) then bif decide (0<=x2) then bif decide (x2<(↑x0.length:Int)) then bif decide (0<=Zac .i64 (x2-1)) then bif decide (Zac .i64 (x2-1)<(↑x0.length:Int)) then match Ziq ((x0.getD x2.toNat ZaO).step,(x0.getD (Zac .i64 (x2-1)).toNat ZaO).step) with
 | some y1 => bif decide (y1<0) then some (Sum.inr (Sum.inr false)) else some (Sum.inl (x0,(),Zac .i64 (x2-1)))
 | none=>none else none else none else none else none else some (Sum.inr (Sum.inl ()))
def Zbe (x:(List Mark)×Unit×Int):Option (((List Mark)×Unit×Int)⊕((Unit)⊕(Bool))):=Zcz x.1 x.2.1 x.2.2
def ZbB (x:(List Mark)×Unit×Int):Option ((Unit)⊕(Bool)):=ZaA Zbe x
def ZbJ (x0:List Mark) (x1:Unit):Option Bool := match ZbB (x0,(),Zac .i64 ((↑x0.length:Int)-1)) with
 | some (.inl y1) => some (true)
 | some (.inr y2) => some y2
 | none=>none
def ZcP (x:(List Mark)×Unit):Option Bool:=ZbJ x.1 x.2
def Zjk (x0:Config) (x1:Int) (x2:Bool) (e:Mark):Option ((Config×Int×Bool)⊕(Empty)) := bif x2 then match Zcf (e.op,x1,x0.lo,x0.hi) with
 | some y1 => some (Sum.inl (x0,y1.fst,x1 == e.prior))
 | none=>none else match Zcf (e.op,x1,x0.lo,x0.hi) with
 | some y1 => some (Sum.inl (x0,y1.fst,false))
 | none=>none
def ZdM (x:Config×Int×Bool) (e:Mark):Option ((Config×Int×Bool)⊕(Empty)):=Zjk x.1 x.2.1 x.2.2 e
def Zjm (x:((List Mark×Int)×(Config×Int×Bool))):Option (Config×Int×Bool):=Zi8 itReplay ZdM x
def Zhu (x0:Config) (x1:List Mark) (x2:Int):Option (Int×Bool) := match Zjm ((x1,x2),x0,x0.init,true) with
 | some y1 => some (y1.snd)
 | none=>none
def Zdz (x:Config×(List Mark)×Int):Option (Int×Bool):=Zhu x.1 x.2.1 x.2.2
def Zes (x0:List Mark) (e:Mark):Option (((List Mark))⊕(Empty)) := bif fewB (x0.length+(e::[]).length) then some (Sum.inl (x0++e::[])) else none
def ZbP (x:(List Mark)) (e:Mark):Option (((List Mark))⊕(Empty)):=Zes x e
def Zel (x:((List Mark×Int)×((List Mark)))):Option (List Mark):=Zi8 itOwn ZbP x
def ZeN (x0:Unit) (x1:List Mark×Int):Option (List Mark) := match Zel (x1,([]:List Mark)) with
 | some y1 => some y1
 | none=>none
def Zc8 (x:Unit×(List Mark×Int)):Option (List Mark):=ZeN x.1 x.2
def Zdp (x0:List Mark×Int):Option (List Mark) := match Zc8 ((),x0) with
 | some y1 => some y1
 | none=>none
def Zdw (x:(List Mark×Int)):Option (List Mark):=Zdp x
def ZkE (x0:Event):Option Asked :=
 some (Asked.mk x0.op x0.item)
def Ze6 (x:Event):Option Asked:=ZkE x
def Zgk (x0:Config) (x1:Mark) (x2:Event) (x3:Event):Option Bool := match Zcf (x3.op,x3.prior,x0.lo,x0.hi) with
 | some y1 => match Ze6 x3 with
  | some y2 => match Ze6 x2 with
   | some y3 => bif y2.op.tag == y3.op.tag && (y2.op.v == y3.op.v && true) && (y2.item == y3.item && true) then bif y2.op.tag == x1.op.tag && (y2.op.v == x1.op.v && true) && (y2.item == x1.item && true) then bif x1.prior == x3.prior then bif y1.snd == x3.did then bif decide (x2.step<x1.step) then some (decide (x1.step<=x3.step)) else some (false) else some (false) else some (false) else some (false) else some (false)
   | none=>none
  | none=>none
 | none=>none
def Zgx (x:Config×Mark×Event×Event):Option Bool:=Zgk x.1 x.2.1 x.2.2.1 x.2.2.2
def Zf0 (x0:Config) (x1:Bool) (x2:List Mark) (x3:Event) (x4:Bool) (e:Event):Option ((Config×Bool×(List Mark)×Event×Bool)⊕((Bool))) := bif x4 == (e.kind == 1) then some (Sum.inr false) else bif !x4 then some (Sum.inl (x0,x1,x2,e,!x4)) else bif (↑x2.length:Int) == 0 then some (Sum.inr false) else bif decide (0<(↑x2.length:Int)) then match Zgx (x0,x2.getD (Int.toNat 0) ZaO,x3,e) with
 | some y1 => bif !y1 then some (Sum.inr false) else bif decide (1<=(↑x2.length:Int)) then bif decide ((↑x2.length:Int)<=(↑x2.length:Int)) then some (Sum.inl (x0,x1,List.drop (Int.toNat 1) (List.take (↑x2.length:Int).toNat x2),x3,!x4)) else none else none
 | none=>none else none
def Zck (x:Config×Bool×(List Mark)×Event×Bool) (e:Event):Option ((Config×Bool×(List Mark)×Event×Bool)⊕((Bool))):=Zf0 x.1 x.2.1 x.2.2.1 x.2.2.2.1 x.2.2.2.2 e
def Zit (x:((List Event×Int)×(Config×Bool×(List Mark)×Event×Bool))):Option ((Config×Bool×(List Mark)×Event×Bool)⊕((Bool))):=ZoP itEvents Zck x
def ZgY (x0:Config) (x1:List Mark) (x2:List Event) (x3:Int):Option Bool := match Zdw (x1,x3) with
 | some y1 => match Zit ((x2,x3),x0,false,y1,Event.mk 0 0 0 (Op.mk 0 0) 0 false 0,false) with
  | some (.inl y2) => bif (↑(List.length y2.snd.snd.fst):Int) == 0 then some (true) else bif decide ((↑(List.length y2.snd.snd.fst):Int)>1) then some (false) else bif !y2.snd.snd.snd.snd then some (false) else bif decide (0<(↑(List.length y2.snd.snd.fst):Int)) then bif decide (0<(↑(List.length y2.snd.snd.fst):Int)) then match Ze6 y2.snd.snd.snd.fst with
   | some y3 => bif (List.getD y2.snd.snd.fst (Int.toNat 0) ZaO).op.tag == y3.op.tag && ((List.getD y2.snd.snd.fst (Int.toNat 0) ZaO).op.v == y3.op.v && true) && ((List.getD y2.snd.snd.fst (Int.toNat 0) ZaO).item == y3.item && true) then bif decide (0<(↑(List.length y2.snd.snd.fst):Int)) then some (decide (y2.snd.snd.snd.fst.step<(List.getD y2.snd.snd.fst (Int.toNat 0) ZaO).step)) else none else some (false)
   | none=>none else none else none
  | some (.inr y3) => some y3
  | none=>none
 | none=>none
def Zdg (x:Config×(List Mark)×(List Event)×Int):Option Bool:=ZgY x.1 x.2.1 x.2.2.1 x.2.2.2
def Zf1 (x0:Wld) (x1:Int) (x2:Int):Option ((Wld×Int×Int)⊕((Unit)⊕(Bool))) := bif decide (x2<x1) then match Zdg (x0.c,x0.log,x0.hist,x2) with
 | some y1 => bif !y1 then some (Sum.inr (Sum.inr false)) else some (Sum.inl (x0,x1,Zac .i64 (x2+1)))
 | none=>none else some (Sum.inr (Sum.inl ()))
def ZcG (x:Wld×Int×Int):Option ((Wld×Int×Int)⊕((Unit)⊕(Bool))):=Zf1 x.1 x.2.1 x.2.2
def ZfZ (x:Wld×Int×Int):Option ((Unit)⊕(Bool)):=ZaA ZcG x
def Zgl (x0:Wld) (x1:Int) (x2:Int):Option ((Wld×Int×Int)⊕((Wld)⊕(Bool))) := bif decide (x2<x1) then match Zdz (x0.c,x0.log,x2) with
 | some y1 => match ZcM (x0.c,x2) with
  | some y2 => match ZbX (x0.m,y2) with
   | some y3 => bif !y1.snd then some (Sum.inr (Sum.inr false)) else bif y3.snd != 0 then some (Sum.inr (Sum.inr false)) else bif y1.fst != y3.fst then some (Sum.inr (Sum.inr false)) else some (Sum.inl (x0,x1,Zac .i64 (x2+1)))
   | none=>none
  | none=>none
 | none=>none else some (Sum.inr (Sum.inl x0))
def Zc1 (x:Wld×Int×Int):Option ((Wld×Int×Int)⊕((Wld)⊕(Bool))):=Zgl x.1 x.2.1 x.2.2
def ZgB (x:Wld×Int×Int):Option ((Wld)⊕(Bool)):=ZaA Zc1 x
def Zfk (x0:Wld):Option Bool := match Zdo x0.c with
 | some y1 => bif y1 != 0 then some (false) else match ZcP (x0.log,()) with
  | some y2 => bif !y2 then some (false) else match ZgB (x0,x0.c.items,0) with
   | some (.inl y3) => match ZfZ (y3,y3.c.threads,0) with
    | some (.inl y4) => some (true)
    | some (.inr y5) => some y5
    | none=>none
   | some (.inr y4) => some y4
   | none=>none
  | none=>none
 | none=>none
def ZbR (x:Wld):Option Bool:=Zfk x
def Ztb:Option Bool := match Zdz (Config.mk 2 1 1 0 0 1 0 0 false 0 0 5,Mark.mk 1 0 (Op.mk 1 3) 5 3::Mark.mk 0 0 (Op.mk 1 4) 8 4::[],0) with
 | some y1 => match Zg0 (Event.mk 1 1 0 (Op.mk 1 3) 0 false 0::Event.mk 1 0 0 (Op.mk 1 4) 0 false 0::Event.mk 2 1 0 (Op.mk 1 3) 5 true 3::[],0) with
  | some y2 => match Zfp (Event.mk 1 1 0 (Op.mk 1 3) 0 false 0::Event.mk 1 0 0 (Op.mk 1 4) 0 false 0::Event.mk 2 1 0 (Op.mk 1 3) 5 true 3::[]) with
   | some y3 => match Zdg (Config.mk 2 1 1 0 0 1 0 0 false 0 0 5,Mark.mk 1 0 (Op.mk 1 3) 5 3::Mark.mk 0 0 (Op.mk 1 4) 8 4::[],Event.mk 1 1 0 (Op.mk 1 3) 0 false 0::Event.mk 1 0 0 (Op.mk 1 4) 0 false 0::Event.mk 2 1 0 (Op.mk 1 3) 5 true 3::[],0) with
    | some y4 => bif y4 then match Zdg (Config.mk 2 1 1 0 0 1 0 0 false 0 0 5,Mark.mk 1 0 (Op.mk 1 3) 5 3::Mark.mk 0 0 (Op.mk 1 4) 8 4::[],Event.mk 1 1 0 (Op.mk 1 3) 0 false 0::Event.mk 1 0 0 (Op.mk 1 4) 0 false 0::Event.mk 2 1 0 (Op.mk 1 3) 5 true 3::[],1) with
     | some y5 => match Zdz (Config.mk 2 1 1 0 0 1 0 0 false 0 0 5,(Mark.mk 1 0 (Op.mk 1 3) 5 3::Mark.mk 0 0 (Op.mk 1 4) 8 4::[]).set (Int.toNat 1) { (Mark.mk 1 0 (Op.mk 1 3) 5 3::Mark.mk 0 0 (Op.mk 1 4) 8 4::[]).getD (Int.toNat 1) ZaO with prior:=7 },0) with
      | some y6 => bif y1.fst == 12 then bif y1.snd then bif !y6.snd then bif y2.snd then bif y2.fst.op.v == 4 then bif y3.fst == 2 then bif y3.snd.fst == 1 then bif y3.snd.snd == 0 then bif y5 then match Zdg (Config.mk 2 1 1 0 0 1 0 0 false 0 0 5,List.drop (Int.toNat 0) (List.take (Int.toNat 0) ((Mark.mk 1 0 (Op.mk 1 3) 5 3::Mark.mk 0 0 (Op.mk 1 4) 8 4::[]).set (Int.toNat 1) { (Mark.mk 1 0 (Op.mk 1 3) 5 3::Mark.mk 0 0 (Op.mk 1 4) 8 4::[]).getD (Int.toNat 1) ZaO with prior:=7 })),Event.mk 1 1 0 (Op.mk 1 3) 0 false 0::Event.mk 1 0 0 (Op.mk 1 4) 0 false 0::Event.mk 2 1 0 (Op.mk 1 3) 5 true 3::[],1) with
       | some y7 => some (!y7)
       | none=>none else some (false) else some (false) else some (false) else some (false) else some (false) else some (false) else some (false) else some (false) else some (false)
      | none=>none
     | none=>none else match Zdz (Config.mk 2 1 1 0 0 1 0 0 false 0 0 5,(Mark.mk 1 0 (Op.mk 1 3) 5 3::Mark.mk 0 0 (Op.mk 1 4) 8 4::[]).set (Int.toNat 1) { (Mark.mk 1 0 (Op.mk 1 3) 5 3::Mark.mk 0 0 (Op.mk 1 4) 8 4::[]).getD (Int.toNat 1) ZaO with prior:=7 },0) with
     | some y5 => bif y1.fst == 12 then bif y1.snd then bif !y5.snd then bif y2.snd then bif y2.fst.op.v == 4 then bif y3.fst == 2 then bif y3.snd.fst == 1 then bif y3.snd.snd == 0 then some (false) else some (false) else some (false) else some (false) else some (false) else some (false) else some (false) else some (false) else some (false)
     | none=>none
    | none=>none
   | none=>none
  | none=>none
 | none=>none
def Zs2 (x:Unit):Option Bool:=Ztb
end Go.Proofs.Mill
