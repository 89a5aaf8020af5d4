/- What the functions compute. -/
import Derived.Test.YtaopdopnecognaaGreatMillAll3
import Derived.Test.YtaopdopnecognaaGreatMillFCb
import Derived.Test.YtaopdopnecognaaGreatMillFIb
set_option linter.all false
noncomputable section
namespace Go.Proofs.Mill
def Znp (x0:Event) (x1:Bool) (e:Event):Option ((Event×Bool)⊕(Empty)) :=
 some (Sum.inl (e,e.kind == 1))
def Zex (x:Event×Bool) (e:Event):Option ((Event×Bool)⊕(Empty)):=Znp x.1 x.2 e
def ZfT (x:((List Event×Int)×(Event×Bool))):Option (Event×Bool):=ZiW itEvents Zex x
def ZeT (x0:List Event) (x1:Int):Option (Event×Bool) := match ZfT ((x0,x1),Event.mk 0 0 0 (Op.mk 0 0) 0 false 0,false) with
 | some y1 => bif !y1.snd then some ((Event.mk 0 0 0 (Op.mk 0 0) 0 false 0,false)) else some y1
 | none=>none
def ZeW (x:(List Event)×Int):Option (Event×Bool):=ZeT x.1 x.2
def Zou (x0:Int) (x1:Int) (x2:Int) (x3:List Event) (x4:Int) (x5:Int):Option ((Int×Int×Int×(List Event)×Int×Int)⊕((Int×Int×Int))) := bif decide (x5<x4) then bif decide (0<=x5) then bif decide (x5<(↑x3.length:Int)) then bif (x3.getD x5.toNat ZgO).kind == 1 then some (Sum.inl (Zad .i64 (x0+1),x1,x2,x3,x4,Zad .i64 (x5+1))) else bif (x3.getD x5.toNat ZgO).kind == 2 then some (Sum.inl (x0,Zad .i64 (x1+1),x2,x3,x4,Zad .i64 (x5+1))) else bif (x3.getD x5.toNat ZgO).kind == 3 then some (Sum.inl (x0,x1,Zad .i64 (x2+1),x3,x4,Zad .i64 (x5+1))) else some (Sum.inl (x0,x1,x2,x3,x4,Zad .i64 (x5+1))) else none else none else some (Sum.inr (x0,x1,x2))
def Zgb (x:Int×Int×Int×(List Event)×Int×Int):Option ((Int×Int×Int×(List Event)×Int×Int)⊕((Int×Int×Int))):=Zou x.1 x.2.1 x.2.2.1 x.2.2.2.1 x.2.2.2.2.1 x.2.2.2.2.2
def ZnQ (x:Int×Int×Int×(List Event)×Int×Int):Option (Int×Int×Int):=ZaE Zgb x
def Zpz (x0:List Event):Option (Int×Int×Int) := match ZnQ (0,0,0,x0,(↑x0.length:Int),0) with
 | some y1 => some y1
 | none=>none
def Zfm (x:(List Event)):Option (Int×Int×Int):=Zpz x
def ZqI (x0:Int) (x1:Int):Option Int := bif decide (x0<x1) then some ((-1:Int)) else bif decide (x0>x1) then some (1) else some (0)
def Zk1 (x:Int×Int):Option Int:=ZqI x.1 x.2
def Zgu (x0:List Mark) (x1:Unit) (x2:Int):Option (((List Mark)×Unit×Int)⊕((Unit)⊕(Bool))) := bif decide (x2>0) then bif decide (0<=x2) then bif decide (x2<(↑x0.length:Int)) then bif decide (0<=Zad .i64 (x2-1)) then bif decide (Zad .i64 (x2-1)<(↑x0.length:Int)) then match Zk1 ((x0.getD x2.toNat Zbc).step,(x0.getD (Zad .i64 (x2-1)).toNat Zbc).step) with
 | some y1 => bif decide (y1<0) then some (Sum.inr (Sum.inr false)) else some (Sum.inl (x0,(),Zad .i64 (x2-1)))
 | none=>none else none else none else none else none else some (Sum.inr (Sum.inl ()))
def Zcy (x:(List Mark)×Unit×Int):Option (((List Mark)×Unit×Int)⊕((Unit)⊕(Bool))):=Zgu x.1 x.2.1 x.2.2
def ZgC (x:(List Mark)×Unit×Int):Option ((Unit)⊕(Bool)):=ZaE Zcy x
def ZgR (x0:List Mark) (x1:Unit):Option Bool := match ZgC (x0,(),Zad .i64 ((↑x0.length:Int)-1)) with
 | some (.inl y1) => some (true)
 | some (.inr y2) => some y2
 | none=>none
def Zec (x:(List Mark)×Unit):Option Bool:=ZgR x.1 x.2
def ZnX (x0:Config) (x1:Int) (x2:Bool) (e:Mark):Option ((Config×Int×Bool)⊕(Empty)) := bif x2 then match ZcJ (e.op,x1,x0.lo,x0.hi) with
 | some y1 => some (Sum.inl (x0,y1.fst,x1 == e.prior))
 | none=>none else match ZcJ (e.op,x1,x0.lo,x0.hi) with
 | some y1 => some (Sum.inl (x0,y1.fst,false))
 | none=>none
def Zge (x:Config×Int×Bool) (e:Mark):Option ((Config×Int×Bool)⊕(Empty)):=ZnX x.1 x.2.1 x.2.2 e
def Zoc (x:((List Mark×Int)×(Config×Int×Bool))):Option (Config×Int×Bool):=ZiW itReplay Zge x
def Zpx (x0:Config) (x1:List Mark) (x2:Int):Option (Int×Bool) := match Zoc ((x1,x2),x0,x0.init,true) with
 | some y1 => some (y1.snd)
 | none=>none
def Zej (x:Config×(List Mark)×Int):Option (Int×Bool):=Zpx x.1 x.2.1 x.2.2
def Zhl (x0:List Mark) (e:Mark):Option (((List Mark))⊕(Empty)) := bif fewB (x0.length+(e::[]).length) then some (Sum.inl (x0++e::[])) else none
def ZcR (x:(List Mark)) (e:Mark):Option (((List Mark))⊕(Empty)):=Zhl x e
def Zhn (x:((List Mark×Int)×((List Mark)))):Option (List Mark):=ZiW itOwn ZcR x
def ZhI (x0:Unit) (x1:List Mark×Int):Option (List Mark) := match Zhn (x1,([]:List Mark)) with
 | some y1 => some y1
 | none=>none
def ZeK (x:Unit×(List Mark×Int)):Option (List Mark):=ZhI x.1 x.2
def Zik (x0:List Mark×Int):Option (List Mark) := match ZeK ((),x0) with
 | some y1 => some y1
 | none=>none
def Zfb (x:(List Mark×Int)):Option (List Mark):=Zik x
def Ztf (x0:Event):Option Asked :=
 some (Asked.mk x0.op x0.item)
def Zib (x:Event):Option Asked:=Ztf x
def ZnM (x0:Config) (x1:Mark) (x2:Event) (x3:Event):Option Bool := match ZcJ (x3.op,x3.prior,x0.lo,x0.hi) with
 | some y1 => match Zib x3 with
  | some y2 => match Zib x2 with
   | some y3 => bif y2.op.tag == y3.op.tag && (y2.op.v == y3.op.v && true) && (y2.item == y3.item && true) then bif y2.op.tag == x1.op.tag && (y2.op.v == x1.op.v && true) && (y2.item == x1.item && true) then bif x1.prior == x3.prior then bif y1.snd == x3.did then bif decide (x2.step<x1.step) then some (decide (x1.step<=x3.step)) else some (false) else some (false) else some (false) else some (false) else some (false)
   | none=>none
  | none=>none
 | none=>none
def Zji (x:Config×Mark×Event×Event):Option Bool:=ZnM x.1 x.2.1 x.2.2.1 x.2.2.2
def Zng (x0:Config) (x1:Bool) (x2:List Mark) (x3:Event) (x4:Bool) (e:Event):Option ((Config×Bool×(List Mark)×Event×Bool)⊕((Bool))) := bif x4 == (e.kind == 1) then some (Sum.inr false) else bif !x4 then some (Sum.inl (x0,x1,x2,e,!x4)) else bif (↑x2.length:Int) == 0 then some (Sum.inr false) else bif decide (0<(↑x2.length:Int)) then match Zji (x0,x2.getD (Int.toNat 0) Zbc,x3,e) with
 | some y1 => bif !y1 then some (Sum.inr false) else bif decide (1<=(↑x2.length:Int)) then bif decide ((↑x2.length:Int)<=(↑x2.length:Int)) then some (Sum.inl (x0,x1,List.drop (Int.toNat 1) (List.take (↑x2.length:Int).toNat x2),x3,!x4)) else none else none
 | none=>none else none
def ZfR (x:Config×Bool×(List Mark)×Event×Bool) (e:Event):Option ((Config×Bool×(List Mark)×Event×Bool)⊕((Bool))):=Zng x.1 x.2.1 x.2.2.1 x.2.2.2.1 x.2.2.2.2 e
def Znl (x:((List Event×Int)×(Config×Bool×(List Mark)×Event×Bool))):Option ((Config×Bool×(List Mark)×Event×Bool)⊕((Bool))):=Zs6 itEvents ZfR x
def ZoZ (x0:Config) (x1:List Mark) (x2:List Event) (x3:Int):Option Bool := match Zfb (x1,x3) with
 | some y1 => match Znl ((x2,x3),x0,false,y1,Event.mk 0 0 0 (Op.mk 0 0) 0 false 0,false) with
  | some (.inl y2) => bif (↑(List.length y2.snd.snd.fst):Int) == 0 then some (true) else bif decide ((↑(List.length y2.snd.snd.fst):Int)>1) then some (false) else bif !y2.snd.snd.snd.snd then some (false) else bif decide (0<(↑(List.length y2.snd.snd.fst):Int)) then bif decide (0<(↑(List.length y2.snd.snd.fst):Int)) then match Zib y2.snd.snd.snd.fst with
   | some y3 => bif (List.getD y2.snd.snd.fst (Int.toNat 0) Zbc).op.tag == y3.op.tag && ((List.getD y2.snd.snd.fst (Int.toNat 0) Zbc).op.v == y3.op.v && true) && ((List.getD y2.snd.snd.fst (Int.toNat 0) Zbc).item == y3.item && true) then bif decide (0<(↑(List.length y2.snd.snd.fst):Int)) then some (decide (y2.snd.snd.snd.fst.step<(List.getD y2.snd.snd.fst (Int.toNat 0) Zbc).step)) else none else some (false)
   | none=>none else none else none
  | some (.inr y3) => some y3
  | none=>none
 | none=>none
def Zd2 (x:Config×(List Mark)×(List Event)×Int):Option Bool:=ZoZ x.1 x.2.1 x.2.2.1 x.2.2.2
def Znk (x0:Wld) (x1:Int) (x2:Int):Option ((Wld×Int×Int)⊕((Unit)⊕(Bool))) := bif decide (x2<x1) then match Zd2 (x0.c,x0.log,x0.hist,x2) with
 | some y1 => bif !y1 then some (Sum.inr (Sum.inr false)) else some (Sum.inl (x0,x1,Zad .i64 (x2+1)))
 | none=>none else some (Sum.inr (Sum.inl ()))
def ZfS (x:Wld×Int×Int):Option ((Wld×Int×Int)⊕((Unit)⊕(Bool))):=Znk x.1 x.2.1 x.2.2
def Zno (x:Wld×Int×Int):Option ((Unit)⊕(Bool)):=ZaE ZfS x
def ZnG (x0:Wld) (x1:Int) (x2:Int):Option ((Wld×Int×Int)⊕((Wld)⊕(Bool))) := bif decide (x2<x1) then match Zej (x0.c,x0.log,x2) with
 | some y1 => match ZcZ (x0.c,x2) with
  | some y2 => match ZbZ (x0.m,y2) with
   | some y3 => bif !y1.snd then some (Sum.inr (Sum.inr false)) else bif y3.snd != 0 then some (Sum.inr (Sum.inr false)) else bif y1.fst != y3.fst then some (Sum.inr (Sum.inr false)) else some (Sum.inl (x0,x1,Zad .i64 (x2+1)))
   | none=>none
  | none=>none
 | none=>none else some (Sum.inr (Sum.inl x0))
def Zgc (x:Wld×Int×Int):Option ((Wld×Int×Int)⊕((Wld)⊕(Bool))):=ZnG x.1 x.2.1 x.2.2
def ZnE (x:Wld×Int×Int):Option ((Wld)⊕(Bool)):=ZaE Zgc x
def ZpS (x0:Wld):Option Bool := match Zee x0.c with
 | some y1 => bif y1 != 0 then some (false) else match Zec (x0.log,()) with
  | some y2 => bif !y2 then some (false) else match ZnE (x0,x0.c.items,0) with
   | some (.inl y3) => match Zno (y3,y3.c.threads,0) with
    | some (.inl y4) => some (true)
    | some (.inr y5) => some y5
    | none=>none
   | some (.inr y4) => some y4
   | none=>none
  | none=>none
 | none=>none
def Zct (x:Wld):Option Bool:=ZpS x
def ZsQ:Option Bool := match Zej (Config.mk 2 1 1 0 0 1 0 0 false 0 0 5,Mark.mk 1 0 (Op.mk 1 3) 5 3::Mark.mk 0 0 (Op.mk 1 4) 8 4::[],0) with
 | some y1 => match ZeW (Event.mk 1 1 0 (Op.mk 1 3) 0 false 0::Event.mk 1 0 0 (Op.mk 1 4) 0 false 0::Event.mk 2 1 0 (Op.mk 1 3) 5 true 3::[],0) with
  | some y2 => match Zfm (Event.mk 1 1 0 (Op.mk 1 3) 0 false 0::Event.mk 1 0 0 (Op.mk 1 4) 0 false 0::Event.mk 2 1 0 (Op.mk 1 3) 5 true 3::[]) with
   | some y3 => match Zd2 (Config.mk 2 1 1 0 0 1 0 0 false 0 0 5,Mark.mk 1 0 (Op.mk 1 3) 5 3::Mark.mk 0 0 (Op.mk 1 4) 8 4::[],Event.mk 1 1 0 (Op.mk 1 3) 0 false 0::Event.mk 1 0 0 (Op.mk 1 4) 0 false 0::Event.mk 2 1 0 (Op.mk 1 3) 5 true 3::[],0) with
    | some y4 => bif y4 then match Zd2 (Config.mk 2 1 1 0 0 1 0 0 false 0 0 5,Mark.mk 1 0 (Op.mk 1 3) 5 3::Mark.mk 0 0 (Op.mk 1 4) 8 4::[],Event.mk 1 1 0 (Op.mk 1 3) 0 false 0::Event.mk 1 0 0 (Op.mk 1 4) 0 false 0::Event.mk 2 1 0 (Op.mk 1 3) 5 true 3::[],1) with
     | some y5 => match Zej (Config.mk 2 1 1 0 0 1 0 0 false 0 0 5,(Mark.mk 1 0 (Op.mk 1 3) 5 3::Mark.mk 0 0 (Op.mk 1 4) 8 4::[]).set (Int.toNat 1) { (Mark.mk 1 0 (Op.mk 1 3) 5 3::Mark.mk 0 0 (Op.mk 1 4) 8 4::[]).getD (Int.toNat 1) Zbc with prior:=7 },0) with
      | some y6 => bif y1.fst == 12 then bif y1.snd then bif !y6.snd then bif y2.snd then bif y2.fst.op.v == 4 then bif y3.fst == 2 then bif y3.snd.fst == 1 then bif y3.snd.snd == 0 then bif y5 then match Zd2 (Config.mk 2 1 1 0 0 1 0 0 false 0 0 5,List.drop (Int.toNat 0) (List.take (Int.toNat 0) ((Mark.mk 1 0 (Op.mk 1 3) 5 3::Mark.mk 0 0 (Op.mk 1 4) 8 4::[]).set (Int.toNat 1) { (Mark.mk 1 0 (Op.mk 1 3) 5 3::Mark.mk 0 0 (Op.mk 1 4) 8 4::[]).getD (Int.toNat 1) Zbc with prior:=7 })),Event.mk 1 1 0 (Op.mk 1 3) 0 false 0::Event.mk 1 0 0 (Op.mk 1 4) 0 false 0::Event.mk 2 1 0 (Op.mk 1 3) 5 true 3::[],1) with
       | some y7 => some (!y7)
       | none=>none else some (false) else some (false) else some (false) else some (false) else some (false) else some (false) else some (false) else some (false) else some (false)
      | none=>none
     | none=>none else match Zej (Config.mk 2 1 1 0 0 1 0 0 false 0 0 5,(Mark.mk 1 0 (Op.mk 1 3) 5 3::Mark.mk 0 0 (Op.mk 1 4) 8 4::[]).set (Int.toNat 1) { (Mark.mk 1 0 (Op.mk 1 3) 5 3::Mark.mk 0 0 (Op.mk 1 4) 8 4::[]).getD (Int.toNat 1) Zbc with prior:=7 },0) with
     | some y5 => bif y1.fst == 12 then bif y1.snd then bif !y5.snd then bif y2.snd then bif y2.fst.op.v == 4 then bif y3.fst == 2 then bif y3.snd.fst == 1 then bif y3.snd.snd == 0 then some (false) else some (false) else some (false) else some (false) else some (false) else some (false) else some (false) else some (false) else some (false)
     | none=>none
    | none=>none
   | none=>none
  | none=>none
 | none=>none
def Zs0 (x:Unit):Option Bool:=ZsQ
end Go.Proofs.Mill
