/- What the functions compute. -/
import Derived.Test.YtaopdopnecognaaGreatMillAll3
import Derived.Test.YtaopdopnecognaaGreatMillFCb
import Derived.Test.YtaopdopnecognaaGreatMillFIb
set_option linter.all false
noncomputable section
namespace Go.Proofs.Mill
def Znj (x0:Event) (x1:Bool) (e:Event):Option ((Event×Bool)⊕(Empty)) :=
 some (Sum.inl (e,e.kind == 1))
def Znh (x:Event×Bool) (e:Event):Option ((Event×Bool)⊕(Empty)):=Znj x.1 x.2 e
def Zni (x:((List Event×Int)×(Event×Bool))):Option (Event×Bool):=Zj2 itEvents Znh x
def ZoG (x0:List Event) (x1:Int):Option (Event×Bool) := match Zni ((x0,x1),Event.mk 0 0 0 (Op.mk 0 0) 0 false 0,false) with
 | some y1 => bif !y1.snd then some ((Event.mk 0 0 0 (Op.mk 0 0) 0 false 0,false)) else some y1
 | none=>none
def ZjS (x:(List Event)×Int):Option (Event×Bool):=ZoG x.1 x.2
def Zf2 (x0:Int) (x1:Int) (x2:Int) (x3:List Event) (x4:Int) (x5:Int):Option ((Int×Int×Int×(List Event)×Int×Int)⊕((Int×Int×Int))) := bif decide (x5<x4) then bif decide (0<=x5) then bif decide (x5<(↑x3.length:Int)) then bif (x3.getD x5.toNat Zdh).kind == 1 then some (Sum.inl (Zad .i64 (x0+1),x1,x2,x3,x4,Zad .i64 (x5+1))) else bif (x3.getD x5.toNat Zdh).kind == 2 then some (Sum.inl (x0,Zad .i64 (x1+1),x2,x3,x4,Zad .i64 (x5+1))) else bif (x3.getD x5.toNat Zdh).kind == 3 then some (Sum.inl (x0,x1,Zad .i64 (x2+1),x3,x4,Zad .i64 (x5+1))) else some (Sum.inl (x0,x1,x2,x3,x4,Zad .i64 (x5+1))) else none else none else some (Sum.inr (x0,x1,x2))
def ZdD (x:Int×Int×Int×(List Event)×Int×Int):Option ((Int×Int×Int×(List Event)×Int×Int)⊕((Int×Int×Int))):=Zf2 x.1 x.2.1 x.2.2.1 x.2.2.2.1 x.2.2.2.2.1 x.2.2.2.2.2
def Zjb (x:Int×Int×Int×(List Event)×Int×Int):Option (Int×Int×Int):=ZaI ZdD x
def Zhe (x0:List Event):Option (Int×Int×Int) := match Zjb (0,0,0,x0,(↑x0.length:Int),0) with
 | some y1 => some y1
 | none=>none
def Zfq (x:(List Event)):Option (Int×Int×Int):=Zhe x
def Zk8 (x0:Int) (x1:Int):Option Int := bif decide (x0<x1) then some ((-1:Int)) else bif decide (x0>x1) then some (1) else some (0)
def ZhF (x:Int×Int):Option Int:=Zk8 x.1 x.2
def ZcB (x0:List Mark) (x1:Unit) (x2:Int):Option (((List Mark)×Unit×Int)⊕((Unit)⊕(Bool))) := bif decide (x2>0) then bif decide (0<=x2) then bif decide (x2<(↑x0.length:Int)) then bif decide (0<=Zad .i64 (x2-1)) then bif decide (Zad .i64 (x2-1)<(↑x0.length:Int)) then match ZhF ((x0.getD x2.toNat ZaW).step,(x0.getD (Zad .i64 (x2-1)).toNat ZaW).step) with
 | some y1 => bif decide (y1<0) then some (Sum.inr (Sum.inr false)) else some (Sum.inl (x0,(),Zad .i64 (x2-1)))
 | none=>none else none else none else none else none else some (Sum.inr (Sum.inl ()))
def Zbf (x:(List Mark)×Unit×Int):Option (((List Mark)×Unit×Int)⊕((Unit)⊕(Bool))):=ZcB x.1 x.2.1 x.2.2
def Zbz (x:(List Mark)×Unit×Int):Option ((Unit)⊕(Bool)):=ZaI Zbf x
def ZbJ (x0:List Mark) (x1:Unit):Option Bool := match Zbz (x0,(),Zad .i64 ((↑x0.length:Int)-1)) with
 | some (.inl y1) => some (true)
 | some (.inr y2) => some y2
 | none=>none
def ZcG (x:(List Mark)×Unit):Option Bool:=ZbJ x.1 x.2
def Zi2 (x0:Config) (x1:Int) (x2:Bool) (e:Mark):Option ((Config×Int×Bool)⊕(Empty)) := bif x2 then match Zcg (e.op,x1,x0.lo,x0.hi) with
 | some y1 => some (Sum.inl (x0,y1.fst,x1 == e.prior))
 | none=>none else match Zcg (e.op,x1,x0.lo,x0.hi) with
 | some y1 => some (Sum.inl (x0,y1.fst,false))
 | none=>none
def Zdv (x:Config×Int×Bool) (e:Mark):Option ((Config×Int×Bool)⊕(Empty)):=Zi2 x.1 x.2.1 x.2.2 e
def Zi3 (x:((List Mark×Int)×(Config×Int×Bool))):Option (Config×Int×Bool):=Zj2 itReplay Zdv x
def Zhs (x0:Config) (x1:List Mark) (x2:Int):Option (Int×Bool) := match Zi3 ((x1,x2),x0,x0.init,true) with
 | some y1 => some (y1.snd)
 | none=>none
def Zdl (x:Config×(List Mark)×Int):Option (Int×Bool):=Zhs x.1 x.2.1 x.2.2
def Zeq (x0:List Mark) (e:Mark):Option (((List Mark))⊕(Empty)) := bif fewB (x0.length+(e::[]).length) then some (Sum.inl (x0++e::[])) else none
def ZbO (x:(List Mark)) (e:Mark):Option (((List Mark))⊕(Empty)):=Zeq x e
def Zeo (x:((List Mark×Int)×((List Mark)))):Option (List Mark):=Zj2 itOwn ZbO x
def ZeD (x0:Unit) (x1:List Mark×Int):Option (List Mark) := match Zeo (x1,([]:List Mark)) with
 | some y1 => some y1
 | none=>none
def Zc6 (x:Unit×(List Mark×Int)):Option (List Mark):=ZeD x.1 x.2
def Zdn (x0:List Mark×Int):Option (List Mark) := match Zc6 ((),x0) with
 | some y1 => some y1
 | none=>none
def Zdm (x:(List Mark×Int)):Option (List Mark):=Zdn x
def ZkN (x0:Event):Option Asked :=
 some (Asked.mk x0.op x0.item)
def Ze5 (x:Event):Option Asked:=ZkN x
def Zf0 (x0:Config) (x1:Mark) (x2:Event) (x3:Event):Option Bool := match Zcg (x3.op,x3.prior,x0.lo,x0.hi) with
 | some y1 => match Ze5 x3 with
  | some y2 => match Ze5 x2 with
   | some y3 => bif y2.op.tag == y3.op.tag && (y2.op.v == y3.op.v && true) && (y2.item == y3.item && true) then bif y2.op.tag == x1.op.tag && (y2.op.v == x1.op.v && true) && (y2.item == x1.item && true) then bif x1.prior == x3.prior then bif y1.snd == x3.did then bif decide (x2.step<x1.step) then some (decide (x1.step<=x3.step)) else some (false) else some (false) else some (false) else some (false) else some (false)
   | none=>none
  | none=>none
 | none=>none
def Zgj (x:Config×Mark×Event×Event):Option Bool:=Zf0 x.1 x.2.1 x.2.2.1 x.2.2.2
def ZfQ (x0:Config) (x1:Bool) (x2:List Mark) (x3:Event) (x4:Bool) (e:Event):Option ((Config×Bool×(List Mark)×Event×Bool)⊕((Bool))) := bif x4 == (e.kind == 1) then some (Sum.inr false) else bif !x4 then some (Sum.inl (x0,x1,x2,e,!x4)) else bif (↑x2.length:Int) == 0 then some (Sum.inr false) else bif decide (0<(↑x2.length:Int)) then match Zgj (x0,x2.getD (Int.toNat 0) ZaW,x3,e) with
 | some y1 => bif !y1 then some (Sum.inr false) else bif decide (1<=(↑x2.length:Int)) then bif decide ((↑x2.length:Int)<=(↑x2.length:Int)) then some (Sum.inl (x0,x1,List.drop (Int.toNat 1) (List.take (↑x2.length:Int).toNat x2),x3,!x4)) else none else none
 | none=>none else none
def Zcl (x:Config×Bool×(List Mark)×Event×Bool) (e:Event):Option ((Config×Bool×(List Mark)×Event×Bool)⊕((Bool))):=ZfQ x.1 x.2.1 x.2.2.1 x.2.2.2.1 x.2.2.2.2 e
def Zih (x:((List Event×Int)×(Config×Bool×(List Mark)×Event×Bool))):Option ((Config×Bool×(List Mark)×Event×Bool)⊕((Bool))):=Zoq itEvents Zcl x
def ZgH (x0:Config) (x1:List Mark) (x2:List Event) (x3:Int):Option Bool := match Zdm (x1,x3) with
 | some y1 => match Zih ((x2,x3),x0,false,y1,Event.mk 0 0 0 (Op.mk 0 0) 0 false 0,false) with
  | some (.inl y2) => bif (↑(List.length y2.snd.snd.fst):Int) == 0 then some (true) else bif decide ((↑(List.length y2.snd.snd.fst):Int)>1) then some (false) else bif !y2.snd.snd.snd.snd then some (false) else bif decide (0<(↑(List.length y2.snd.snd.fst):Int)) then bif decide (0<(↑(List.length y2.snd.snd.fst):Int)) then match Ze5 y2.snd.snd.snd.fst with
   | some y3 => bif (List.getD y2.snd.snd.fst (Int.toNat 0) ZaW).op.tag == y3.op.tag && ((List.getD y2.snd.snd.fst (Int.toNat 0) ZaW).op.v == y3.op.v && true) && ((List.getD y2.snd.snd.fst (Int.toNat 0) ZaW).item == y3.item && true) then bif decide (0<(↑(List.length y2.snd.snd.fst):Int)) then some (decide (y2.snd.snd.snd.fst.step<(List.getD y2.snd.snd.fst (Int.toNat 0) ZaW).step)) else none else some (false)
   | none=>none else none else none
  | some (.inr y3) => some y3
  | none=>none
 | none=>none
def Zdb (x:Config×(List Mark)×(List Event)×Int):Option Bool:=ZgH x.1 x.2.1 x.2.2.1 x.2.2.2
def ZfP (x0:Wld) (x1:Int) (x2:Int):Option ((Wld×Int×Int)⊕((Unit)⊕(Bool))) := bif decide (x2<x1) then match Zdb (x0.c,x0.log,x0.hist,x2) with
 | some y1 => bif !y1 then some (Sum.inr (Sum.inr false)) else some (Sum.inl (x0,x1,Zad .i64 (x2+1)))
 | none=>none else some (Sum.inr (Sum.inl ()))
def ZcF (x:Wld×Int×Int):Option ((Wld×Int×Int)⊕((Unit)⊕(Bool))):=ZfP x.1 x.2.1 x.2.2
def ZfR (x:Wld×Int×Int):Option ((Unit)⊕(Bool)):=ZaI ZcF x
def Zf8 (x0:Wld) (x1:Int) (x2:Int):Option ((Wld×Int×Int)⊕((Wld)⊕(Bool))) := bif decide (x2<x1) then match Zdl (x0.c,x0.log,x2) with
 | some y1 => match ZcL (x0.c,x2) with
  | some y2 => match ZbU (x0.m,y2) with
   | some y3 => bif !y1.snd then some (Sum.inr (Sum.inr false)) else bif y3.snd != 0 then some (Sum.inr (Sum.inr false)) else bif y1.fst != y3.fst then some (Sum.inr (Sum.inr false)) else some (Sum.inl (x0,x1,Zad .i64 (x2+1)))
   | none=>none
  | none=>none
 | none=>none else some (Sum.inr (Sum.inl x0))
def ZcU (x:Wld×Int×Int):Option ((Wld×Int×Int)⊕((Wld)⊕(Bool))):=Zf8 x.1 x.2.1 x.2.2
def Zf7 (x:Wld×Int×Int):Option ((Wld)⊕(Bool)):=ZaI ZcU x
def Zfm (x0:Wld):Option Bool := match Zdi x0.c with
 | some y1 => bif y1 != 0 then some (false) else match ZcG (x0.log,()) with
  | some y2 => bif !y2 then some (false) else match Zf7 (x0,x0.c.items,0) with
   | some (.inl y3) => match ZfR (y3,y3.c.threads,0) with
    | some (.inl y4) => some (true)
    | some (.inr y5) => some y5
    | none=>none
   | some (.inr y4) => some y4
   | none=>none
  | none=>none
 | none=>none
def Zhp (x:Wld):Option Bool:=Zfm x
def ZsE:Option Bool := match Zdl (Config.mk 2 1 1 0 0 1 0 0 false 0 0 5,Mark.mk 1 0 (Op.mk 1 3) 5 3::Mark.mk 0 0 (Op.mk 1 4) 8 4::[],0) with
 | some y1 => match ZjS (Event.mk 1 1 0 (Op.mk 1 3) 0 false 0::Event.mk 1 0 0 (Op.mk 1 4) 0 false 0::Event.mk 2 1 0 (Op.mk 1 3) 5 true 3::[],0) with
  | some y2 => match Zfq (Event.mk 1 1 0 (Op.mk 1 3) 0 false 0::Event.mk 1 0 0 (Op.mk 1 4) 0 false 0::Event.mk 2 1 0 (Op.mk 1 3) 5 true 3::[]) with
   | some y3 => match Zdb (Config.mk 2 1 1 0 0 1 0 0 false 0 0 5,Mark.mk 1 0 (Op.mk 1 3) 5 3::Mark.mk 0 0 (Op.mk 1 4) 8 4::[],Event.mk 1 1 0 (Op.mk 1 3) 0 false 0::Event.mk 1 0 0 (Op.mk 1 4) 0 false 0::Event.mk 2 1 0 (Op.mk 1 3) 5 true 3::[],0) with
    | some y4 => bif y4 then match Zdb (Config.mk 2 1 1 0 0 1 0 0 false 0 0 5,Mark.mk 1 0 (Op.mk 1 3) 5 3::Mark.mk 0 0 (Op.mk 1 4) 8 4::[],Event.mk 1 1 0 (Op.mk 1 3) 0 false 0::Event.mk 1 0 0 (Op.mk 1 4) 0 false 0::Event.mk 2 1 0 (Op.mk 1 3) 5 true 3::[],1) with
     | some y5 => match Zdl (Config.mk 2 1 1 0 0 1 0 0 false 0 0 5,(Mark.mk 1 0 (Op.mk 1 3) 5 3::Mark.mk 0 0 (Op.mk 1 4) 8 4::[]).set (Int.toNat 1) { (Mark.mk 1 0 (Op.mk 1 3) 5 3::Mark.mk 0 0 (Op.mk 1 4) 8 4::[]).getD (Int.toNat 1) ZaW with prior:=7 },0) with
      | some y6 => bif y1.fst == 12 then bif y1.snd then bif !y6.snd then bif y2.snd then bif y2.fst.op.v == 4 then bif y3.fst == 2 then bif y3.snd.fst == 1 then bif y3.snd.snd == 0 then bif y5 then match Zdb (Config.mk 2 1 1 0 0 1 0 0 false 0 0 5,List.drop (Int.toNat 0) (List.take (Int.toNat 0) ((Mark.mk 1 0 (Op.mk 1 3) 5 3::Mark.mk 0 0 (Op.mk 1 4) 8 4::[]).set (Int.toNat 1) { (Mark.mk 1 0 (Op.mk 1 3) 5 3::Mark.mk 0 0 (Op.mk 1 4) 8 4::[]).getD (Int.toNat 1) ZaW with prior:=7 })),Event.mk 1 1 0 (Op.mk 1 3) 0 false 0::Event.mk 1 0 0 (Op.mk 1 4) 0 false 0::Event.mk 2 1 0 (Op.mk 1 3) 5 true 3::[],1) with
       | some y7 => some (!y7)
       | none=>none else some (false) else some (false) else some (false) else some (false) else some (false) else some (false) else some (false) else some (false) else some (false)
      | none=>none
     | none=>none else match Zdl (Config.mk 2 1 1 0 0 1 0 0 false 0 0 5,(Mark.mk 1 0 (Op.mk 1 3) 5 3::Mark.mk 0 0 (Op.mk 1 4) 8 4::[]).set (Int.toNat 1) { (Mark.mk 1 0 (Op.mk 1 3) 5 3::Mark.mk 0 0 (Op.mk 1 4) 8 4::[]).getD (Int.toNat 1) ZaW with prior:=7 },0) with
     | some y5 => bif y1.fst == 12 then bif y1.snd then bif !y5.snd then bif y2.snd then bif y2.fst.op.v == 4 then bif y3.fst == 2 then bif y3.snd.fst == 1 then bif y3.snd.snd == 0 then some (false) else some (false) else some (false) else some (false) else some (false) else some (false) else some (false) else some (false) else some (false)
     | none=>none
    | none=>none
   | none=>none
  | none=>none
 | none=>none
def ZsF (x:Unit):Option Bool:=ZsE
def Zht (x0:Config) (x1:List SEntry) (x2:List Int):Option Bool := match ZeN x0 with
 | some y1 => bif !y1 then match ZaK () with
  | some y2 => some y2
  | none=>none else bif decide ((↑x1.length:Int)>300) then match ZaK () with
   | some y2 => some y2
   | none=>none else bif decide ((↑x2.length:Int)>200) then match ZaK () with
    | some y2 => some y2
    | none=>none else bif decide (x0.threads>6) then match ZaK () with
     | some y2 => some y2
     | none=>none else bif decide (x0.depth>3) then match ZaK () with
      | some y2 => some y2
      | none=>none else bif decide (x0.layers>2) then match ZaK () with
       | some y2 => some y2
       | none=>none else bif decide (x0.spin>5) then match ZaK () with
        | some y2 => some y2
        | none=>none else match ZaK () with
        | some y2 => bif !y2 then match ZaK () with
         | some y3 => some y3
         | none=>none else match ZeT x1 with
         | some y3 => match Zlt (x0,y3) with
          | some y4 => bif y4.snd != 0 then some (true) else bif fewB ((0:Nat)+x1.length) then match ZdU x0 with
           | some y5 => match Zdc (x0,y5) with
            | some y6 => bif fewB (x1.length+List.length y6) then match ZgT (x0,x1++y6,x2) with
             | some y7 => bif y7.snd.snd != 0 then some (false) else bif decide ((↑y7.fst.hist.length:Int)>1000) then some (false) else match Zfq y7.fst.hist with
              | some y8 => match ZeV y7.fst with
               | some y9 => bif y9 == 0 then bif y8.fst == y8.snd.fst then bif decide (Zad .i64 (y8.fst+y8.snd.snd)>=0) then match Zhp y7.fst with
                | some y10 => some y10
                | none=>none else some (false) else some (false) else some (false)
               | none=>none
              | none=>none
             | none=>none else none
            | none=>none
           | none=>none else none
          | none=>none
         | none=>none
        | none=>none
 | none=>none
def Zpm (x:Config×(List SEntry)×(List Int)):Option Bool:=Zht x.1 x.2.1 x.2.2
end Go.Proofs.Mill
