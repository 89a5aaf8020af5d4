/- What the functions compute. -/
import Derived.Test.YtaopdopnecognaaGreatMillAll3
import Derived.Test.YtaopdopnecognaaGreatMillFT2b
set_option linter.all false
noncomputable section
namespace Go.Proofs.Mill
def Zd8 (x0:Int) (x1:Turn) (x2:Turn) (x3:Unit) (x4:List Mark) (x5:List Int) (x6:Int) (x7:Int):Option ((Int×Turn×Turn×Unit×(List Mark)×(List Int)×Int×Int)⊕((Int×Turn×Turn×Unit×(List Mark)))) := bif decide (x7<x6) then bif decide (0<=x7) then bif decide (x7<(↑x5.length:Int)) then bif decide (0<=x7) then bif decide (x7<(↑x1.th.batch.length:Int)) then bif fewB (x4.length+(Mark.mk (x1.th.batch.getD x7.toNat Zjs).t x1.th.item (x1.th.batch.getD x7.toNat Zjs).op (x5.getD x7.toNat 0) 0::[]).length) then some (Sum.inl (x0,x1,x2,(),x4++Mark.mk (x1.th.batch.getD x7.toNat Zjs).t x1.th.item (x1.th.batch.getD x7.toNat Zjs).op (x5.getD x7.toNat 0) 0::[],x5,x6,Zac .i64 (x7+1))) else none else none else none else none else none else some (Sum.inr (x0,x1,x2,(),x4))
def Zd5 (x:Int×Turn×Turn×Unit×(List Mark)×(List Int)×Int×Int):Option ((Int×Turn×Turn×Unit×(List Mark)×(List Int)×Int×Int)⊕((Int×Turn×Turn×Unit×(List Mark)))):=Zd8 x.1 x.2.1 x.2.2.1 x.2.2.2.1 x.2.2.2.2.1 x.2.2.2.2.2.1 x.2.2.2.2.2.2.1 x.2.2.2.2.2.2.2
def ZgZ (x:Int×Turn×Turn×Unit×(List Mark)×(List Int)×Int×Int):Option ((Int×Turn×Turn×Unit×(List Mark))):=ZaA Zd5 x
def Zil (x0:Turn) (x1:Int):Option Turn := bif fewB x0.log.length then match ZiC (x0.th.batch,x1,x0.c.lo,x0.c.hi) with
 | some y1 => match ZgZ (x1,x0,Turn.mk (Config.mk 0 0 0 0 0 0 0 0 false 0 0 0) 0 0 (Memo.mk ([]:List Int) ([]:List (List Entry))) (Thread.mk 0 0 (Op.mk 0 0) ([]:List Entry) ([]:List Kid) ([]:List Int) 0 0 0 0 0 0 0 0 0 0) (Tape.mk ([]:List Int) 0) ([]:List Mark) false,(),x0.log,y1,(↑(List.length y1):Int),0) with
  | some y2 => match Zdt { y2.snd.fst with th:={ y2.snd.fst.th with at_:=0,x:=y2.fst },log:=y2.snd.snd.snd.snd } with
   | some y3 => some y3
   | none=>none
  | none=>none
 | none=>none else none
def ZdO (x:Turn×Int):Option Turn:=Zil x.1 x.2
def Zka (x0:Turn):Option Turn := match ZcM (x0.c,x0.th.item) with
 | some y1 => match ZcS (x0.m,y1,x0.th.x,x0.th.y) with
  | some y2 => bif y2.snd.snd != 0 then some (x0) else bif y2.snd.fst then match ZdO ({ x0 with m:=y2.fst },x0.th.x) with
   | some y3 => some y3
   | none=>none else bif decide (x0.th.width<x0.c.width) then some ({ x0 with th:={ x0.th with phase:=2,width:=if x0.c.width<Zac .i64 (x0.th.width*2) then x0.c.width else Zac .i64 (x0.th.width*2) } }) else some ({ x0 with th:={ x0.th with phase:=2,width:=if x0.c.width<x0.th.width then x0.c.width else x0.th.width } })
  | none=>none
 | none=>none
def ZgX (x:Turn):Option Turn:=Zka x
def Zj5 (x0:Turn):Option (Turn×Bool) := bif x0.th.phase == 3 then match ZgX x0 with
 | some y1 => some ((y1,true))
 | none=>none else bif x0.th.phase != 2 then bif x0.th.phase != 25 then some ((x0,false)) else match ZcM (x0.c,x0.th.item) with
   | some y1 => match ZbX (x0.m,y1) with
    | some y2 => match ZeP (x0.th.batch,y2.fst,x0.c.lo,x0.c.hi) with
     | some y3 => bif y2.snd != 0 then some ((x0,true)) else bif y2.fst == y2.fst && (y3 == y2.fst && true) then match ZdO (x0,y2.fst) with
       | some y4 => some ((y4,true))
       | none=>none else bif x0.th.phase == 25 then match Zcm x0 with
        | some y4 => some ((y4,true))
        | none=>none else some (({ x0 with th:={ x0.th with phase:=3,x:=y2.fst,y:=y3 } },true))
     | none=>none
    | none=>none
   | none=>none else match ZcM (x0.c,x0.th.item) with
  | some y1 => match ZbX (x0.m,y1) with
   | some y2 => match ZeP (x0.th.batch,y2.fst,x0.c.lo,x0.c.hi) with
    | some y3 => bif y2.snd != 0 then some ((x0,true)) else bif y2.fst == y2.fst && (y3 == y2.fst && true) then match ZdO (x0,y2.fst) with
      | some y4 => some ((y4,true))
      | none=>none else bif x0.th.phase == 25 then match Zcm x0 with
       | some y4 => some ((y4,true))
       | none=>none else some (({ x0 with th:={ x0.th with phase:=3,x:=y2.fst,y:=y3 } },true))
    | none=>none
   | none=>none
  | none=>none
def ZjG (x:Turn):Option (Turn×Bool):=Zj5 x
def ZkK (x0:Tape) (x1:Int):Option (Int×Tape) := bif decide (x1<1) then some ((0,x0)) else match ZlA x0 with
 | some y1 => bif decide (x1=0) then none else bif decide (Int.tmod y1.fst x1<0) then some ((Zac .i64 (Int.tmod y1.fst x1+x1),y1.snd)) else some ((Int.tmod y1.fst x1,y1.snd))
 | none=>none
def Zk0 (x:Tape×Int):Option (Int×Tape):=ZkK x.1 x.2
def Zej (x0:Turn):Option (Turn×Bool) := match Zjc (x0.th.item,x0.th.layer) with
 | some y1 => bif x0.th.phase == 17 then match Zij (x0.m,x0.t,x0.th.batch) with
  | some y2 => bif y2.snd == 0 then some (({ x0 with m:=y2.fst,th:={ x0.th with phase:=18 } },true)) else some ((x0,true))
  | none=>none else bif x0.th.phase == 18 then match Zb0 ((x0,y1),x0.t) with
   | some y2 => match Zb5 (x0.m,y2,y1) with
    | some y3 => bif y3.snd == 0 then some (({ x0 with m:=y3.fst,th:={ x0.th with phase:=19 } },true)) else some ((x0,true))
    | none=>none
   | none=>none else bif x0.th.phase == 19 then match Zk0 (x0.tape,x0.th.width) with
    | some y2 => match ZkZ (x0.c,x0.th.item,x0.th.layer,y2.fst) with
     | some y3 => match ZlP (x0.m,y3,Zac .i64 (x0.t+1)) with
      | some y4 => bif y4.snd.snd != 0 then some ((x0,true)) else bif decide (y4.snd.fst<1) then some (({ x0 with m:=y4.fst,th:={ x0.th with phase:=23,left:=x0.c.spin },tape:=y2.snd },true)) else bif decide (y4.snd.fst>x0.c.threads) then some (({ x0 with m:=y4.fst,th:={ x0.th with phase:=23,left:=x0.c.spin },tape:=y2.snd },true)) else bif y4.snd.fst == Zac .i64 (x0.t+1) then some (({ x0 with m:=y4.fst,th:={ x0.th with phase:=23,left:=x0.c.spin },tape:=y2.snd },true)) else some (({ x0 with m:=y4.fst,th:={ x0.th with phase:=20,who:=Zac .i64 (y4.snd.fst-1) },tape:=y2.snd },true))
      | none=>none
     | none=>none
    | none=>none else bif x0.th.phase == 20 then match Zb0 ((x0,y1),x0.t) with
     | some y2 => match ZcS (x0.m,y2,y1,0) with
      | some y3 => bif y3.snd.snd != 0 then some ((x0,true)) else bif y3.snd.fst then bif x0.th.phase == 26 then match Zcm { x0 with m:=y3.fst,th:={ x0.th with phase:=21,width:=if x0.th.width.fdiv (2 ^ min (Int.toNat 1) IntKind.i64.bits)>1 then x0.th.width.fdiv (2 ^ min (Int.toNat 1) IntKind.i64.bits) else 1 } } with
          | some y4 => some ((y4,true))
          | none=>none else some (({ x0 with m:=y3.fst,th:={ x0.th with phase:=21 } },true)) else some (({ x0 with m:=y3.fst,th:={ x0.th with phase:=13 } },true))
      | none=>none
     | none=>none else bif x0.th.phase == 21 then match Zb0 ((x0,y1),x0.th.who) with
      | some y2 => match ZcS (x0.m,y2,y1,0) with
       | some y3 => bif y3.snd.snd != 0 then some ((x0,true)) else bif y3.snd.fst then bif x0.th.phase == 26 then match Zcm { x0 with m:=y3.fst,th:={ x0.th with phase:=22,width:=if x0.th.width.fdiv (2 ^ min (Int.toNat 1) IntKind.i64.bits)>1 then x0.th.width.fdiv (2 ^ min (Int.toNat 1) IntKind.i64.bits) else 1 } } with
           | some y4 => some ((y4,true))
           | none=>none else some (({ x0 with m:=y3.fst,th:={ x0.th with phase:=22 } },true)) else some (({ x0 with m:=y3.fst,th:={ x0.th with phase:=24 } },true))
       | none=>none
      | none=>none else bif x0.th.phase == 22 then match Zig (x0.m,x0.th.who) with
       | some y2 => bif y2.snd == 0 then match ZfG (x0,x0.th.who,y2.fst) with
         | some y3 => some (({ y3 with th:={ y3.th with phase:=25 } },true))
         | none=>none else some ((x0,true))
       | none=>none else bif x0.th.phase == 23 then match Zb0 ((x0,y1),x0.t) with
        | some y2 => match ZbX (x0.m,y2) with
         | some y3 => bif y3.snd != 0 then some ((x0,true)) else bif y3.fst != y1 then some (({ x0 with th:={ x0.th with phase:=13 } },true)) else bif decide (x0.th.left>0) then match ZdY x0 with
            | some y4 => bif !y4 then some (({ x0 with th:={ x0.th with left:=Zac .i64 (x0.th.left-1) } },true)) else some (({ x0 with th:={ x0.th with phase:=26 } },true))
            | none=>none else some (({ x0 with th:={ x0.th with phase:=26 } },true))
         | none=>none
        | none=>none else bif x0.th.phase == 24 then match Zb0 ((x0,y1),x0.t) with
         | some y2 => match Zb5 (x0.m,y2,y1) with
          | some y3 => bif y3.snd == 0 then some (({ x0 with m:=y3.fst,th:={ x0.th with phase:=23,left:=x0.c.spin } },true)) else some ((x0,true))
          | none=>none
         | none=>none else bif x0.th.phase == 26 then match Zb0 ((x0,y1),x0.t) with
          | some y2 => match ZcS (x0.m,y2,y1,0) with
           | some y3 => bif y3.snd.snd != 0 then some ((x0,true)) else bif y3.snd.fst then bif x0.th.phase == 26 then match Zcm { x0 with m:=y3.fst,th:={ x0.th with phase:=26,width:=if x0.th.width.fdiv (2 ^ min (Int.toNat 1) IntKind.i64.bits)>1 then x0.th.width.fdiv (2 ^ min (Int.toNat 1) IntKind.i64.bits) else 1 } } with
             | some y4 => some ((y4,true))
             | none=>none else some (({ x0 with m:=y3.fst,th:={ x0.th with phase:=26 } },true)) else some (({ x0 with m:=y3.fst,th:={ x0.th with phase:=13 } },true))
           | none=>none
          | none=>none else some ((x0,false))
 | none=>none
def ZiV (x:Turn):Option (Turn×Bool):=Zej x
def Ziz (x0:Turn):Option Turn := match ZbE x0.th with
 | some y1 => bif !y1 then some (x0) else match ZhY { x0 with log:=([]:List Mark),done:=false } with
  | some y2 => bif !y2.snd then match ZkT { x0 with log:=([]:List Mark),done:=false } with
   | some y3 => bif !y3.snd then match ZjG { x0 with log:=([]:List Mark),done:=false } with
    | some y4 => bif !y4.snd then match ZkX { x0 with log:=([]:List Mark),done:=false } with
     | some y5 => bif !y5.snd then match ZjF { x0 with log:=([]:List Mark),done:=false } with
      | some y6 => bif !y6.snd then match ZiV { x0 with log:=([]:List Mark),done:=false } with
       | some y7 => bif !y7.snd then some ({ x0 with log:=([]:List Mark),done:=false }) else some (y7.fst)
       | none=>none else some (y6.fst)
      | none=>none else some (y5.fst)
     | none=>none else some (y4.fst)
    | none=>none else some (y3.fst)
   | none=>none else some (y2.fst)
  | none=>none
 | none=>none
def Ze2 (x:Turn):Option Turn:=Ziz x
end Go.Proofs.Mill
