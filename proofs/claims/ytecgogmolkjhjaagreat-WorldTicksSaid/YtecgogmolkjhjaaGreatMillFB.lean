/- What the functions compute. -/
import Derived.Test.YtecgogmolkjhjaaGreatMillAll3
import Derived.Test.YtecgogmolkjhjaaGreatMillFT2
set_option linter.all false
noncomputable section
namespace Go.Proofs.Mill
def ZdO (x0:Int) (x1:Turn) (x2:Turn) (x3:Unit) (x4:List Mark) (x5:List Int) (x6:Int) (x7:Int):Option ((Int×Turn×Turn×Unit×(List Mark)×(List Int)×Int×Int)⊕((Int×Turn×Turn×Unit×(List Mark)))) := bif decide (x7<x6) then bif decide ((0:Int)<=x7) then bif decide (x7<(↑x5.length:Int)) then bif decide ((0:Int)<=x7) then bif decide (x7<(↑x1.th.batch.length:Int)) then bif fewB (x4.length+(Mark.mk (x1.th.batch.getD x7.toNat Zcn).t x1.th.item (x1.th.batch.getD x7.toNat Zcn).op (x5.getD x7.toNat (0:Int)) (0:Int)::([]:List Mark)).length) then some (Sum.inl (x0,x1,x2,(),x4++Mark.mk (x1.th.batch.getD x7.toNat Zcn).t x1.th.item (x1.th.batch.getD x7.toNat Zcn).op (x5.getD x7.toNat (0:Int)) (0:Int)::([]:List Mark),x5,x6,Zaf IntKind.i64 (x7+(1:Int)))) else none else none else none else none else none else some (Sum.inr (x0,x1,x2,(),x4))
def ZdR (x:Int×Turn×Turn×Unit×(List Mark)×(List Int)×Int×Int):Option ((Int×Turn×Turn×Unit×(List Mark)×(List Int)×Int×Int)⊕((Int×Turn×Turn×Unit×(List Mark)))):=ZdO x.1 x.2.1 x.2.2.1 x.2.2.2.1 x.2.2.2.2.1 x.2.2.2.2.2.1 x.2.2.2.2.2.2.1 x.2.2.2.2.2.2.2
def Zgx (x:Int×Turn×Turn×Unit×(List Mark)×(List Int)×Int×Int):Option ((Int×Turn×Turn×Unit×(List Mark))):=Zav ZdR x
def Zhz (x0:Turn) (x1:Int):Option (Turn) := bif fewB x0.log.length then match Zi3 (x0.th.batch,x1,x0.c.lo,x0.c.hi) with
 | some y1 => match Zgx (x1,x0,Turn.mk (Config.mk (0:Int) (0:Int) (0:Int) (0:Int) (0:Int) (0:Int) (0:Int) (0:Int) false (0:Int) (0:Int) (0:Int)) (0:Int) (0:Int) (Memo.mk ([]:List Int) ([]:List (List Entry))) (Thread.mk (0:Int) (0:Int) (Op.mk (0:Int) (0:Int)) ([]:List Entry) ([]:List Kid) ([]:List Int) (0:Int) (0:Int) (0:Int) (0:Int) (0:Int) (0:Int) (0:Int) (0:Int) (0:Int) (0:Int)) (Tape.mk ([]:List Int) (0:Int)) ([]:List Mark) false,(),x0.log,y1,(↑(List.length y1):Int),(0:Int)) with
  | some y2 => match Zde { y2.snd.fst with th:={ y2.snd.fst.th with at_:=(0:Int),x:=y2.fst },log:=y2.snd.snd.snd.snd } with
   | some y3 => some (y3)
   | none=>none
  | none=>none
 | none=>none else none
def ZdA (x:Turn×Int):Option (Turn):=Zhz x.1 x.2
def Zkh (x0:Turn):Option (Turn) := match Zdm (x0.c,x0.th.item) with
 | some y1 => match ZcO (x0.m,y1,x0.th.x,x0.th.y) with
  | some y2 => bif y2.snd.snd != (0:Int) then some (x0) else bif y2.snd.fst then match ZdA ({ x0 with m:=y2.fst },x0.th.x) with
   | some y3 => some (y3)
   | none=>none else bif decide (x0.th.width<x0.c.width) then some ({ x0 with th:={ x0.th with phase:=(2:Int),width:=if x0.c.width<Zaf IntKind.i64 (x0.th.width*(2:Int)) then x0.c.width else Zaf IntKind.i64 (x0.th.width*(2:Int)) } }) else some ({ x0 with th:={ x0.th with phase:=(2:Int),width:=if x0.c.width<x0.th.width then x0.c.width else x0.th.width } })
  | none=>none
 | none=>none
def Zgw (x:Turn):Option (Turn):=Zkh x
def ZjZ (x0:Turn):Option (Turn×Bool) := bif x0.th.phase == (3:Int) then match Zgw x0 with
 | some y1 => some ((y1,true))
 | none=>none else bif x0.th.phase != (2:Int) then bif x0.th.phase != (25:Int) then some ((x0,false)) else match Zdm (x0.c,x0.th.item) with
   | some y1 => match Zcj (x0.m,y1) with
    | some y2 => match ZeD (x0.th.batch,y2.fst,x0.c.lo,x0.c.hi) with
     | some y3 => bif y2.snd != (0:Int) then some ((x0,true)) else bif y2.fst == y2.fst && (y3 == y2.fst && true) then match ZdA (x0,y2.fst) with
       | some y4 => some ((y4,true))
       | none=>none else bif x0.th.phase == (25:Int) then match Zcq x0 with
        | some y4 => some ((y4,true))
        | none=>none else some (({ x0 with th:={ x0.th with phase:=(3:Int),x:=y2.fst,y:=y3 } },true))
     | none=>none
    | none=>none
   | none=>none else match Zdm (x0.c,x0.th.item) with
  | some y1 => match Zcj (x0.m,y1) with
   | some y2 => match ZeD (x0.th.batch,y2.fst,x0.c.lo,x0.c.hi) with
    | some y3 => bif y2.snd != (0:Int) then some ((x0,true)) else bif y2.fst == y2.fst && (y3 == y2.fst && true) then match ZdA (x0,y2.fst) with
      | some y4 => some ((y4,true))
      | none=>none else bif x0.th.phase == (25:Int) then match Zcq x0 with
       | some y4 => some ((y4,true))
       | none=>none else some (({ x0 with th:={ x0.th with phase:=(3:Int),x:=y2.fst,y:=y3 } },true))
    | none=>none
   | none=>none
  | none=>none
def Zj0 (x:Turn):Option (Turn×Bool):=ZjZ x
def ZkZ (x0:Tape) (x1:Int):Option (Int×Tape) := bif decide (x1<(1:Int)) then some (((0:Int),x0)) else match Zmk x0 with
 | some y1 => bif decide (x1=(0:Int)) then none else bif decide (Int.tmod y1.fst x1<(0:Int)) then some ((Zaf IntKind.i64 (Int.tmod y1.fst x1+x1),y1.snd)) else some ((Int.tmod y1.fst x1,y1.snd))
 | none=>none
def ZkM (x:Tape×Int):Option (Int×Tape):=ZkZ x.1 x.2
def Zd0 (x0:Turn):Option (Turn×Bool) := match Zjb (x0.th.item,x0.th.layer) with
 | some y1 => bif x0.th.phase == (17:Int) then match ZhV (x0.m,x0.t,x0.th.batch) with
  | some y2 => bif y2.snd == (0:Int) then some (({ x0 with m:=y2.fst,th:={ x0.th with phase:=(18:Int) } },true)) else some ((x0,true))
  | none=>none else bif x0.th.phase == (18:Int) then match Zb9 ((x0,y1),x0.t) with
   | some y2 => match Zcg (x0.m,y2,y1) with
    | some y3 => bif y3.snd == (0:Int) then some (({ x0 with m:=y3.fst,th:={ x0.th with phase:=(19:Int) } },true)) else some ((x0,true))
    | none=>none
   | none=>none else bif x0.th.phase == (19:Int) then match ZkM (x0.tape,x0.th.width) with
    | some y2 => match ZkE (x0.c,x0.th.item,x0.th.layer,y2.fst) with
     | some y3 => match Zme (x0.m,y3,Zaf IntKind.i64 (x0.t+(1:Int))) with
      | some y4 => bif y4.snd.snd != (0:Int) then some ((x0,true)) else bif decide (y4.snd.fst<(1:Int)) then some (({ x0 with m:=y4.fst,th:={ x0.th with phase:=(23:Int),left:=x0.c.spin },tape:=y2.snd },true)) else bif decide (y4.snd.fst>x0.c.threads) then some (({ x0 with m:=y4.fst,th:={ x0.th with phase:=(23:Int),left:=x0.c.spin },tape:=y2.snd },true)) else bif y4.snd.fst == Zaf IntKind.i64 (x0.t+(1:Int)) then some (({ x0 with m:=y4.fst,th:={ x0.th with phase:=(23:Int),left:=x0.c.spin },tape:=y2.snd },true)) else some (({ x0 with m:=y4.fst,th:={ x0.th with phase:=(20:Int),who:=Zaf IntKind.i64 (y4.snd.fst-(1:Int)) },tape:=y2.snd },true))
      | none=>none
     | none=>none
    | none=>none else bif x0.th.phase == (20:Int) then match Zb9 ((x0,y1),x0.t) with
     | some y2 => match ZcO (x0.m,y2,y1,(0:Int)) with
      | some y3 => bif y3.snd.snd != (0:Int) then some ((x0,true)) else bif y3.snd.fst then bif x0.th.phase == (26:Int) then match Zcq { x0 with m:=y3.fst,th:={ x0.th with phase:=(21:Int),width:=if x0.th.width.fdiv ((2:Int) ^ min (Int.toNat (1:Int)) IntKind.i64.bits)>(1:Int) then x0.th.width.fdiv ((2:Int) ^ min (Int.toNat (1:Int)) IntKind.i64.bits) else (1:Int) } } with
          | some y4 => some ((y4,true))
          | none=>none else some (({ x0 with m:=y3.fst,th:={ x0.th with phase:=(21:Int) } },true)) else some (({ x0 with m:=y3.fst,th:={ x0.th with phase:=(13:Int) } },true))
      | none=>none
     | none=>none else bif x0.th.phase == (21:Int) then match Zb9 ((x0,y1),x0.th.who) with
      | some y2 => match ZcO (x0.m,y2,y1,(0:Int)) with
       | some y3 => bif y3.snd.snd != (0:Int) then some ((x0,true)) else bif y3.snd.fst then bif x0.th.phase == (26:Int) then match Zcq { x0 with m:=y3.fst,th:={ x0.th with phase:=(22:Int),width:=if x0.th.width.fdiv ((2:Int) ^ min (Int.toNat (1:Int)) IntKind.i64.bits)>(1:Int) then x0.th.width.fdiv ((2:Int) ^ min (Int.toNat (1:Int)) IntKind.i64.bits) else (1:Int) } } with
           | some y4 => some ((y4,true))
           | none=>none else some (({ x0 with m:=y3.fst,th:={ x0.th with phase:=(22:Int) } },true)) else some (({ x0 with m:=y3.fst,th:={ x0.th with phase:=(24:Int) } },true))
       | none=>none
      | none=>none else bif x0.th.phase == (22:Int) then match Zhx (x0.m,x0.th.who) with
       | some y2 => bif y2.snd == (0:Int) then match Zfq (x0,x0.th.who,y2.fst) with
         | some y3 => some (({ y3 with th:={ y3.th with phase:=(25:Int) } },true))
         | none=>none else some ((x0,true))
       | none=>none else bif x0.th.phase == (23:Int) then match Zb9 ((x0,y1),x0.t) with
        | some y2 => match Zcj (x0.m,y2) with
         | some y3 => bif y3.snd != (0:Int) then some ((x0,true)) else bif y3.fst != y1 then some (({ x0 with th:={ x0.th with phase:=(13:Int) } },true)) else bif decide (x0.th.left>(0:Int)) then match ZdM x0 with
            | some y4 => bif !y4 then some (({ x0 with th:={ x0.th with left:=Zaf IntKind.i64 (x0.th.left-(1:Int)) } },true)) else some (({ x0 with th:={ x0.th with phase:=(26:Int) } },true))
            | none=>none else some (({ x0 with th:={ x0.th with phase:=(26:Int) } },true))
         | none=>none
        | none=>none else bif x0.th.phase == (24:Int) then match Zb9 ((x0,y1),x0.t) with
         | some y2 => match Zcg (x0.m,y2,y1) with
          | some y3 => bif y3.snd == (0:Int) then some (({ x0 with m:=y3.fst,th:={ x0.th with phase:=(23:Int),left:=x0.c.spin } },true)) else some ((x0,true))
          | none=>none
         | none=>none else bif x0.th.phase == (26:Int) then match Zb9 ((x0,y1),x0.t) with
          | some y2 => match ZcO (x0.m,y2,y1,(0:Int)) with
           | some y3 => bif y3.snd.snd != (0:Int) then some ((x0,true)) else bif y3.snd.fst then bif x0.th.phase == (26:Int) then match Zcq { x0 with m:=y3.fst,th:={ x0.th with phase:=(26:Int),width:=if x0.th.width.fdiv ((2:Int) ^ min (Int.toNat (1:Int)) IntKind.i64.bits)>(1:Int) then x0.th.width.fdiv ((2:Int) ^ min (Int.toNat (1:Int)) IntKind.i64.bits) else (1:Int) } } with
             | some y4 => some ((y4,true))
             | none=>none else some (({ x0 with m:=y3.fst,th:={ x0.th with phase:=(26:Int) } },true)) else some (({ x0 with m:=y3.fst,th:={ x0.th with phase:=(13:Int) } },true))
           | none=>none
          | none=>none else some ((x0,false))
 | none=>none
def Zis (x:Turn):Option (Turn×Bool):=Zd0 x
def ZiO (x0:Turn):Option (Turn) := match ZbH x0.th with
 | some y1 => bif !y1 then some (x0) else match ZhG { x0 with log:=([]:List Mark),done:=false } with
  | some y2 => bif !y2.snd then match ZkQ { x0 with log:=([]:List Mark),done:=false } with
   | some y3 => bif !y3.snd then match Zj0 { x0 with log:=([]:List Mark),done:=false } with
    | some y4 => bif !y4.snd then match Zk7 { x0 with log:=([]:List Mark),done:=false } with
     | some y5 => bif !y5.snd then match Zjy { x0 with log:=([]:List Mark),done:=false } with
      | some y6 => bif !y6.snd then match Zis { x0 with log:=([]:List Mark),done:=false } with
       | some y7 => bif !y7.snd then some ({ x0 with log:=([]:List Mark),done:=false }) else some (y7.fst)
       | none=>none else some (y6.fst)
      | none=>none else some (y5.fst)
     | none=>none else some (y4.fst)
    | none=>none else some (y3.fst)
   | none=>none else some (y2.fst)
  | none=>none
 | none=>none
def ZcB (x:Turn):Option (Turn):=ZiO x
def Zp0 (x0:Int) (x1:Turn) (x2:Turn):Option ((Int×Turn×Turn)⊕((Turn×Turn))) := bif decide (x0>(0:Int)) then match ZbH x1.th with
 | some y1 => bif y1 then match ZcB x1 with
  | some y2 => bif y2.done then some (Sum.inr (y2,x2)) else some (Sum.inl (Zaf IntKind.i64 (x0-(1:Int)),y2,x2))
  | none=>none else some (Sum.inr (x1,x2))
 | none=>none else some (Sum.inr (x1,x2))
def Zg3 (x:Int×Turn×Turn):Option ((Int×Turn×Turn)⊕((Turn×Turn))):=Zp0 x.1 x.2.1 x.2.2
def ZpX (x:Int×Turn×Turn):Option ((Turn×Turn)):=Zav Zg3 x
def ZrK (x0:Turn) (x1:Int):Option (Turn) := match ZpX (x1,x0,Turn.mk (Config.mk (0:Int) (0:Int) (0:Int) (0:Int) (0:Int) (0:Int) (0:Int) (0:Int) false (0:Int) (0:Int) (0:Int)) (0:Int) (0:Int) (Memo.mk ([]:List Int) ([]:List (List Entry))) (Thread.mk (0:Int) (0:Int) (Op.mk (0:Int) (0:Int)) ([]:List Entry) ([]:List Kid) ([]:List Int) (0:Int) (0:Int) (0:Int) (0:Int) (0:Int) (0:Int) (0:Int) (0:Int) (0:Int) (0:Int)) (Tape.mk ([]:List Int) (0:Int)) ([]:List Mark) false) with
 | some y1 => some (y1.fst)
 | none=>none
def ZcW (x:Turn×Int):Option (Turn):=ZrK x.1 x.2
def ZtQ:Option (Bool) := match ZdF (Config.mk (2:Int) (1:Int) (2:Int) (2:Int) (0:Int) (1:Int) (0:Int) (0:Int) false (0:Int) (0:Int) (5:Int)) with
 | some y1 => match Zee () with
  | some y2 => match ZcU (Config.mk (2:Int) (1:Int) (2:Int) (2:Int) (0:Int) (1:Int) (0:Int) (0:Int) false (0:Int) (0:Int) (5:Int),(1:Int),y2,(0:Int),Op.mk (1:Int) (3:Int),(0:Int)) with
   | some y3 => match ZcW (Turn.mk (Config.mk (2:Int) (1:Int) (2:Int) (2:Int) (0:Int) (1:Int) (0:Int) (0:Int) false (0:Int) (0:Int) (5:Int)) (1:Int) (0:Int) y1 y3 (Tape.mk ([]:List Int) (0:Int)) ([]:List Mark) false,(100:Int)) with
    | some y4 => match ZcB (Turn.mk (Config.mk (2:Int) (1:Int) (2:Int) (2:Int) (0:Int) (1:Int) (0:Int) (0:Int) false (0:Int) (0:Int) (5:Int)) (1:Int) (0:Int) y1 y3 (Tape.mk ([]:List Int) (0:Int)) ([]:List Mark) false) with
     | some y5 => bif y4.done then bif y4.th.x == (5:Int) then bif (↑y4.m.words.length:Int) == (8:Int) then bif decide ((0:Int)<(↑y4.m.words.length:Int)) then bif y4.m.words.getD (Int.toNat (0:Int)) (0:Int) == (8:Int) then match ZbH y4.th with
      | some y6 => bif !y6 then bif (↑y4.log.length:Int) == (1:Int) then bif y5.th.phase == (4:Int) then match ZfB (Turn.mk (Config.mk (2:Int) (1:Int) (2:Int) (2:Int) (0:Int) (1:Int) (0:Int) (0:Int) false (0:Int) (0:Int) (5:Int)) (1:Int) (0:Int) y1 y3 (Tape.mk ([]:List Int) (0:Int)) ([]:List Mark) false) with
       | some y7 => bif y7.th.phase == (4:Int) then some (!y5.done) else some (false)
       | none=>none else some (false) else some (false) else some (false)
      | none=>none else some (false) else none else some (false) else some (false) else some (false)
     | none=>none
    | none=>none
   | none=>none
  | none=>none
 | none=>none
def Zbm (x:Unit):Option (Bool):=ZtQ
def ZnQ (x0:Turn) (x1:Int):Option (Bool) := match Zmj x0 with
 | some y1 => bif y1 then match Zbm () with
  | some y2 => some (y2)
  | none=>none else match Zmf x0 with
  | some y2 => bif !y2 then match Zbm () with
   | some y3 => some (y3)
   | none=>none else bif decide (x1>(1000:Int)) then match Zbm () with
    | some y3 => some (y3)
    | none=>none else match Zbm () with
    | some y3 => bif !y3 then match Zbm () with
     | some y4 => some (y4)
     | none=>none else match ZcB { x0 with th:={ x0.th with phase:=(0:Int) } } with
     | some y4 => match ZgL y4 with
      | some y5 => match ZgL { x0 with th:={ x0.th with phase:=(0:Int) } } with
       | some y6 => match ZjK (y5,y6) with
        | some y7 => bif y7 then match ZcW ({ x0 with th:={ x0.th with phase:=(0:Int) } },x1) with
         | some y8 => match ZgL y8 with
          | some y9 => match ZgL { x0 with th:={ x0.th with phase:=(0:Int) } } with
           | some y10 => match ZjK (y9,y10) with
            | some y11 => some (y11)
            | none=>none
           | none=>none
          | none=>none
         | none=>none else some (false)
        | none=>none
       | none=>none
      | none=>none
     | none=>none
    | none=>none
  | none=>none
 | none=>none
def ZnS (x:Turn×Int):Option (Bool):=ZnQ x.1 x.2
def ZnU (x0:Config) (x1:Int) (x2:Int) (x3:Op):Option (Bool) := match Zel { x0 with backend:=(1:Int) } with
 | some y1 => bif y1 != (0:Int) then match Zbm () with
  | some y2 => some (y2)
  | none=>none else match Zbm () with
  | some y2 => bif !y2 then match Zbm () with
   | some y3 => some (y3)
   | none=>none else bif decide (x0.threads=(0:Int)) then none else bif decide (x0.items=(0:Int)) then none else match Zc6 (x3,x0.init,x0.lo,x0.hi) with
    | some y3 => bif y3.fst == x0.init then match ZdF { x0 with backend:=(1:Int) } with
     | some y4 => match Zee () with
      | some y5 => match ZcU ({ x0 with backend:=(1:Int) },(IntKind.i64.wrap x1).tmod x0.threads,y5,(IntKind.i64.wrap x2).tmod x0.items,x3,(0:Int)) with
       | some y6 => match ZcW (Turn.mk { x0 with backend:=(1:Int) } ((IntKind.i64.wrap x1).tmod x0.threads) (0:Int) y4 y6 (Tape.mk ([]:List Int) (0:Int)) ([]:List Mark) false,Zaf IntKind.i64 ((2:Int)-(1:Int))) with
        | some y7 => match ZcW (Turn.mk { x0 with backend:=(1:Int) } ((IntKind.i64.wrap x1).tmod x0.threads) (0:Int) y4 y6 (Tape.mk ([]:List Int) (0:Int)) ([]:List Mark) false,(2:Int)) with
         | some y8 => bif !y7.done then bif (↑y7.log.length:Int) == (0:Int) then bif y8.done then bif (↑y8.log.length:Int) == (1:Int) then bif (↑y8.th.held.length:Int) == (0:Int) then bif (↑y8.th.kids.length:Int) == (0:Int) then some (y8.th.layer == (0:Int)) else some (false) else some (false) else some (false) else some (false) else some (false) else some (false)
         | none=>none
        | none=>none
       | none=>none
      | none=>none
     | none=>none else match ZdF { x0 with backend:=(1:Int) } with
     | some y4 => match Zee () with
      | some y5 => match ZcU ({ x0 with backend:=(1:Int) },(IntKind.i64.wrap x1).tmod x0.threads,y5,(IntKind.i64.wrap x2).tmod x0.items,x3,(0:Int)) with
       | some y6 => match ZcW (Turn.mk { x0 with backend:=(1:Int) } ((IntKind.i64.wrap x1).tmod x0.threads) (0:Int) y4 y6 (Tape.mk ([]:List Int) (0:Int)) ([]:List Mark) false,Zaf IntKind.i64 ((3:Int)-(1:Int))) with
        | some y7 => match ZcW (Turn.mk { x0 with backend:=(1:Int) } ((IntKind.i64.wrap x1).tmod x0.threads) (0:Int) y4 y6 (Tape.mk ([]:List Int) (0:Int)) ([]:List Mark) false,(3:Int)) with
         | some y8 => bif !y7.done then bif (↑y7.log.length:Int) == (0:Int) then bif y8.done then bif (↑y8.log.length:Int) == (1:Int) then bif (↑y8.th.held.length:Int) == (0:Int) then bif (↑y8.th.kids.length:Int) == (0:Int) then some (y8.th.layer == (0:Int)) else some (false) else some (false) else some (false) else some (false) else some (false) else some (false)
         | none=>none
        | none=>none
       | none=>none
      | none=>none
     | none=>none
    | none=>none
  | none=>none
 | none=>none
def ZnT (x:Config×Int×Int×Op):Option (Bool):=ZnU x.1 x.2.1 x.2.2.1 x.2.2.2
def ZnW (x0:Turn):Option (Bool) := match Zmj x0 with
 | some y1 => bif y1 then match Zbm () with
  | some y2 => some (y2)
  | none=>none else match ZlW x0 with
  | some y2 => bif !y2 then match Zbm () with
   | some y3 => some (y3)
   | none=>none else bif (↑x0.th.batch.length:Int) == (0:Int) then match Zbm () with
    | some y3 => some (y3)
    | none=>none else match Zbm () with
    | some y3 => bif !y3 then match Zbm () with
     | some y4 => some (y4)
     | none=>none else match ZcB x0 with
     | some y4 => bif x0.th.phase == (0:Int) then some ((↑y4.log.length:Int) == (↑x0.log.length:Int)) else bif x0.th.phase == (2:Int) then bif y4.th.phase == (15:Int) then bif decide ((↑y4.log.length:Int)>(0:Int)) == true then bif (↑y4.log.length:Int) == (0:Int) then bif !y4.done then some (true) else some (y4.th.phase == (0:Int)) else bif (↑y4.log.length:Int) == (↑x0.th.batch.length:Int) then bif !y4.done then some (true) else some (y4.th.phase == (0:Int)) else some (false) else some (false) else bif decide ((↑y4.log.length:Int)>(0:Int)) == (y4.th.phase == (0:Int)) then bif (↑y4.log.length:Int) == (0:Int) then bif !y4.done then some (true) else some (y4.th.phase == (0:Int)) else bif (↑y4.log.length:Int) == (↑x0.th.batch.length:Int) then bif !y4.done then some (true) else some (y4.th.phase == (0:Int)) else some (false) else some (false) else bif x0.th.phase == (3:Int) then bif y4.th.phase == (15:Int) then bif decide ((↑y4.log.length:Int)>(0:Int)) == true then bif (↑y4.log.length:Int) == (0:Int) then bif !y4.done then some (true) else some (y4.th.phase == (0:Int)) else bif (↑y4.log.length:Int) == (↑x0.th.batch.length:Int) then bif !y4.done then some (true) else some (y4.th.phase == (0:Int)) else some (false) else some (false) else bif decide ((↑y4.log.length:Int)>(0:Int)) == (y4.th.phase == (0:Int)) then bif (↑y4.log.length:Int) == (0:Int) then bif !y4.done then some (true) else some (y4.th.phase == (0:Int)) else bif (↑y4.log.length:Int) == (↑x0.th.batch.length:Int) then bif !y4.done then some (true) else some (y4.th.phase == (0:Int)) else some (false) else some (false) else bif y4.th.phase == (15:Int) then bif x0.th.phase == (25:Int) then bif decide ((↑y4.log.length:Int)>(0:Int)) == true then bif (↑y4.log.length:Int) == (0:Int) then bif !y4.done then some (true) else some (y4.th.phase == (0:Int)) else bif (↑y4.log.length:Int) == (↑x0.th.batch.length:Int) then bif !y4.done then some (true) else some (y4.th.phase == (0:Int)) else some (false) else some (false) else bif decide ((↑y4.log.length:Int)>(0:Int)) == false then bif (↑y4.log.length:Int) == (0:Int) then bif !y4.done then some (true) else some (y4.th.phase == (0:Int)) else bif (↑y4.log.length:Int) == (↑x0.th.batch.length:Int) then bif !y4.done then some (true) else some (y4.th.phase == (0:Int)) else some (false) else some (false) else bif x0.th.phase == (25:Int) then bif decide ((↑y4.log.length:Int)>(0:Int)) == (y4.th.phase == (0:Int)) then bif (↑y4.log.length:Int) == (0:Int) then bif !y4.done then some (true) else some (y4.th.phase == (0:Int)) else bif (↑y4.log.length:Int) == (↑x0.th.batch.length:Int) then bif !y4.done then some (true) else some (y4.th.phase == (0:Int)) else some (false) else some (false) else bif decide ((↑y4.log.length:Int)>(0:Int)) == false then bif (↑y4.log.length:Int) == (0:Int) then bif !y4.done then some (true) else some (y4.th.phase == (0:Int)) else bif (↑y4.log.length:Int) == (↑x0.th.batch.length:Int) then bif !y4.done then some (true) else some (y4.th.phase == (0:Int)) else some (false) else some (false)
     | none=>none
    | none=>none
  | none=>none
 | none=>none
def ZnV (x:Turn):Option (Bool):=ZnW x
def Zlx (x0:Config) (x1:Config) (x2:Int) (x3:Int) (x4:Turn) (x5:Int) (x6:Int) (x7:Int):Option ((Config×Config×Int×Int×Turn×Int×Int×Int)⊕((Config×Config×Int×Int×Turn×Int×Int)⊕(Bool))) := match Zfg x1 with
 | some y1 => bif decide (x7<=y1) then match ZfW (x1,x6,x7) with
  | some y2 => bif decide ((0:Int)<=y2) then bif decide (y2<(↑x4.m.words.length:Int)) then bif x4.m.words.getD (Int.toNat y2) (0:Int) != (0:Int) then some (Sum.inr (Sum.inr false)) else some (Sum.inl (x0,x1,x2,x3,x4,x5,x6,Zaf IntKind.i64 (x7+(1:Int)))) else none else none
  | none=>none else some (Sum.inr (Sum.inl (x0,x1,x2,x3,x4,x5,x6)))
 | none=>none
def Zlz (x:Config×Config×Int×Int×Turn×Int×Int×Int):Option ((Config×Config×Int×Int×Turn×Int×Int×Int)⊕((Config×Config×Int×Int×Turn×Int×Int)⊕(Bool))):=Zlx x.1 x.2.1 x.2.2.1 x.2.2.2.1 x.2.2.2.2.1 x.2.2.2.2.2.1 x.2.2.2.2.2.2.1 x.2.2.2.2.2.2.2
def Zgr (x:Config×Config×Int×Int×Turn×Int×Int×Int):Option ((Config×Config×Int×Int×Turn×Int×Int)⊕(Bool)):=Zav Zlz x
def ZlA (x0:Config) (x1:Config) (x2:Int) (x3:Int) (x4:Turn) (x5:Int) (x6:Int):Option ((Config×Config×Int×Int×Turn×Int×Int)⊕((Config×Int×Turn)⊕(Bool))) := bif decide (x6<x0.items) then bif x6 == x3 then match ZeK (x1,x6) with
 | some y1 => bif decide ((0:Int)<=y1) then bif decide (y1<(↑x4.m.words.length:Int)) then bif x4.m.words.getD (Int.toNat y1) (0:Int) != x5 then some (Sum.inr (Sum.inr false)) else match Zgr (x0,x1,x2,x3,x4,x5,x6,(1:Int)) with
  | some (.inl y2) => some (Sum.inl (y2.fst,y2.snd.fst,y2.snd.snd.fst,y2.snd.snd.snd.fst,y2.snd.snd.snd.snd.fst,y2.snd.snd.snd.snd.snd.fst,Zaf IntKind.i64 (y2.snd.snd.snd.snd.snd.snd+(1:Int))))
  | some (.inr y3) => some (Sum.inr (Sum.inr y3))
  | none=>none else none else none
 | none=>none else match ZeK (x1,x6) with
 | some y1 => bif decide ((0:Int)<=y1) then bif decide (y1<(↑x4.m.words.length:Int)) then bif x4.m.words.getD (Int.toNat y1) (0:Int) != x0.init then some (Sum.inr (Sum.inr false)) else match Zgr (x0,x1,x2,x3,x4,x5,x6,(1:Int)) with
  | some (.inl y2) => some (Sum.inl (y2.fst,y2.snd.fst,y2.snd.snd.fst,y2.snd.snd.snd.fst,y2.snd.snd.snd.snd.fst,y2.snd.snd.snd.snd.snd.fst,Zaf IntKind.i64 (y2.snd.snd.snd.snd.snd.snd+(1:Int))))
  | some (.inr y3) => some (Sum.inr (Sum.inr y3))
  | none=>none else none else none
 | none=>none else some (Sum.inr (Sum.inl (x1,x2,x4)))
def ZlB (x:Config×Config×Int×Int×Turn×Int×Int):Option ((Config×Config×Int×Int×Turn×Int×Int)⊕((Config×Int×Turn)⊕(Bool))):=ZlA x.1 x.2.1 x.2.2.1 x.2.2.2.1 x.2.2.2.2.1 x.2.2.2.2.2.1 x.2.2.2.2.2.2
def Zly (x:Config×Config×Int×Int×Turn×Int×Int):Option ((Config×Int×Turn)⊕(Bool)):=Zav ZlB x
def ZmT (x0:Config) (x1:Int) (x2:Int) (x3:Op) (x4:Int):Option (Bool) := match Zel x0 with
 | some y1 => bif y1 != (0:Int) then match Zbm () with
  | some y2 => some (y2)
  | none=>none else match Zl4 (x3,x0.bounded) with
  | some y2 => bif !y2 then match Zbm () with
   | some y3 => some (y3)
   | none=>none else match Zbm () with
   | some y3 => bif !y3 then match Zbm () with
    | some y4 => some (y4)
    | none=>none else bif decide (x0.threads=(0:Int)) then none else bif decide (x0.items=(0:Int)) then none else match ZdF x0 with
     | some y4 => match Zee () with
      | some y5 => match ZcU (x0,(IntKind.i64.wrap x1).tmod x0.threads,y5,(IntKind.i64.wrap x2).tmod x0.items,x3,IntKind.i64.wrap x4) with
       | some y6 => match Zmp x0 with
        | some y7 => match ZcW (Turn.mk x0 ((IntKind.i64.wrap x1).tmod x0.threads) (IntKind.i64.wrap x4) y4 y6 (Tape.mk ([]:List Int) (0:Int)) ([]:List Mark) false,y7) with
         | some y8 => match Zc6 (x3,x0.init,x0.lo,x0.hi) with
          | some y9 => bif !y8.done then some (false) else match ZbH y8.th with
           | some y10 => bif y10 then some (false) else bif y8.th.x != x0.init then some (false) else match ZfQ x0 with
            | some y11 => bif (↑y8.m.words.length:Int) != y11 then some (false) else bif (↑y8.log.length:Int) != (1:Int) then some (false) else bif decide ((0:Int)<(↑y8.log.length:Int)) then bif !((y8.log.getD (Int.toNat (0:Int)) Za1).t == (IntKind.i64.wrap x1).tmod x0.threads && ((y8.log.getD (Int.toNat (0:Int)) Za1).item == (IntKind.i64.wrap x2).tmod x0.items && ((y8.log.getD (Int.toNat (0:Int)) Za1).op.tag == x3.tag && ((y8.log.getD (Int.toNat (0:Int)) Za1).op.v == x3.v && true) && ((y8.log.getD (Int.toNat (0:Int)) Za1).prior == x0.init && ((y8.log.getD (Int.toNat (0:Int)) Za1).step == (0:Int) && true))))) then some (false) else match Zly (x0,x0,(IntKind.i64.wrap x1).tmod x0.threads,(IntKind.i64.wrap x2).tmod x0.items,y8,y9.fst,(0:Int)) with
             | some (.inl y12) => match Zdn (y12.fst,y12.snd.fst) with
              | some y13 => bif decide ((0:Int)<=y13) then bif decide (y13<(↑y12.snd.snd.m.words.length:Int)) then some (y12.snd.snd.m.words.getD (Int.toNat y13) (0:Int) == (0:Int)) else none else none
              | none=>none
             | some (.inr y13) => some (y13)
             | none=>none else none
            | none=>none
           | none=>none
          | none=>none
         | none=>none
        | none=>none
       | none=>none
      | none=>none
     | none=>none
   | none=>none
  | none=>none
 | none=>none
def Zm1 (x:Config×Int×Int×Op×Int):Option (Bool):=ZmT x.1 x.2.1 x.2.2.1 x.2.2.2.1 x.2.2.2.2
end Go.Proofs.Mill
