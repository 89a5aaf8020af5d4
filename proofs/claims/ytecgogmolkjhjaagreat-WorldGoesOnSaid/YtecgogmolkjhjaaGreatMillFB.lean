/- What the functions compute. -/
import Derived.Test.YtecgogmolkjhjaaGreatMillAll3
import Derived.Test.YtecgogmolkjhjaaGreatMillFT2
set_option linter.all false
noncomputable section
namespace Go.Proofs.Mill
def ZdO (x0:Int) (x1:Turn) (x2:Turn) (x3:Unit) (x4:List Mark) (x5:List Int) (x6:Int) (x7:Int):Option ((Int×Turn×Turn×Unit×(List Mark)×(List Int)×Int×Int)⊕((Int×Turn×Turn×Unit×(List Mark)))) := bif decide (x7<x6) then bif decide ((0:Int)<=x7) then bif decide (x7<(↑x5.length:Int)) then bif decide ((0:Int)<=x7) then bif decide (x7<(↑x1.th.batch.length:Int)) then bif fewB (x4.length+(Mark.mk (x1.th.batch.getD x7.toNat Zch).t x1.th.item (x1.th.batch.getD x7.toNat Zch).op (x5.getD x7.toNat (0:Int)) (0:Int)::([]:List Mark)).length) then some (Sum.inl (x0,x1,x2,(),x4++Mark.mk (x1.th.batch.getD x7.toNat Zch).t x1.th.item (x1.th.batch.getD x7.toNat Zch).op (x5.getD x7.toNat (0:Int)) (0:Int)::([]:List Mark),x5,x6,Zaf IntKind.i64 (x7+(1:Int)))) else none else none else none else none else none else some (Sum.inr (x0,x1,x2,(),x4))
def ZdP (x:Int×Turn×Turn×Unit×(List Mark)×(List Int)×Int×Int):Option ((Int×Turn×Turn×Unit×(List Mark)×(List Int)×Int×Int)⊕((Int×Turn×Turn×Unit×(List Mark)))):=ZdO x.1 x.2.1 x.2.2.1 x.2.2.2.1 x.2.2.2.2.1 x.2.2.2.2.2.1 x.2.2.2.2.2.2.1 x.2.2.2.2.2.2.2
def Zgz (x:Int×Turn×Turn×Unit×(List Mark)×(List Int)×Int×Int):Option ((Int×Turn×Turn×Unit×(List Mark))):=Zav ZdP x
def Zhs (x0:Turn) (x1:Int):Option (Turn) := bif fewB x0.log.length then match Ziu (x0.th.batch,x1,x0.c.lo,x0.c.hi) with
 | some y1 => match Zgz (x1,x0,Turn.mk (Config.mk (0:Int) (0:Int) (0:Int) (0:Int) (0:Int) (0:Int) (0:Int) (0:Int) false (0:Int) (0:Int) (0:Int)) (0:Int) (0:Int) (Memo.mk ([]:List Int) ([]:List (List Entry))) (Thread.mk (0:Int) (0:Int) (Op.mk (0:Int) (0:Int)) ([]:List Entry) ([]:List Kid) ([]:List Int) (0:Int) (0:Int) (0:Int) (0:Int) (0:Int) (0:Int) (0:Int) (0:Int) (0:Int) (0:Int)) (Tape.mk ([]:List Int) (0:Int)) ([]:List Mark) false,(),x0.log,y1,(↑(List.length y1):Int),(0:Int)) with
  | some y2 => match Zdg { y2.snd.fst with th:={ y2.snd.fst.th with at_:=(0:Int),x:=y2.fst },log:=y2.snd.snd.snd.snd } with
   | some y3 => some (y3)
   | none=>none
  | none=>none
 | none=>none else none
def ZdC (x:Turn×Int):Option (Turn):=Zhs x.1 x.2
def Zke (x0:Turn):Option (Turn) := match Zdu (x0.c,x0.th.item) with
 | some y1 => match ZcQ (x0.m,y1,x0.th.x,x0.th.y) with
  | some y2 => bif y2.snd.snd != (0:Int) then some (x0) else bif y2.snd.fst then match ZdC ({ x0 with m:=y2.fst },x0.th.x) with
   | some y3 => some (y3)
   | none=>none else bif decide (x0.th.width<x0.c.width) then some ({ x0 with th:={ x0.th with phase:=(2:Int),width:=if x0.c.width<Zaf IntKind.i64 (x0.th.width*(2:Int)) then x0.c.width else Zaf IntKind.i64 (x0.th.width*(2:Int)) } }) else some ({ x0 with th:={ x0.th with phase:=(2:Int),width:=if x0.c.width<x0.th.width then x0.c.width else x0.th.width } })
  | none=>none
 | none=>none
def Zgy (x:Turn):Option (Turn):=Zke x
def Zj3 (x0:Turn):Option (Turn×Bool) := bif x0.th.phase == (3:Int) then match Zgy x0 with
 | some y1 => some ((y1,true))
 | none=>none else bif x0.th.phase != (2:Int) then bif x0.th.phase != (25:Int) then some ((x0,false)) else match Zdu (x0.c,x0.th.item) with
   | some y1 => match Zce (x0.m,y1) with
    | some y2 => match ZeF (x0.th.batch,y2.fst,x0.c.lo,x0.c.hi) with
     | some y3 => bif y2.snd != (0:Int) then some ((x0,true)) else bif y2.fst == y2.fst && (y3 == y2.fst && true) then match ZdC (x0,y2.fst) with
       | some y4 => some ((y4,true))
       | none=>none else bif x0.th.phase == (25:Int) then match Zcp x0 with
        | some y4 => some ((y4,true))
        | none=>none else some (({ x0 with th:={ x0.th with phase:=(3:Int),x:=y2.fst,y:=y3 } },true))
     | none=>none
    | none=>none
   | none=>none else match Zdu (x0.c,x0.th.item) with
  | some y1 => match Zce (x0.m,y1) with
   | some y2 => match ZeF (x0.th.batch,y2.fst,x0.c.lo,x0.c.hi) with
    | some y3 => bif y2.snd != (0:Int) then some ((x0,true)) else bif y2.fst == y2.fst && (y3 == y2.fst && true) then match ZdC (x0,y2.fst) with
      | some y4 => some ((y4,true))
      | none=>none else bif x0.th.phase == (25:Int) then match Zcp x0 with
       | some y4 => some ((y4,true))
       | none=>none else some (({ x0 with th:={ x0.th with phase:=(3:Int),x:=y2.fst,y:=y3 } },true))
    | none=>none
   | none=>none
  | none=>none
def ZjD (x:Turn):Option (Turn×Bool):=Zj3 x
def Zlw (x0:Tape) (x1:Int):Option (Int×Tape) := bif decide (x1<(1:Int)) then some (((0:Int),x0)) else match Zl6 x0 with
 | some y1 => bif decide (x1=(0:Int)) then none else bif decide (Int.tmod y1.fst x1<(0:Int)) then some ((Zaf IntKind.i64 (Int.tmod y1.fst x1+x1),y1.snd)) else some ((Int.tmod y1.fst x1,y1.snd))
 | none=>none
def ZkQ (x:Tape×Int):Option (Int×Tape):=Zlw x.1 x.2
def Zd1 (x0:Turn):Option (Turn×Bool) := match Zjl (x0.th.item,x0.th.layer) with
 | some y1 => bif x0.th.phase == (17:Int) then match Zhy (x0.m,x0.t,x0.th.batch) with
  | some y2 => bif y2.snd == (0:Int) then some (({ x0 with m:=y2.fst,th:={ x0.th with phase:=(18:Int) } },true)) else some ((x0,true))
  | none=>none else bif x0.th.phase == (18:Int) then match Zb3 ((x0,y1),x0.t) with
   | some y2 => match Zcd (x0.m,y2,y1) with
    | some y3 => bif y3.snd == (0:Int) then some (({ x0 with m:=y3.fst,th:={ x0.th with phase:=(19:Int) } },true)) else some ((x0,true))
    | none=>none
   | none=>none else bif x0.th.phase == (19:Int) then match ZkQ (x0.tape,x0.th.width) with
    | some y2 => match ZkT (x0.c,x0.th.item,x0.th.layer,y2.fst) with
     | some y3 => match Zl2 (x0.m,y3,Zaf IntKind.i64 (x0.t+(1:Int))) with
      | some y4 => bif y4.snd.snd != (0:Int) then some ((x0,true)) else bif decide (y4.snd.fst<(1:Int)) then some (({ x0 with m:=y4.fst,th:={ x0.th with phase:=(23:Int),left:=x0.c.spin },tape:=y2.snd },true)) else bif decide (y4.snd.fst>x0.c.threads) then some (({ x0 with m:=y4.fst,th:={ x0.th with phase:=(23:Int),left:=x0.c.spin },tape:=y2.snd },true)) else bif y4.snd.fst == Zaf IntKind.i64 (x0.t+(1:Int)) then some (({ x0 with m:=y4.fst,th:={ x0.th with phase:=(23:Int),left:=x0.c.spin },tape:=y2.snd },true)) else some (({ x0 with m:=y4.fst,th:={ x0.th with phase:=(20:Int),who:=Zaf IntKind.i64 (y4.snd.fst-(1:Int)) },tape:=y2.snd },true))
      | none=>none
     | none=>none
    | none=>none else bif x0.th.phase == (20:Int) then match Zb3 ((x0,y1),x0.t) with
     | some y2 => match ZcQ (x0.m,y2,y1,(0:Int)) with
      | some y3 => bif y3.snd.snd != (0:Int) then some ((x0,true)) else bif y3.snd.fst then bif x0.th.phase == (26:Int) then match Zcp { x0 with m:=y3.fst,th:={ x0.th with phase:=(21:Int),width:=if x0.th.width.fdiv ((2:Int) ^ min (Int.toNat (1:Int)) IntKind.i64.bits)>(1:Int) then x0.th.width.fdiv ((2:Int) ^ min (Int.toNat (1:Int)) IntKind.i64.bits) else (1:Int) } } with
          | some y4 => some ((y4,true))
          | none=>none else some (({ x0 with m:=y3.fst,th:={ x0.th with phase:=(21:Int) } },true)) else some (({ x0 with m:=y3.fst,th:={ x0.th with phase:=(13:Int) } },true))
      | none=>none
     | none=>none else bif x0.th.phase == (21:Int) then match Zb3 ((x0,y1),x0.th.who) with
      | some y2 => match ZcQ (x0.m,y2,y1,(0:Int)) with
       | some y3 => bif y3.snd.snd != (0:Int) then some ((x0,true)) else bif y3.snd.fst then bif x0.th.phase == (26:Int) then match Zcp { x0 with m:=y3.fst,th:={ x0.th with phase:=(22:Int),width:=if x0.th.width.fdiv ((2:Int) ^ min (Int.toNat (1:Int)) IntKind.i64.bits)>(1:Int) then x0.th.width.fdiv ((2:Int) ^ min (Int.toNat (1:Int)) IntKind.i64.bits) else (1:Int) } } with
           | some y4 => some ((y4,true))
           | none=>none else some (({ x0 with m:=y3.fst,th:={ x0.th with phase:=(22:Int) } },true)) else some (({ x0 with m:=y3.fst,th:={ x0.th with phase:=(24:Int) } },true))
       | none=>none
      | none=>none else bif x0.th.phase == (22:Int) then match Zid (x0.m,x0.th.who) with
       | some y2 => bif y2.snd == (0:Int) then match Zfj (x0,x0.th.who,y2.fst) with
         | some y3 => some (({ y3 with th:={ y3.th with phase:=(25:Int) } },true))
         | none=>none else some ((x0,true))
       | none=>none else bif x0.th.phase == (23:Int) then match Zb3 ((x0,y1),x0.t) with
        | some y2 => match Zce (x0.m,y2) with
         | some y3 => bif y3.snd != (0:Int) then some ((x0,true)) else bif y3.fst != y1 then some (({ x0 with th:={ x0.th with phase:=(13:Int) } },true)) else bif decide (x0.th.left>(0:Int)) then match ZdH x0 with
            | some y4 => bif !y4 then some (({ x0 with th:={ x0.th with left:=Zaf IntKind.i64 (x0.th.left-(1:Int)) } },true)) else some (({ x0 with th:={ x0.th with phase:=(26:Int) } },true))
            | none=>none else some (({ x0 with th:={ x0.th with phase:=(26:Int) } },true))
         | none=>none
        | none=>none else bif x0.th.phase == (24:Int) then match Zb3 ((x0,y1),x0.t) with
         | some y2 => match Zcd (x0.m,y2,y1) with
          | some y3 => bif y3.snd == (0:Int) then some (({ x0 with m:=y3.fst,th:={ x0.th with phase:=(23:Int),left:=x0.c.spin } },true)) else some ((x0,true))
          | none=>none
         | none=>none else bif x0.th.phase == (26:Int) then match Zb3 ((x0,y1),x0.t) with
          | some y2 => match ZcQ (x0.m,y2,y1,(0:Int)) with
           | some y3 => bif y3.snd.snd != (0:Int) then some ((x0,true)) else bif y3.snd.fst then bif x0.th.phase == (26:Int) then match Zcp { x0 with m:=y3.fst,th:={ x0.th with phase:=(26:Int),width:=if x0.th.width.fdiv ((2:Int) ^ min (Int.toNat (1:Int)) IntKind.i64.bits)>(1:Int) then x0.th.width.fdiv ((2:Int) ^ min (Int.toNat (1:Int)) IntKind.i64.bits) else (1:Int) } } with
             | some y4 => some ((y4,true))
             | none=>none else some (({ x0 with m:=y3.fst,th:={ x0.th with phase:=(26:Int) } },true)) else some (({ x0 with m:=y3.fst,th:={ x0.th with phase:=(13:Int) } },true))
           | none=>none
          | none=>none else some ((x0,false))
 | none=>none
def Zi4 (x:Turn):Option (Turn×Bool):=Zd1 x
def ZiM (x0:Turn):Option (Turn) := match Zby x0.th with
 | some y1 => bif !y1 then some (x0) else match Zio { x0 with log:=([]:List Mark),done:=false } with
  | some y2 => bif !y2.snd then match ZkI { x0 with log:=([]:List Mark),done:=false } with
   | some y3 => bif !y3.snd then match ZjD { x0 with log:=([]:List Mark),done:=false } with
    | some y4 => bif !y4.snd then match Zk6 { x0 with log:=([]:List Mark),done:=false } with
     | some y5 => bif !y5.snd then match ZjG { x0 with log:=([]:List Mark),done:=false } with
      | some y6 => bif !y6.snd then match Zi4 { x0 with log:=([]:List Mark),done:=false } with
       | some y7 => bif !y7.snd then some ({ x0 with log:=([]:List Mark),done:=false }) else some (y7.fst)
       | none=>none else some (y6.fst)
      | none=>none else some (y5.fst)
     | none=>none else some (y4.fst)
    | none=>none else some (y3.fst)
   | none=>none else some (y2.fst)
  | none=>none
 | none=>none
def ZcB (x:Turn):Option (Turn):=ZiM x
def Zp6 (x0:Int) (x1:Turn) (x2:Turn):Option ((Int×Turn×Turn)⊕((Turn×Turn))) := bif decide (x0>(0:Int)) then match Zby x1.th with
 | some y1 => bif y1 then match ZcB x1 with
  | some y2 => bif y2.done then some (Sum.inr (y2,x2)) else some (Sum.inl (Zaf IntKind.i64 (x0-(1:Int)),y2,x2))
  | none=>none else some (Sum.inr (x1,x2))
 | none=>none else some (Sum.inr (x1,x2))
def Zhl (x:Int×Turn×Turn):Option ((Int×Turn×Turn)⊕((Turn×Turn))):=Zp6 x.1 x.2.1 x.2.2
def ZpR (x:Int×Turn×Turn):Option ((Turn×Turn)):=Zav Zhl x
def ZrW (x0:Turn) (x1:Int):Option (Turn) := match ZpR (x1,x0,Turn.mk (Config.mk (0:Int) (0:Int) (0:Int) (0:Int) (0:Int) (0:Int) (0:Int) (0:Int) false (0:Int) (0:Int) (0:Int)) (0:Int) (0:Int) (Memo.mk ([]:List Int) ([]:List (List Entry))) (Thread.mk (0:Int) (0:Int) (Op.mk (0:Int) (0:Int)) ([]:List Entry) ([]:List Kid) ([]:List Int) (0:Int) (0:Int) (0:Int) (0:Int) (0:Int) (0:Int) (0:Int) (0:Int) (0:Int) (0:Int)) (Tape.mk ([]:List Int) (0:Int)) ([]:List Mark) false) with
 | some y1 => some (y1.fst)
 | none=>none
def ZcW (x:Turn×Int):Option (Turn):=ZrW x.1 x.2
def ZtF:Option (Bool) := match ZdG (Config.mk (2:Int) (1:Int) (2:Int) (2:Int) (0:Int) (1:Int) (0:Int) (0:Int) false (0:Int) (0:Int) (5:Int)) with
 | some y1 => match Zea () with
  | some y2 => match Zcz (Config.mk (2:Int) (1:Int) (2:Int) (2:Int) (0:Int) (1:Int) (0:Int) (0:Int) false (0:Int) (0:Int) (5:Int),(1:Int),y2,(0:Int),Op.mk (1:Int) (3:Int),(0:Int)) with
   | some y3 => match ZcW (Turn.mk (Config.mk (2:Int) (1:Int) (2:Int) (2:Int) (0:Int) (1:Int) (0:Int) (0:Int) false (0:Int) (0:Int) (5:Int)) (1:Int) (0:Int) y1 y3 (Tape.mk ([]:List Int) (0:Int)) ([]:List Mark) false,(100:Int)) with
    | some y4 => match ZcB (Turn.mk (Config.mk (2:Int) (1:Int) (2:Int) (2:Int) (0:Int) (1:Int) (0:Int) (0:Int) false (0:Int) (0:Int) (5:Int)) (1:Int) (0:Int) y1 y3 (Tape.mk ([]:List Int) (0:Int)) ([]:List Mark) false) with
     | some y5 => bif y4.done then bif y4.th.x == (5:Int) then bif (↑y4.m.words.length:Int) == (8:Int) then bif decide ((0:Int)<(↑y4.m.words.length:Int)) then bif y4.m.words.getD (Int.toNat (0:Int)) (0:Int) == (8:Int) then match Zby y4.th with
      | some y6 => bif !y6 then bif (↑y4.log.length:Int) == (1:Int) then bif y5.th.phase == (4:Int) then match ZfL (Turn.mk (Config.mk (2:Int) (1:Int) (2:Int) (2:Int) (0:Int) (1:Int) (0:Int) (0:Int) false (0:Int) (0:Int) (5:Int)) (1:Int) (0:Int) y1 y3 (Tape.mk ([]:List Int) (0:Int)) ([]:List Mark) false) with
       | some y7 => bif y7.th.phase == (4:Int) then some (!y5.done) else some (false)
       | none=>none else some (false) else some (false) else some (false)
      | none=>none else some (false) else none else some (false) else some (false) else some (false)
     | none=>none
    | none=>none
   | none=>none
  | none=>none
 | none=>none
def Zbn (x:Unit):Option (Bool):=ZtF
def ZnQ (x0:Turn) (x1:Int):Option (Bool) := match Zma x0 with
 | some y1 => bif y1 then match Zbn () with
  | some y2 => some (y2)
  | none=>none else match Zmf x0 with
  | some y2 => bif !y2 then match Zbn () with
   | some y3 => some (y3)
   | none=>none else bif decide (x1>(1000:Int)) then match Zbn () with
    | some y3 => some (y3)
    | none=>none else match Zbn () with
    | some y3 => bif !y3 then match Zbn () with
     | some y4 => some (y4)
     | none=>none else match ZcB { x0 with th:={ x0.th with phase:=(0:Int) } } with
     | some y4 => match ZgB y4 with
      | some y5 => match ZgB { x0 with th:={ x0.th with phase:=(0:Int) } } with
       | some y6 => match Zj9 (y5,y6) with
        | some y7 => bif y7 then match ZcW ({ x0 with th:={ x0.th with phase:=(0:Int) } },x1) with
         | some y8 => match ZgB y8 with
          | some y9 => match ZgB { x0 with th:={ x0.th with phase:=(0:Int) } } with
           | some y10 => match Zj9 (y9,y10) with
            | some y11 => some (y11)
            | none=>none
           | none=>none
          | none=>none
         | none=>none else some (false)
        | none=>none
       | none=>none
      | none=>none
     | none=>none
    | none=>none
  | none=>none
 | none=>none
def ZnU (x:Turn×Int):Option (Bool):=ZnQ x.1 x.2
def ZnT (x0:Config) (x1:Int) (x2:Int) (x3:Op):Option (Bool) := match Zem { x0 with backend:=(1:Int) } with
 | some y1 => bif y1 != (0:Int) then match Zbn () with
  | some y2 => some (y2)
  | none=>none else match Zbn () with
  | some y2 => bif !y2 then match Zbn () with
   | some y3 => some (y3)
   | none=>none else bif decide (x0.threads=(0:Int)) then none else bif decide (x0.items=(0:Int)) then none else match Zc7 (x3,x0.init,x0.lo,x0.hi) with
    | some y3 => bif y3.fst == x0.init then match ZdG { x0 with backend:=(1:Int) } with
     | some y4 => match Zea () with
      | some y5 => match Zcz ({ x0 with backend:=(1:Int) },(IntKind.i64.wrap x1).tmod x0.threads,y5,(IntKind.i64.wrap x2).tmod x0.items,x3,(0:Int)) with
       | some y6 => match ZcW (Turn.mk { x0 with backend:=(1:Int) } ((IntKind.i64.wrap x1).tmod x0.threads) (0:Int) y4 y6 (Tape.mk ([]:List Int) (0:Int)) ([]:List Mark) false,Zaf IntKind.i64 ((2:Int)-(1:Int))) with
        | some y7 => match ZcW (Turn.mk { x0 with backend:=(1:Int) } ((IntKind.i64.wrap x1).tmod x0.threads) (0:Int) y4 y6 (Tape.mk ([]:List Int) (0:Int)) ([]:List Mark) false,(2:Int)) with
         | some y8 => bif !y7.done then bif (↑y7.log.length:Int) == (0:Int) then bif y8.done then bif (↑y8.log.length:Int) == (1:Int) then bif (↑y8.th.held.length:Int) == (0:Int) then bif (↑y8.th.kids.length:Int) == (0:Int) then some (y8.th.layer == (0:Int)) else some (false) else some (false) else some (false) else some (false) else some (false) else some (false)
         | none=>none
        | none=>none
       | none=>none
      | none=>none
     | none=>none else match ZdG { x0 with backend:=(1:Int) } with
     | some y4 => match Zea () with
      | some y5 => match Zcz ({ x0 with backend:=(1:Int) },(IntKind.i64.wrap x1).tmod x0.threads,y5,(IntKind.i64.wrap x2).tmod x0.items,x3,(0:Int)) with
       | some y6 => match ZcW (Turn.mk { x0 with backend:=(1:Int) } ((IntKind.i64.wrap x1).tmod x0.threads) (0:Int) y4 y6 (Tape.mk ([]:List Int) (0:Int)) ([]:List Mark) false,Zaf IntKind.i64 ((3:Int)-(1:Int))) with
        | some y7 => match ZcW (Turn.mk { x0 with backend:=(1:Int) } ((IntKind.i64.wrap x1).tmod x0.threads) (0:Int) y4 y6 (Tape.mk ([]:List Int) (0:Int)) ([]:List Mark) false,(3:Int)) with
         | some y8 => bif !y7.done then bif (↑y7.log.length:Int) == (0:Int) then bif y8.done then bif (↑y8.log.length:Int) == (1:Int) then bif (↑y8.th.held.length:Int) == (0:Int) then bif (↑y8.th.kids.length:Int) == (0:Int) then some (y8.th.layer == (0:Int)) else some (false) else some (false) else some (false) else some (false) else some (false) else some (false)
         | none=>none
        | none=>none
       | none=>none
      | none=>none
     | none=>none
    | none=>none
  | none=>none
 | none=>none
def ZnW (x:Config×Int×Int×Op):Option (Bool):=ZnT x.1 x.2.1 x.2.2.1 x.2.2.2
def ZnX (x0:Turn):Option (Bool) := match Zma x0 with
 | some y1 => bif y1 then match Zbn () with
  | some y2 => some (y2)
  | none=>none else match ZlW x0 with
  | some y2 => bif !y2 then match Zbn () with
   | some y3 => some (y3)
   | none=>none else bif (↑x0.th.batch.length:Int) == (0:Int) then match Zbn () with
    | some y3 => some (y3)
    | none=>none else match Zbn () with
    | some y3 => bif !y3 then match Zbn () with
     | some y4 => some (y4)
     | none=>none else match ZcB x0 with
     | some y4 => bif x0.th.phase == (0:Int) then some ((↑y4.log.length:Int) == (↑x0.log.length:Int)) else bif x0.th.phase == (2:Int) then bif y4.th.phase == (15:Int) then bif decide ((↑y4.log.length:Int)>(0:Int)) == true then bif (↑y4.log.length:Int) == (0:Int) then bif !y4.done then some (true) else some (y4.th.phase == (0:Int)) else bif (↑y4.log.length:Int) == (↑x0.th.batch.length:Int) then bif !y4.done then some (true) else some (y4.th.phase == (0:Int)) else some (false) else some (false) else bif decide ((↑y4.log.length:Int)>(0:Int)) == (y4.th.phase == (0:Int)) then bif (↑y4.log.length:Int) == (0:Int) then bif !y4.done then some (true) else some (y4.th.phase == (0:Int)) else bif (↑y4.log.length:Int) == (↑x0.th.batch.length:Int) then bif !y4.done then some (true) else some (y4.th.phase == (0:Int)) else some (false) else some (false) else bif x0.th.phase == (3:Int) then bif y4.th.phase == (15:Int) then bif decide ((↑y4.log.length:Int)>(0:Int)) == true then bif (↑y4.log.length:Int) == (0:Int) then bif !y4.done then some (true) else some (y4.th.phase == (0:Int)) else bif (↑y4.log.length:Int) == (↑x0.th.batch.length:Int) then bif !y4.done then some (true) else some (y4.th.phase == (0:Int)) else some (false) else some (false) else bif decide ((↑y4.log.length:Int)>(0:Int)) == (y4.th.phase == (0:Int)) then bif (↑y4.log.length:Int) == (0:Int) then bif !y4.done then some (true) else some (y4.th.phase == (0:Int)) else bif (↑y4.log.length:Int) == (↑x0.th.batch.length:Int) then bif !y4.done then some (true) else some (y4.th.phase == (0:Int)) else some (false) else some (false) else bif y4.th.phase == (15:Int) then bif x0.th.phase == (25:Int) then bif decide ((↑y4.log.length:Int)>(0:Int)) == true then bif (↑y4.log.length:Int) == (0:Int) then bif !y4.done then some (true) else some (y4.th.phase == (0:Int)) else bif (↑y4.log.length:Int) == (↑x0.th.batch.length:Int) then bif !y4.done then some (true) else some (y4.th.phase == (0:Int)) else some (false) else some (false) else bif decide ((↑y4.log.length:Int)>(0:Int)) == false then bif (↑y4.log.length:Int) == (0:Int) then bif !y4.done then some (true) else some (y4.th.phase == (0:Int)) else bif (↑y4.log.length:Int) == (↑x0.th.batch.length:Int) then bif !y4.done then some (true) else some (y4.th.phase == (0:Int)) else some (false) else some (false) else bif x0.th.phase == (25:Int) then bif decide ((↑y4.log.length:Int)>(0:Int)) == (y4.th.phase == (0:Int)) then bif (↑y4.log.length:Int) == (0:Int) then bif !y4.done then some (true) else some (y4.th.phase == (0:Int)) else bif (↑y4.log.length:Int) == (↑x0.th.batch.length:Int) then bif !y4.done then some (true) else some (y4.th.phase == (0:Int)) else some (false) else some (false) else bif decide ((↑y4.log.length:Int)>(0:Int)) == false then bif (↑y4.log.length:Int) == (0:Int) then bif !y4.done then some (true) else some (y4.th.phase == (0:Int)) else bif (↑y4.log.length:Int) == (↑x0.th.batch.length:Int) then bif !y4.done then some (true) else some (y4.th.phase == (0:Int)) else some (false) else some (false)
     | none=>none
    | none=>none
  | none=>none
 | none=>none
def ZnR (x:Turn):Option (Bool):=ZnX x
def Zlz (x0:Config) (x1:Config) (x2:Int) (x3:Int) (x4:Turn) (x5:Int) (x6:Int) (x7:Int):Option ((Config×Config×Int×Int×Turn×Int×Int×Int)⊕((Config×Config×Int×Int×Turn×Int×Int)⊕(Bool))) := match Zfk x1 with
 | some y1 => bif decide (x7<=y1) then match Zf7 (x1,x6,x7) with
  | some y2 => bif decide ((0:Int)<=y2) then bif decide (y2<(↑x4.m.words.length:Int)) then bif x4.m.words.getD (Int.toNat y2) (0:Int) != (0:Int) then some (Sum.inr (Sum.inr false)) else some (Sum.inl (x0,x1,x2,x3,x4,x5,x6,Zaf IntKind.i64 (x7+(1:Int)))) else none else none
  | none=>none else some (Sum.inr (Sum.inl (x0,x1,x2,x3,x4,x5,x6)))
 | none=>none
def Zlx (x:Config×Config×Int×Int×Turn×Int×Int×Int):Option ((Config×Config×Int×Int×Turn×Int×Int×Int)⊕((Config×Config×Int×Int×Turn×Int×Int)⊕(Bool))):=Zlz x.1 x.2.1 x.2.2.1 x.2.2.2.1 x.2.2.2.2.1 x.2.2.2.2.2.1 x.2.2.2.2.2.2.1 x.2.2.2.2.2.2.2
def Zgt (x:Config×Config×Int×Int×Turn×Int×Int×Int):Option ((Config×Config×Int×Int×Turn×Int×Int)⊕(Bool)):=Zav Zlx x
def Zly (x0:Config) (x1:Config) (x2:Int) (x3:Int) (x4:Turn) (x5:Int) (x6:Int):Option ((Config×Config×Int×Int×Turn×Int×Int)⊕((Config×Int×Turn)⊕(Bool))) := bif decide (x6<x0.items) then bif x6 == x3 then match Ze8 (x1,x6) with
 | some y1 => bif decide ((0:Int)<=y1) then bif decide (y1<(↑x4.m.words.length:Int)) then bif x4.m.words.getD (Int.toNat y1) (0:Int) != x5 then some (Sum.inr (Sum.inr false)) else match Zgt (x0,x1,x2,x3,x4,x5,x6,(1:Int)) with
  | some (.inl y2) => some (Sum.inl (y2.fst,y2.snd.fst,y2.snd.snd.fst,y2.snd.snd.snd.fst,y2.snd.snd.snd.snd.fst,y2.snd.snd.snd.snd.snd.fst,Zaf IntKind.i64 (y2.snd.snd.snd.snd.snd.snd+(1:Int))))
  | some (.inr y3) => some (Sum.inr (Sum.inr y3))
  | none=>none else none else none
 | none=>none else match Ze8 (x1,x6) with
 | some y1 => bif decide ((0:Int)<=y1) then bif decide (y1<(↑x4.m.words.length:Int)) then bif x4.m.words.getD (Int.toNat y1) (0:Int) != x0.init then some (Sum.inr (Sum.inr false)) else match Zgt (x0,x1,x2,x3,x4,x5,x6,(1:Int)) with
  | some (.inl y2) => some (Sum.inl (y2.fst,y2.snd.fst,y2.snd.snd.fst,y2.snd.snd.snd.fst,y2.snd.snd.snd.snd.fst,y2.snd.snd.snd.snd.snd.fst,Zaf IntKind.i64 (y2.snd.snd.snd.snd.snd.snd+(1:Int))))
  | some (.inr y3) => some (Sum.inr (Sum.inr y3))
  | none=>none else none else none
 | none=>none else some (Sum.inr (Sum.inl (x1,x2,x4)))
def ZlB (x:Config×Config×Int×Int×Turn×Int×Int):Option ((Config×Config×Int×Int×Turn×Int×Int)⊕((Config×Int×Turn)⊕(Bool))):=Zly x.1 x.2.1 x.2.2.1 x.2.2.2.1 x.2.2.2.2.1 x.2.2.2.2.2.1 x.2.2.2.2.2.2
def ZlA (x:Config×Config×Int×Int×Turn×Int×Int):Option ((Config×Int×Turn)⊕(Bool)):=Zav ZlB x
def Zno (x0:Config) (x1:Int) (x2:Int) (x3:Op) (x4:Int):Option (Bool) := match Zem x0 with
 | some y1 => bif y1 != (0:Int) then match Zbn () with
  | some y2 => some (y2)
  | none=>none else match Zmc (x3,x0.bounded) with
  | some y2 => bif !y2 then match Zbn () with
   | some y3 => some (y3)
   | none=>none else match Zbn () with
   | some y3 => bif !y3 then match Zbn () with
    | some y4 => some (y4)
    | none=>none else bif decide (x0.threads=(0:Int)) then none else bif decide (x0.items=(0:Int)) then none else match ZdG x0 with
     | some y4 => match Zea () with
      | some y5 => match Zcz (x0,(IntKind.i64.wrap x1).tmod x0.threads,y5,(IntKind.i64.wrap x2).tmod x0.items,x3,IntKind.i64.wrap x4) with
       | some y6 => match ZmN x0 with
        | some y7 => match ZcW (Turn.mk x0 ((IntKind.i64.wrap x1).tmod x0.threads) (IntKind.i64.wrap x4) y4 y6 (Tape.mk ([]:List Int) (0:Int)) ([]:List Mark) false,y7) with
         | some y8 => match Zc7 (x3,x0.init,x0.lo,x0.hi) with
          | some y9 => bif !y8.done then some (false) else match Zby y8.th with
           | some y10 => bif y10 then some (false) else bif y8.th.x != x0.init then some (false) else match ZfV x0 with
            | some y11 => bif (↑y8.m.words.length:Int) != y11 then some (false) else bif (↑y8.log.length:Int) != (1:Int) then some (false) else bif decide ((0:Int)<(↑y8.log.length:Int)) then bif !((y8.log.getD (Int.toNat (0:Int)) ZaU).t == (IntKind.i64.wrap x1).tmod x0.threads && ((y8.log.getD (Int.toNat (0:Int)) ZaU).item == (IntKind.i64.wrap x2).tmod x0.items && ((y8.log.getD (Int.toNat (0:Int)) ZaU).op.tag == x3.tag && ((y8.log.getD (Int.toNat (0:Int)) ZaU).op.v == x3.v && true) && ((y8.log.getD (Int.toNat (0:Int)) ZaU).prior == x0.init && ((y8.log.getD (Int.toNat (0:Int)) ZaU).step == (0:Int) && true))))) then some (false) else match ZlA (x0,x0,(IntKind.i64.wrap x1).tmod x0.threads,(IntKind.i64.wrap x2).tmod x0.items,y8,y9.fst,(0:Int)) with
             | some (.inl y12) => match Zdy (y12.fst,y12.snd.fst) with
              | some y13 => bif decide ((0:Int)<=y13) then bif decide (y13<(↑y12.snd.snd.m.words.length:Int)) then some (y12.snd.snd.m.words.getD (Int.toNat y13) (0:Int) == (0:Int)) else none else none
              | none=>none
             | some (.inr y13) => some (y13)
             | none=>none else none
            | none=>none
           | none=>none
          | none=>none
         | none=>none
        | none=>none
       | none=>none
      | none=>none
     | none=>none
   | none=>none
  | none=>none
 | none=>none
def Zm6 (x:Config×Int×Int×Op×Int):Option (Bool):=Zno x.1 x.2.1 x.2.2.1 x.2.2.2.1 x.2.2.2.2
end Go.Proofs.Mill
