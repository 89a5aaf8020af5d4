/- What the functions compute. -/
import Derived.Test.YtecgogmolkjhjaaGreatMillAll3
import Derived.Test.YtecgogmolkjhjaaGreatMillFT2
set_option linter.all false
noncomputable section
namespace Go.Proofs.Mill
def ZdI (x0:Int) (x1:Turn) (x2:Turn) (x3:Unit) (x4:List Mark) (x5:List Int) (x6:Int) (x7:Int):Option ((Int×Turn×Turn×Unit×(List Mark)×(List Int)×Int×Int)⊕((Int×Turn×Turn×Unit×(List Mark)))) := bif decide (x7<x6) then bif decide ((0:Int)<=x7) then bif decide (x7<(↑x5.length:Int)) then bif decide ((0:Int)<=x7) then bif decide (x7<(↑x1.th.batch.length:Int)) then bif fewB (x4.length+(Mark.mk (x1.th.batch.getD x7.toNat Zce).t x1.th.item (x1.th.batch.getD x7.toNat Zce).op (x5.getD x7.toNat (0:Int)) (0:Int)::([]:List Mark)).length) then some (Sum.inl (x0,x1,x2,(),x4++Mark.mk (x1.th.batch.getD x7.toNat Zce).t x1.th.item (x1.th.batch.getD x7.toNat Zce).op (x5.getD x7.toNat (0:Int)) (0:Int)::([]:List Mark),x5,x6,Zaf IntKind.i64 (x7+(1:Int)))) else none else none else none else none else none else some (Sum.inr (x0,x1,x2,(),x4))
def ZdK (x:Int×Turn×Turn×Unit×(List Mark)×(List Int)×Int×Int):Option ((Int×Turn×Turn×Unit×(List Mark)×(List Int)×Int×Int)⊕((Int×Turn×Turn×Unit×(List Mark)))):=ZdI x.1 x.2.1 x.2.2.1 x.2.2.2.1 x.2.2.2.2.1 x.2.2.2.2.2.1 x.2.2.2.2.2.2.1 x.2.2.2.2.2.2.2
def Zf5 (x:Int×Turn×Turn×Unit×(List Mark)×(List Int)×Int×Int):Option ((Int×Turn×Turn×Unit×(List Mark))):=Zav ZdK x
def ZhO (x0:Turn) (x1:Int):Option (Turn) := bif fewB x0.log.length then match Zim (x0.th.batch,x1,x0.c.lo,x0.c.hi) with
 | some y1 => match Zf5 (x1,x0,Turn.mk (Config.mk (0:Int) (0:Int) (0:Int) (0:Int) (0:Int) (0:Int) (0:Int) (0:Int) false (0:Int) (0:Int) (0:Int)) (0:Int) (0:Int) (Memo.mk ([]:List Int) ([]:List (List Entry))) (Thread.mk (0:Int) (0:Int) (Op.mk (0:Int) (0:Int)) ([]:List Entry) ([]:List Kid) ([]:List Int) (0:Int) (0:Int) (0:Int) (0:Int) (0:Int) (0:Int) (0:Int) (0:Int) (0:Int) (0:Int)) (Tape.mk ([]:List Int) (0:Int)) ([]:List Mark) false,(),x0.log,y1,(↑(List.length y1):Int),(0:Int)) with
  | some y2 => match Zdc { y2.snd.fst with th:={ y2.snd.fst.th with at_:=(0:Int),x:=y2.fst },log:=y2.snd.snd.snd.snd } with
   | some y3 => some (y3)
   | none=>none
  | none=>none
 | none=>none else none
def Zdv (x:Turn×Int):Option (Turn):=ZhO x.1 x.2
def ZjG (x0:Turn):Option (Turn) := match Zdf (x0.c,x0.th.item) with
 | some y1 => match ZcK (x0.m,y1,x0.th.x,x0.th.y) with
  | some y2 => bif y2.snd.snd != (0:Int) then some (x0) else bif y2.snd.fst then match Zdv ({ x0 with m:=y2.fst },x0.th.x) with
   | some y3 => some (y3)
   | none=>none else bif decide (x0.th.width<x0.c.width) then some ({ x0 with th:={ x0.th with phase:=(2:Int),width:=if x0.c.width<Zaf IntKind.i64 (x0.th.width*(2:Int)) then x0.c.width else Zaf IntKind.i64 (x0.th.width*(2:Int)) } }) else some ({ x0 with th:={ x0.th with phase:=(2:Int),width:=if x0.c.width<x0.th.width then x0.c.width else x0.th.width } })
  | none=>none
 | none=>none
def Zf2 (x:Turn):Option (Turn):=ZjG x
def Zi7 (x0:Turn):Option (Turn×Bool) := bif x0.th.phase == (3:Int) then match Zf2 x0 with
 | some y1 => some ((y1,true))
 | none=>none else bif x0.th.phase != (2:Int) then bif x0.th.phase != (25:Int) then some ((x0,false)) else match Zdf (x0.c,x0.th.item) with
   | some y1 => match Zca (x0.m,y1) with
    | some y2 => match Zeq (x0.th.batch,y2.fst,x0.c.lo,x0.c.hi) with
     | some y3 => bif y2.snd != (0:Int) then some ((x0,true)) else bif y2.fst == y2.fst && (y3 == y2.fst && true) then match Zdv (x0,y2.fst) with
       | some y4 => some ((y4,true))
       | none=>none else bif x0.th.phase == (25:Int) then match Zcl x0 with
        | some y4 => some ((y4,true))
        | none=>none else some (({ x0 with th:={ x0.th with phase:=(3:Int),x:=y2.fst,y:=y3 } },true))
     | none=>none
    | none=>none
   | none=>none else match Zdf (x0.c,x0.th.item) with
  | some y1 => match Zca (x0.m,y1) with
   | some y2 => match Zeq (x0.th.batch,y2.fst,x0.c.lo,x0.c.hi) with
    | some y3 => bif y2.snd != (0:Int) then some ((x0,true)) else bif y2.fst == y2.fst && (y3 == y2.fst && true) then match Zdv (x0,y2.fst) with
      | some y4 => some ((y4,true))
      | none=>none else bif x0.th.phase == (25:Int) then match Zcl x0 with
       | some y4 => some ((y4,true))
       | none=>none else some (({ x0 with th:={ x0.th with phase:=(3:Int),x:=y2.fst,y:=y3 } },true))
    | none=>none
   | none=>none
  | none=>none
def Zi4 (x:Turn):Option (Turn×Bool):=Zi7 x
def Zj5 (x0:Tape) (x1:Int):Option (Int×Tape) := bif decide (x1<(1:Int)) then some (((0:Int),x0)) else match Zlr x0 with
 | some y1 => bif decide (x1=(0:Int)) then none else bif decide (Int.tmod y1.fst x1<(0:Int)) then some ((Zaf IntKind.i64 (Int.tmod y1.fst x1+x1),y1.snd)) else some ((Int.tmod y1.fst x1,y1.snd))
 | none=>none
def Zkm (x:Tape×Int):Option (Int×Tape):=Zj5 x.1 x.2
def ZdU (x0:Turn):Option (Turn×Bool) := match ZiJ (x0.th.item,x0.th.layer) with
 | some y1 => bif x0.th.phase == (17:Int) then match Zht (x0.m,x0.t,x0.th.batch) with
  | some y2 => bif y2.snd == (0:Int) then some (({ x0 with m:=y2.fst,th:={ x0.th with phase:=(18:Int) } },true)) else some ((x0,true))
  | none=>none else bif x0.th.phase == (18:Int) then match ZbZ ((x0,y1),x0.t) with
   | some y2 => match Zb4 (x0.m,y2,y1) with
    | some y3 => bif y3.snd == (0:Int) then some (({ x0 with m:=y3.fst,th:={ x0.th with phase:=(19:Int) } },true)) else some ((x0,true))
    | none=>none
   | none=>none else bif x0.th.phase == (19:Int) then match Zkm (x0.tape,x0.th.width) with
    | some y2 => match ZkJ (x0.c,x0.th.item,x0.th.layer,y2.fst) with
     | some y3 => match Zlq (x0.m,y3,Zaf IntKind.i64 (x0.t+(1:Int))) with
      | some y4 => bif y4.snd.snd != (0:Int) then some ((x0,true)) else bif decide (y4.snd.fst<(1:Int)) then some (({ x0 with m:=y4.fst,th:={ x0.th with phase:=(23:Int),left:=x0.c.spin },tape:=y2.snd },true)) else bif decide (y4.snd.fst>x0.c.threads) then some (({ x0 with m:=y4.fst,th:={ x0.th with phase:=(23:Int),left:=x0.c.spin },tape:=y2.snd },true)) else bif y4.snd.fst == Zaf IntKind.i64 (x0.t+(1:Int)) then some (({ x0 with m:=y4.fst,th:={ x0.th with phase:=(23:Int),left:=x0.c.spin },tape:=y2.snd },true)) else some (({ x0 with m:=y4.fst,th:={ x0.th with phase:=(20:Int),who:=Zaf IntKind.i64 (y4.snd.fst-(1:Int)) },tape:=y2.snd },true))
      | none=>none
     | none=>none
    | none=>none else bif x0.th.phase == (20:Int) then match ZbZ ((x0,y1),x0.t) with
     | some y2 => match ZcK (x0.m,y2,y1,(0:Int)) with
      | some y3 => bif y3.snd.snd != (0:Int) then some ((x0,true)) else bif y3.snd.fst then bif x0.th.phase == (26:Int) then match Zcl { x0 with m:=y3.fst,th:={ x0.th with phase:=(21:Int),width:=if x0.th.width.fdiv ((2:Int) ^ min (Int.toNat (1:Int)) IntKind.i64.bits)>(1:Int) then x0.th.width.fdiv ((2:Int) ^ min (Int.toNat (1:Int)) IntKind.i64.bits) else (1:Int) } } with
          | some y4 => some ((y4,true))
          | none=>none else some (({ x0 with m:=y3.fst,th:={ x0.th with phase:=(21:Int) } },true)) else some (({ x0 with m:=y3.fst,th:={ x0.th with phase:=(13:Int) } },true))
      | none=>none
     | none=>none else bif x0.th.phase == (21:Int) then match ZbZ ((x0,y1),x0.th.who) with
      | some y2 => match ZcK (x0.m,y2,y1,(0:Int)) with
       | some y3 => bif y3.snd.snd != (0:Int) then some ((x0,true)) else bif y3.snd.fst then bif x0.th.phase == (26:Int) then match Zcl { x0 with m:=y3.fst,th:={ x0.th with phase:=(22:Int),width:=if x0.th.width.fdiv ((2:Int) ^ min (Int.toNat (1:Int)) IntKind.i64.bits)>(1:Int) then x0.th.width.fdiv ((2:Int) ^ min (Int.toNat (1:Int)) IntKind.i64.bits) else (1:Int) } } with
           | some y4 => some ((y4,true))
           | none=>none else some (({ x0 with m:=y3.fst,th:={ x0.th with phase:=(22:Int) } },true)) else some (({ x0 with m:=y3.fst,th:={ x0.th with phase:=(24:Int) } },true))
       | none=>none
      | none=>none else bif x0.th.phase == (22:Int) then match ZhR (x0.m,x0.th.who) with
       | some y2 => bif y2.snd == (0:Int) then match Ze0 (x0,x0.th.who,y2.fst) with
         | some y3 => some (({ y3 with th:={ y3.th with phase:=(25:Int) } },true))
         | none=>none else some ((x0,true))
       | none=>none else bif x0.th.phase == (23:Int) then match ZbZ ((x0,y1),x0.t) with
        | some y2 => match Zca (x0.m,y2) with
         | some y3 => bif y3.snd != (0:Int) then some ((x0,true)) else bif y3.fst != y1 then some (({ x0 with th:={ x0.th with phase:=(13:Int) } },true)) else bif decide (x0.th.left>(0:Int)) then match Zdy x0 with
            | some y4 => bif !y4 then some (({ x0 with th:={ x0.th with left:=Zaf IntKind.i64 (x0.th.left-(1:Int)) } },true)) else some (({ x0 with th:={ x0.th with phase:=(26:Int) } },true))
            | none=>none else some (({ x0 with th:={ x0.th with phase:=(26:Int) } },true))
         | none=>none
        | none=>none else bif x0.th.phase == (24:Int) then match ZbZ ((x0,y1),x0.t) with
         | some y2 => match Zb4 (x0.m,y2,y1) with
          | some y3 => bif y3.snd == (0:Int) then some (({ x0 with m:=y3.fst,th:={ x0.th with phase:=(23:Int),left:=x0.c.spin } },true)) else some ((x0,true))
          | none=>none
         | none=>none else bif x0.th.phase == (26:Int) then match ZbZ ((x0,y1),x0.t) with
          | some y2 => match ZcK (x0.m,y2,y1,(0:Int)) with
           | some y3 => bif y3.snd.snd != (0:Int) then some ((x0,true)) else bif y3.snd.fst then bif x0.th.phase == (26:Int) then match Zcl { x0 with m:=y3.fst,th:={ x0.th with phase:=(26:Int),width:=if x0.th.width.fdiv ((2:Int) ^ min (Int.toNat (1:Int)) IntKind.i64.bits)>(1:Int) then x0.th.width.fdiv ((2:Int) ^ min (Int.toNat (1:Int)) IntKind.i64.bits) else (1:Int) } } with
             | some y4 => some ((y4,true))
             | none=>none else some (({ x0 with m:=y3.fst,th:={ x0.th with phase:=(26:Int) } },true)) else some (({ x0 with m:=y3.fst,th:={ x0.th with phase:=(13:Int) } },true))
           | none=>none
          | none=>none else some ((x0,false))
 | none=>none
def Zh9 (x:Turn):Option (Turn×Bool):=ZdU x
def ZhW (x0:Turn):Option (Turn) := match ZbE x0.th with
 | some y1 => bif !y1 then some (x0) else match Zhy { x0 with log:=([]:List Mark),done:=false } with
  | some y2 => bif !y2.snd then match Zkr { x0 with log:=([]:List Mark),done:=false } with
   | some y3 => bif !y3.snd then match Zi4 { x0 with log:=([]:List Mark),done:=false } with
    | some y4 => bif !y4.snd then match Zj0 { x0 with log:=([]:List Mark),done:=false } with
     | some y5 => bif !y5.snd then match Zjq { x0 with log:=([]:List Mark),done:=false } with
      | some y6 => bif !y6.snd then match Zh9 { x0 with log:=([]:List Mark),done:=false } with
       | some y7 => bif !y7.snd then some ({ x0 with log:=([]:List Mark),done:=false }) else some (y7.fst)
       | none=>none else some (y6.fst)
      | none=>none else some (y5.fst)
     | none=>none else some (y4.fst)
    | none=>none else some (y3.fst)
   | none=>none else some (y2.fst)
  | none=>none
 | none=>none
def Zcw (x:Turn):Option (Turn):=ZhW x
def Zpd (x0:Int) (x1:Turn) (x2:Turn):Option ((Int×Turn×Turn)⊕((Turn×Turn))) := bif decide (x0>(0:Int)) then match ZbE x1.th with
 | some y1 => bif y1 then match Zcw x1 with
  | some y2 => bif y2.done then some (Sum.inr (y2,x2)) else some (Sum.inl (Zaf IntKind.i64 (x0-(1:Int)),y2,x2))
  | none=>none else some (Sum.inr (x1,x2))
 | none=>none else some (Sum.inr (x1,x2))
def ZgG (x:Int×Turn×Turn):Option ((Int×Turn×Turn)⊕((Turn×Turn))):=Zpd x.1 x.2.1 x.2.2
def Zpi (x:Int×Turn×Turn):Option ((Turn×Turn)):=Zav ZgG x
def Zrb (x0:Turn) (x1:Int):Option (Turn) := match Zpi (x1,x0,Turn.mk (Config.mk (0:Int) (0:Int) (0:Int) (0:Int) (0:Int) (0:Int) (0:Int) (0:Int) false (0:Int) (0:Int) (0:Int)) (0:Int) (0:Int) (Memo.mk ([]:List Int) ([]:List (List Entry))) (Thread.mk (0:Int) (0:Int) (Op.mk (0:Int) (0:Int)) ([]:List Entry) ([]:List Kid) ([]:List Int) (0:Int) (0:Int) (0:Int) (0:Int) (0:Int) (0:Int) (0:Int) (0:Int) (0:Int) (0:Int)) (Tape.mk ([]:List Int) (0:Int)) ([]:List Mark) false) with
 | some y1 => some (y1.fst)
 | none=>none
def ZcO (x:Turn×Int):Option (Turn):=Zrb x.1 x.2
def Zte:Option (Bool) := match ZdC (Config.mk (2:Int) (1:Int) (2:Int) (2:Int) (0:Int) (1:Int) (0:Int) (0:Int) false (0:Int) (0:Int) (5:Int)) with
 | some y1 => match Zd3 () with
  | some y2 => match ZcP (Config.mk (2:Int) (1:Int) (2:Int) (2:Int) (0:Int) (1:Int) (0:Int) (0:Int) false (0:Int) (0:Int) (5:Int),(1:Int),y2,(0:Int),Op.mk (1:Int) (3:Int),(0:Int)) with
   | some y3 => match ZcO (Turn.mk (Config.mk (2:Int) (1:Int) (2:Int) (2:Int) (0:Int) (1:Int) (0:Int) (0:Int) false (0:Int) (0:Int) (5:Int)) (1:Int) (0:Int) y1 y3 (Tape.mk ([]:List Int) (0:Int)) ([]:List Mark) false,(100:Int)) with
    | some y4 => match Zcw (Turn.mk (Config.mk (2:Int) (1:Int) (2:Int) (2:Int) (0:Int) (1:Int) (0:Int) (0:Int) false (0:Int) (0:Int) (5:Int)) (1:Int) (0:Int) y1 y3 (Tape.mk ([]:List Int) (0:Int)) ([]:List Mark) false) with
     | some y5 => bif y4.done then bif y4.th.x == (5:Int) then bif (↑y4.m.words.length:Int) == (8:Int) then bif decide ((0:Int)<(↑y4.m.words.length:Int)) then bif y4.m.words.getD (Int.toNat (0:Int)) (0:Int) == (8:Int) then match ZbE y4.th with
      | some y6 => bif !y6 then bif (↑y4.log.length:Int) == (1:Int) then bif y5.th.phase == (4:Int) then match Zfj (Turn.mk (Config.mk (2:Int) (1:Int) (2:Int) (2:Int) (0:Int) (1:Int) (0:Int) (0:Int) false (0:Int) (0:Int) (5:Int)) (1:Int) (0:Int) y1 y3 (Tape.mk ([]:List Int) (0:Int)) ([]:List Mark) false) with
       | some y7 => bif y7.th.phase == (4:Int) then some (!y5.done) else some (false)
       | none=>none else some (false) else some (false) else some (false)
      | none=>none else some (false) else none else some (false) else some (false) else some (false)
     | none=>none
    | none=>none
   | none=>none
  | none=>none
 | none=>none
def Zbl (x:Unit):Option (Bool):=Zte
def Zm8 (x0:Turn) (x1:Int):Option (Bool) := match Zln x0 with
 | some y1 => bif y1 then match Zbl () with
  | some y2 => some (y2)
  | none=>none else match ZlA x0 with
  | some y2 => bif !y2 then match Zbl () with
   | some y3 => some (y3)
   | none=>none else bif decide (x1>(1000:Int)) then match Zbl () with
    | some y3 => some (y3)
    | none=>none else match Zbl () with
    | some y3 => bif !y3 then match Zbl () with
     | some y4 => some (y4)
     | none=>none else match Zcw { x0 with th:={ x0.th with phase:=(0:Int) } } with
     | some y4 => match Zgb y4 with
      | some y5 => match Zgb { x0 with th:={ x0.th with phase:=(0:Int) } } with
       | some y6 => match Zjv (y5,y6) with
        | some y7 => bif y7 then match ZcO ({ x0 with th:={ x0.th with phase:=(0:Int) } },x1) with
         | some y8 => match Zgb y8 with
          | some y9 => match Zgb { x0 with th:={ x0.th with phase:=(0:Int) } } with
           | some y10 => match Zjv (y9,y10) with
            | some y11 => some (y11)
            | none=>none
           | none=>none
          | none=>none
         | none=>none else some (false)
        | none=>none
       | none=>none
      | none=>none
     | none=>none
    | none=>none
  | none=>none
 | none=>none
def Zm6 (x:Turn×Int):Option (Bool):=Zm8 x.1 x.2
def Zm5 (x0:Config) (x1:Int) (x2:Int) (x3:Op):Option (Bool) := match Zed { x0 with backend:=(1:Int) } with
 | some y1 => bif y1 != (0:Int) then match Zbl () with
  | some y2 => some (y2)
  | none=>none else match Zbl () with
  | some y2 => bif !y2 then match Zbl () with
   | some y3 => some (y3)
   | none=>none else bif decide (x0.threads=(0:Int)) then none else bif decide (x0.items=(0:Int)) then none else match Zc2 (x3,x0.init,x0.lo,x0.hi) with
    | some y3 => bif y3.fst == x0.init then match ZdC { x0 with backend:=(1:Int) } with
     | some y4 => match Zd3 () with
      | some y5 => match ZcP ({ x0 with backend:=(1:Int) },(IntKind.i64.wrap x1).tmod x0.threads,y5,(IntKind.i64.wrap x2).tmod x0.items,x3,(0:Int)) with
       | some y6 => match ZcO (Turn.mk { x0 with backend:=(1:Int) } ((IntKind.i64.wrap x1).tmod x0.threads) (0:Int) y4 y6 (Tape.mk ([]:List Int) (0:Int)) ([]:List Mark) false,Zaf IntKind.i64 ((2:Int)-(1:Int))) with
        | some y7 => match ZcO (Turn.mk { x0 with backend:=(1:Int) } ((IntKind.i64.wrap x1).tmod x0.threads) (0:Int) y4 y6 (Tape.mk ([]:List Int) (0:Int)) ([]:List Mark) false,(2:Int)) with
         | some y8 => bif !y7.done then bif (↑y7.log.length:Int) == (0:Int) then bif y8.done then bif (↑y8.log.length:Int) == (1:Int) then bif (↑y8.th.held.length:Int) == (0:Int) then bif (↑y8.th.kids.length:Int) == (0:Int) then some (y8.th.layer == (0:Int)) else some (false) else some (false) else some (false) else some (false) else some (false) else some (false)
         | none=>none
        | none=>none
       | none=>none
      | none=>none
     | none=>none else match ZdC { x0 with backend:=(1:Int) } with
     | some y4 => match Zd3 () with
      | some y5 => match ZcP ({ x0 with backend:=(1:Int) },(IntKind.i64.wrap x1).tmod x0.threads,y5,(IntKind.i64.wrap x2).tmod x0.items,x3,(0:Int)) with
       | some y6 => match ZcO (Turn.mk { x0 with backend:=(1:Int) } ((IntKind.i64.wrap x1).tmod x0.threads) (0:Int) y4 y6 (Tape.mk ([]:List Int) (0:Int)) ([]:List Mark) false,Zaf IntKind.i64 ((3:Int)-(1:Int))) with
        | some y7 => match ZcO (Turn.mk { x0 with backend:=(1:Int) } ((IntKind.i64.wrap x1).tmod x0.threads) (0:Int) y4 y6 (Tape.mk ([]:List Int) (0:Int)) ([]:List Mark) false,(3:Int)) with
         | some y8 => bif !y7.done then bif (↑y7.log.length:Int) == (0:Int) then bif y8.done then bif (↑y8.log.length:Int) == (1:Int) then bif (↑y8.th.held.length:Int) == (0:Int) then bif (↑y8.th.kids.length:Int) == (0:Int) then some (y8.th.layer == (0:Int)) else some (false) else some (false) else some (false) else some (false) else some (false) else some (false)
         | none=>none
        | none=>none
       | none=>none
      | none=>none
     | none=>none
    | none=>none
  | none=>none
 | none=>none
def Zna (x:Config×Int×Int×Op):Option (Bool):=Zm5 x.1 x.2.1 x.2.2.1 x.2.2.2
def Zm7 (x0:Turn):Option (Bool) := match Zln x0 with
 | some y1 => bif y1 then match Zbl () with
  | some y2 => some (y2)
  | none=>none else match Zk5 x0 with
  | some y2 => bif !y2 then match Zbl () with
   | some y3 => some (y3)
   | none=>none else bif (↑x0.th.batch.length:Int) == (0:Int) then match Zbl () with
    | some y3 => some (y3)
    | none=>none else match Zbl () with
    | some y3 => bif !y3 then match Zbl () with
     | some y4 => some (y4)
     | none=>none else match Zcw x0 with
     | some y4 => bif x0.th.phase == (0:Int) then some ((↑y4.log.length:Int) == (↑x0.log.length:Int)) else bif x0.th.phase == (2:Int) then bif y4.th.phase == (15:Int) then bif decide ((↑y4.log.length:Int)>(0:Int)) == true then bif (↑y4.log.length:Int) == (0:Int) then bif !y4.done then some (true) else some (y4.th.phase == (0:Int)) else bif (↑y4.log.length:Int) == (↑x0.th.batch.length:Int) then bif !y4.done then some (true) else some (y4.th.phase == (0:Int)) else some (false) else some (false) else bif decide ((↑y4.log.length:Int)>(0:Int)) == (y4.th.phase == (0:Int)) then bif (↑y4.log.length:Int) == (0:Int) then bif !y4.done then some (true) else some (y4.th.phase == (0:Int)) else bif (↑y4.log.length:Int) == (↑x0.th.batch.length:Int) then bif !y4.done then some (true) else some (y4.th.phase == (0:Int)) else some (false) else some (false) else bif x0.th.phase == (3:Int) then bif y4.th.phase == (15:Int) then bif decide ((↑y4.log.length:Int)>(0:Int)) == true then bif (↑y4.log.length:Int) == (0:Int) then bif !y4.done then some (true) else some (y4.th.phase == (0:Int)) else bif (↑y4.log.length:Int) == (↑x0.th.batch.length:Int) then bif !y4.done then some (true) else some (y4.th.phase == (0:Int)) else some (false) else some (false) else bif decide ((↑y4.log.length:Int)>(0:Int)) == (y4.th.phase == (0:Int)) then bif (↑y4.log.length:Int) == (0:Int) then bif !y4.done then some (true) else some (y4.th.phase == (0:Int)) else bif (↑y4.log.length:Int) == (↑x0.th.batch.length:Int) then bif !y4.done then some (true) else some (y4.th.phase == (0:Int)) else some (false) else some (false) else bif y4.th.phase == (15:Int) then bif x0.th.phase == (25:Int) then bif decide ((↑y4.log.length:Int)>(0:Int)) == true then bif (↑y4.log.length:Int) == (0:Int) then bif !y4.done then some (true) else some (y4.th.phase == (0:Int)) else bif (↑y4.log.length:Int) == (↑x0.th.batch.length:Int) then bif !y4.done then some (true) else some (y4.th.phase == (0:Int)) else some (false) else some (false) else bif decide ((↑y4.log.length:Int)>(0:Int)) == false then bif (↑y4.log.length:Int) == (0:Int) then bif !y4.done then some (true) else some (y4.th.phase == (0:Int)) else bif (↑y4.log.length:Int) == (↑x0.th.batch.length:Int) then bif !y4.done then some (true) else some (y4.th.phase == (0:Int)) else some (false) else some (false) else bif x0.th.phase == (25:Int) then bif decide ((↑y4.log.length:Int)>(0:Int)) == (y4.th.phase == (0:Int)) then bif (↑y4.log.length:Int) == (0:Int) then bif !y4.done then some (true) else some (y4.th.phase == (0:Int)) else bif (↑y4.log.length:Int) == (↑x0.th.batch.length:Int) then bif !y4.done then some (true) else some (y4.th.phase == (0:Int)) else some (false) else some (false) else bif decide ((↑y4.log.length:Int)>(0:Int)) == false then bif (↑y4.log.length:Int) == (0:Int) then bif !y4.done then some (true) else some (y4.th.phase == (0:Int)) else bif (↑y4.log.length:Int) == (↑x0.th.batch.length:Int) then bif !y4.done then some (true) else some (y4.th.phase == (0:Int)) else some (false) else some (false)
     | none=>none
    | none=>none
  | none=>none
 | none=>none
def Zm9 (x:Turn):Option (Bool):=Zm7 x
def ZkT (x0:Config) (x1:Config) (x2:Int) (x3:Int) (x4:Turn) (x5:Int) (x6:Int) (x7:Int):Option ((Config×Config×Int×Int×Turn×Int×Int×Int)⊕((Config×Config×Int×Int×Turn×Int×Int)⊕(Bool))) := match ZeR x1 with
 | some y1 => bif decide (x7<=y1) then match ZfH (x1,x6,x7) with
  | some y2 => bif decide ((0:Int)<=y2) then bif decide (y2<(↑x4.m.words.length:Int)) then bif x4.m.words.getD (Int.toNat y2) (0:Int) != (0:Int) then some (Sum.inr (Sum.inr false)) else some (Sum.inl (x0,x1,x2,x3,x4,x5,x6,Zaf IntKind.i64 (x7+(1:Int)))) else none else none
  | none=>none else some (Sum.inr (Sum.inl (x0,x1,x2,x3,x4,x5,x6)))
 | none=>none
def ZkQ (x:Config×Config×Int×Int×Turn×Int×Int×Int):Option ((Config×Config×Int×Int×Turn×Int×Int×Int)⊕((Config×Config×Int×Int×Turn×Int×Int)⊕(Bool))):=ZkT x.1 x.2.1 x.2.2.1 x.2.2.2.1 x.2.2.2.2.1 x.2.2.2.2.2.1 x.2.2.2.2.2.2.1 x.2.2.2.2.2.2.2
def ZfZ (x:Config×Config×Int×Int×Turn×Int×Int×Int):Option ((Config×Config×Int×Int×Turn×Int×Int)⊕(Bool)):=Zav ZkQ x
def ZkU (x0:Config) (x1:Config) (x2:Int) (x3:Int) (x4:Turn) (x5:Int) (x6:Int):Option ((Config×Config×Int×Int×Turn×Int×Int)⊕((Config×Int×Turn)⊕(Bool))) := bif decide (x6<x0.items) then bif x6 == x3 then match Zey (x1,x6) with
 | some y1 => bif decide ((0:Int)<=y1) then bif decide (y1<(↑x4.m.words.length:Int)) then bif x4.m.words.getD (Int.toNat y1) (0:Int) != x5 then some (Sum.inr (Sum.inr false)) else match ZfZ (x0,x1,x2,x3,x4,x5,x6,(1:Int)) with
  | some (.inl y2) => some (Sum.inl (y2.fst,y2.snd.fst,y2.snd.snd.fst,y2.snd.snd.snd.fst,y2.snd.snd.snd.snd.fst,y2.snd.snd.snd.snd.snd.fst,Zaf IntKind.i64 (y2.snd.snd.snd.snd.snd.snd+(1:Int))))
  | some (.inr y3) => some (Sum.inr (Sum.inr y3))
  | none=>none else none else none
 | none=>none else match Zey (x1,x6) with
 | some y1 => bif decide ((0:Int)<=y1) then bif decide (y1<(↑x4.m.words.length:Int)) then bif x4.m.words.getD (Int.toNat y1) (0:Int) != x0.init then some (Sum.inr (Sum.inr false)) else match ZfZ (x0,x1,x2,x3,x4,x5,x6,(1:Int)) with
  | some (.inl y2) => some (Sum.inl (y2.fst,y2.snd.fst,y2.snd.snd.fst,y2.snd.snd.snd.fst,y2.snd.snd.snd.snd.fst,y2.snd.snd.snd.snd.snd.fst,Zaf IntKind.i64 (y2.snd.snd.snd.snd.snd.snd+(1:Int))))
  | some (.inr y3) => some (Sum.inr (Sum.inr y3))
  | none=>none else none else none
 | none=>none else some (Sum.inr (Sum.inl (x1,x2,x4)))
def ZkS (x:Config×Config×Int×Int×Turn×Int×Int):Option ((Config×Config×Int×Int×Turn×Int×Int)⊕((Config×Int×Turn)⊕(Bool))):=ZkU x.1 x.2.1 x.2.2.1 x.2.2.2.1 x.2.2.2.2.1 x.2.2.2.2.2.1 x.2.2.2.2.2.2
def ZkR (x:Config×Config×Int×Int×Turn×Int×Int):Option ((Config×Int×Turn)⊕(Bool)):=Zav ZkS x
def Zmv (x0:Config) (x1:Int) (x2:Int) (x3:Op) (x4:Int):Option (Bool) := match Zed x0 with
 | some y1 => bif y1 != (0:Int) then match Zbl () with
  | some y2 => some (y2)
  | none=>none else match Zli (x3,x0.bounded) with
  | some y2 => bif !y2 then match Zbl () with
   | some y3 => some (y3)
   | none=>none else match Zbl () with
   | some y3 => bif !y3 then match Zbl () with
    | some y4 => some (y4)
    | none=>none else bif decide (x0.threads=(0:Int)) then none else bif decide (x0.items=(0:Int)) then none else match ZdC x0 with
     | some y4 => match Zd3 () with
      | some y5 => match ZcP (x0,(IntKind.i64.wrap x1).tmod x0.threads,y5,(IntKind.i64.wrap x2).tmod x0.items,x3,IntKind.i64.wrap x4) with
       | some y6 => match ZlY x0 with
        | some y7 => match ZcO (Turn.mk x0 ((IntKind.i64.wrap x1).tmod x0.threads) (IntKind.i64.wrap x4) y4 y6 (Tape.mk ([]:List Int) (0:Int)) ([]:List Mark) false,y7) with
         | some y8 => match Zc2 (x3,x0.init,x0.lo,x0.hi) with
          | some y9 => bif !y8.done then some (false) else match ZbE y8.th with
           | some y10 => bif y10 then some (false) else bif y8.th.x != x0.init then some (false) else match Zfz x0 with
            | some y11 => bif (↑y8.m.words.length:Int) != y11 then some (false) else bif (↑y8.log.length:Int) != (1:Int) then some (false) else bif decide ((0:Int)<(↑y8.log.length:Int)) then bif !((y8.log.getD (Int.toNat (0:Int)) ZaS).t == (IntKind.i64.wrap x1).tmod x0.threads && ((y8.log.getD (Int.toNat (0:Int)) ZaS).item == (IntKind.i64.wrap x2).tmod x0.items && ((y8.log.getD (Int.toNat (0:Int)) ZaS).op.tag == x3.tag && ((y8.log.getD (Int.toNat (0:Int)) ZaS).op.v == x3.v && true) && ((y8.log.getD (Int.toNat (0:Int)) ZaS).prior == x0.init && ((y8.log.getD (Int.toNat (0:Int)) ZaS).step == (0:Int) && true))))) then some (false) else match ZkR (x0,x0,(IntKind.i64.wrap x1).tmod x0.threads,(IntKind.i64.wrap x2).tmod x0.items,y8,y9.fst,(0:Int)) with
             | some (.inl y12) => match Zdo (y12.fst,y12.snd.fst) with
              | some y13 => bif decide ((0:Int)<=y13) then bif decide (y13<(↑y12.snd.snd.m.words.length:Int)) then some (y12.snd.snd.m.words.getD (Int.toNat y13) (0:Int) == (0:Int)) else none else none
              | none=>none
             | some (.inr y13) => some (y13)
             | none=>none else none
            | none=>none
           | none=>none
          | none=>none
         | none=>none
        | none=>none
       | none=>none
      | none=>none
     | none=>none
   | none=>none
  | none=>none
 | none=>none
def ZmB (x:Config×Int×Int×Op×Int):Option (Bool):=Zmv x.1 x.2.1 x.2.2.1 x.2.2.2.1 x.2.2.2.2
end Go.Proofs.Mill
