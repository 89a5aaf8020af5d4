/- What the functions compute. -/
import Derived.Test.YtecgogmolkjhjaaGreatMillAll3
import Derived.Test.YtecgogmolkjhjaaGreatMillFT2
set_option linter.all false
noncomputable section
namespace Go.Proofs.Mill
def Zea (x0:Int) (x1:Turn) (x2:Turn) (x3:Unit) (x4:List Mark) (x5:List Int) (x6:Int) (x7:Int):Option ((Int×Turn×Turn×Unit×(List Mark)×(List Int)×Int×Int)⊕((Int×Turn×Turn×Unit×(List Mark)))) := bif decide (x7<x6) then bif decide (0<=x7) then bif decide (x7<(↑x5.length:Int)) then bif decide (0<=x7) then bif decide (x7<(↑x1.th.batch.length:Int)) then bif fewB (x4.length+(Mark.mk (x1.th.batch.getD x7.toNat Zca).t x1.th.item (x1.th.batch.getD x7.toNat Zca).op (x5.getD x7.toNat 0) 0::[]).length) then some (Sum.inl (x0,x1,x2,(),x4++Mark.mk (x1.th.batch.getD x7.toNat Zca).t x1.th.item (x1.th.batch.getD x7.toNat Zca).op (x5.getD x7.toNat 0) 0::[],x5,x6,Zaf .i64 (x7+1))) else none else none else none else none else none else some (Sum.inr (x0,x1,x2,(),x4))
def Zd7 (x:Int×Turn×Turn×Unit×(List Mark)×(List Int)×Int×Int):Option ((Int×Turn×Turn×Unit×(List Mark)×(List Int)×Int×Int)⊕((Int×Turn×Turn×Unit×(List Mark)))):=Zea x.1 x.2.1 x.2.2.1 x.2.2.2.1 x.2.2.2.2.1 x.2.2.2.2.2.1 x.2.2.2.2.2.2.1 x.2.2.2.2.2.2.2
def Zhk (x:Int×Turn×Turn×Unit×(List Mark)×(List Int)×Int×Int):Option ((Int×Turn×Turn×Unit×(List Mark))):=Zay Zd7 x
def Zix (x0:Turn) (x1:Int):Option Turn := bif fewB x0.log.length then match ZjO (x0.th.batch,x1,x0.c.lo,x0.c.hi) with
 | some y1 => match Zhk (x1,x0,Turn.mk (Config.mk 0 0 0 0 0 0 0 0 false 0 0 0) 0 0 (Memo.mk ([]:List Int) ([]:List (List Entry))) (Thread.mk 0 0 (Op.mk 0 0) ([]:List Entry) ([]:List Kid) ([]:List Int) 0 0 0 0 0 0 0 0 0 0) (Tape.mk ([]:List Int) 0) ([]:List Mark) false,(),x0.log,y1,(↑(List.length y1):Int),0) with
  | some y2 => match Zdp { y2.snd.fst with th:={ y2.snd.fst.th with at_:=0,x:=y2.fst },log:=y2.snd.snd.snd.snd } with
   | some y3 => some y3
   | none=>none
  | none=>none
 | none=>none else none
def ZdO (x:Turn×Int):Option Turn:=Zix x.1 x.2
def Zll (x0:Turn):Option Turn := match ZdJ (x0.c,x0.th.item) with
 | some y1 => match ZcV (x0.m,y1,x0.th.x,x0.th.y) with
  | some y2 => bif y2.snd.snd != 0 then some (x0) else bif y2.snd.fst then match ZdO ({ x0 with m:=y2.fst },x0.th.x) with
   | some y3 => some y3
   | none=>none else bif decide (x0.th.width<x0.c.width) then some ({ x0 with th:={ x0.th with phase:=2,width:=if x0.c.width<Zaf .i64 (x0.th.width*2) then x0.c.width else Zaf .i64 (x0.th.width*2) } }) else some ({ x0 with th:={ x0.th with phase:=2,width:=if x0.c.width<x0.th.width then x0.c.width else x0.th.width } })
  | none=>none
 | none=>none
def Zhi (x:Turn):Option Turn:=Zll x
def ZkB (x0:Turn):Option (Turn×Bool) := bif x0.th.phase == 3 then match Zhi x0 with
 | some y1 => some ((y1,true))
 | none=>none else bif x0.th.phase != 2 then bif x0.th.phase != 25 then some ((x0,false)) else match ZdJ (x0.c,x0.th.item) with
   | some y1 => match Zcq (x0.m,y1) with
    | some y2 => match Zff (x0.th.batch,y2.fst,x0.c.lo,x0.c.hi) with
     | some y3 => bif y2.snd != 0 then some ((x0,true)) else bif y2.fst == y2.fst && (y3 == y2.fst && true) then match ZdO (x0,y2.fst) with
       | some y4 => some ((y4,true))
       | none=>none else bif x0.th.phase == 25 then match Zcy x0 with
        | some y4 => some ((y4,true))
        | none=>none else some (({ x0 with th:={ x0.th with phase:=3,x:=y2.fst,y:=y3 } },true))
     | none=>none
    | none=>none
   | none=>none else match ZdJ (x0.c,x0.th.item) with
  | some y1 => match Zcq (x0.m,y1) with
   | some y2 => match Zff (x0.th.batch,y2.fst,x0.c.lo,x0.c.hi) with
    | some y3 => bif y2.snd != 0 then some ((x0,true)) else bif y2.fst == y2.fst && (y3 == y2.fst && true) then match ZdO (x0,y2.fst) with
      | some y4 => some ((y4,true))
      | none=>none else bif x0.th.phase == 25 then match Zcy x0 with
       | some y4 => some ((y4,true))
       | none=>none else some (({ x0 with th:={ x0.th with phase:=3,x:=y2.fst,y:=y3 } },true))
    | none=>none
   | none=>none
  | none=>none
def Zk7 (x:Turn):Option (Turn×Bool):=ZkB x
def Zm7 (x0:Tape) (x1:Int):Option (Int×Tape) := bif decide (x1<1) then some ((0,x0)) else match Zoc x0 with
 | some y1 => bif decide (x1=0) then none else bif decide (Int.tmod y1.fst x1<0) then some ((Zaf .i64 (Int.tmod y1.fst x1+x1),y1.snd)) else some ((Int.tmod y1.fst x1,y1.snd))
 | none=>none
def ZlP (x:Tape×Int):Option (Int×Tape):=Zm7 x.1 x.2
def Zen (x0:Turn):Option (Turn×Bool) := match Zki (x0.th.item,x0.th.layer) with
 | some y1 => bif x0.th.phase == 17 then match ZiZ (x0.m,x0.t,x0.th.batch) with
  | some y2 => bif y2.snd == 0 then some (({ x0 with m:=y2.fst,th:={ x0.th with phase:=18 } },true)) else some ((x0,true))
  | none=>none else bif x0.th.phase == 18 then match Zcg ((x0,y1),x0.t) with
   | some y2 => match Zcp (x0.m,y2,y1) with
    | some y3 => bif y3.snd == 0 then some (({ x0 with m:=y3.fst,th:={ x0.th with phase:=19 } },true)) else some ((x0,true))
    | none=>none
   | none=>none else bif x0.th.phase == 19 then match ZlP (x0.tape,x0.th.width) with
    | some y2 => match Zmk (x0.c,x0.th.item,x0.th.layer,y2.fst) with
     | some y3 => match Zn4 (x0.m,y3,Zaf .i64 (x0.t+1)) with
      | some y4 => bif y4.snd.snd != 0 then some ((x0,true)) else bif decide (y4.snd.fst<1) then some (({ x0 with m:=y4.fst,th:={ x0.th with phase:=23,left:=x0.c.spin },tape:=y2.snd },true)) else bif decide (y4.snd.fst>x0.c.threads) then some (({ x0 with m:=y4.fst,th:={ x0.th with phase:=23,left:=x0.c.spin },tape:=y2.snd },true)) else bif y4.snd.fst == Zaf .i64 (x0.t+1) then some (({ x0 with m:=y4.fst,th:={ x0.th with phase:=23,left:=x0.c.spin },tape:=y2.snd },true)) else some (({ x0 with m:=y4.fst,th:={ x0.th with phase:=20,who:=Zaf .i64 (y4.snd.fst-1) },tape:=y2.snd },true))
      | none=>none
     | none=>none
    | none=>none else bif x0.th.phase == 20 then match Zcg ((x0,y1),x0.t) with
     | some y2 => match ZcV (x0.m,y2,y1,0) with
      | some y3 => bif y3.snd.snd != 0 then some ((x0,true)) else bif y3.snd.fst then bif x0.th.phase == 26 then match Zcy { x0 with m:=y3.fst,th:={ x0.th with phase:=21,width:=if x0.th.width.fdiv (2 ^ min (Int.toNat 1) IntKind.i64.bits)>1 then x0.th.width.fdiv (2 ^ min (Int.toNat 1) IntKind.i64.bits) else 1 } } with
          | some y4 => some ((y4,true))
          | none=>none else some (({ x0 with m:=y3.fst,th:={ x0.th with phase:=21 } },true)) else some (({ x0 with m:=y3.fst,th:={ x0.th with phase:=13 } },true))
      | none=>none
     | none=>none else bif x0.th.phase == 21 then match Zcg ((x0,y1),x0.th.who) with
      | some y2 => match ZcV (x0.m,y2,y1,0) with
       | some y3 => bif y3.snd.snd != 0 then some ((x0,true)) else bif y3.snd.fst then bif x0.th.phase == 26 then match Zcy { x0 with m:=y3.fst,th:={ x0.th with phase:=22,width:=if x0.th.width.fdiv (2 ^ min (Int.toNat 1) IntKind.i64.bits)>1 then x0.th.width.fdiv (2 ^ min (Int.toNat 1) IntKind.i64.bits) else 1 } } with
           | some y4 => some ((y4,true))
           | none=>none else some (({ x0 with m:=y3.fst,th:={ x0.th with phase:=22 } },true)) else some (({ x0 with m:=y3.fst,th:={ x0.th with phase:=24 } },true))
       | none=>none
      | none=>none else bif x0.th.phase == 22 then match ZiB (x0.m,x0.th.who) with
       | some y2 => bif y2.snd == 0 then match ZfT (x0,x0.th.who,y2.fst) with
         | some y3 => some (({ y3 with th:={ y3.th with phase:=25 } },true))
         | none=>none else some ((x0,true))
       | none=>none else bif x0.th.phase == 23 then match Zcg ((x0,y1),x0.t) with
        | some y2 => match Zcq (x0.m,y2) with
         | some y3 => bif y3.snd != 0 then some ((x0,true)) else bif y3.fst != y1 then some (({ x0 with th:={ x0.th with phase:=13 } },true)) else bif decide (x0.th.left>0) then match ZdX x0 with
            | some y4 => bif !y4 then some (({ x0 with th:={ x0.th with left:=Zaf .i64 (x0.th.left-1) } },true)) else some (({ x0 with th:={ x0.th with phase:=26 } },true))
            | none=>none else some (({ x0 with th:={ x0.th with phase:=26 } },true))
         | none=>none
        | none=>none else bif x0.th.phase == 24 then match Zcg ((x0,y1),x0.t) with
         | some y2 => match Zcp (x0.m,y2,y1) with
          | some y3 => bif y3.snd == 0 then some (({ x0 with m:=y3.fst,th:={ x0.th with phase:=23,left:=x0.c.spin } },true)) else some ((x0,true))
          | none=>none
         | none=>none else bif x0.th.phase == 26 then match Zcg ((x0,y1),x0.t) with
          | some y2 => match ZcV (x0.m,y2,y1,0) with
           | some y3 => bif y3.snd.snd != 0 then some ((x0,true)) else bif y3.snd.fst then bif x0.th.phase == 26 then match Zcy { x0 with m:=y3.fst,th:={ x0.th with phase:=26,width:=if x0.th.width.fdiv (2 ^ min (Int.toNat 1) IntKind.i64.bits)>1 then x0.th.width.fdiv (2 ^ min (Int.toNat 1) IntKind.i64.bits) else 1 } } with
             | some y4 => some ((y4,true))
             | none=>none else some (({ x0 with m:=y3.fst,th:={ x0.th with phase:=26 } },true)) else some (({ x0 with m:=y3.fst,th:={ x0.th with phase:=13 } },true))
           | none=>none
          | none=>none else some ((x0,false))
 | none=>none
def Zj9 (x:Turn):Option (Turn×Bool):=Zen x
def Zjk (x0:Turn):Option Turn := match ZbO x0.th with
 | some y1 => bif !y1 then some (x0) else match ZiG { x0 with log:=([]:List Mark),done:=false } with
  | some y2 => bif !y2.snd then match ZlK { x0 with log:=([]:List Mark),done:=false } with
   | some y3 => bif !y3.snd then match Zk7 { x0 with log:=([]:List Mark),done:=false } with
    | some y4 => bif !y4.snd then match Zmz { x0 with log:=([]:List Mark),done:=false } with
     | some y5 => bif !y5.snd then match ZkL { x0 with log:=([]:List Mark),done:=false } with
      | some y6 => bif !y6.snd then match Zj9 { x0 with log:=([]:List Mark),done:=false } with
       | some y7 => bif !y7.snd then some ({ x0 with log:=([]:List Mark),done:=false }) else some (y7.fst)
       | none=>none else some (y6.fst)
      | none=>none else some (y5.fst)
     | none=>none else some (y4.fst)
    | none=>none else some (y3.fst)
   | none=>none else some (y2.fst)
  | none=>none
 | none=>none
def ZcI (x:Turn):Option Turn:=Zjk x
def ZrL (x0:Int) (x1:Turn) (x2:Turn):Option ((Int×Turn×Turn)⊕((Turn×Turn))) := bif decide (x0>0) then match ZbO x1.th with
 | some y1 => bif y1 then match ZcI x1 with
  | some y2 => bif y2.done then some (Sum.inr (y2,x2)) else some (Sum.inl (Zaf .i64 (x0-1),y2,x2))
  | none=>none else some (Sum.inr (x1,x2))
 | none=>none else some (Sum.inr (x1,x2))
def Zif (x:Int×Turn×Turn):Option ((Int×Turn×Turn)⊕((Turn×Turn))):=ZrL x.1 x.2.1 x.2.2
def ZrM (x:Int×Turn×Turn):Option (Turn×Turn):=Zay Zif x
def Ztp (x0:Turn) (x1:Int):Option Turn := match ZrM (x1,x0,Turn.mk (Config.mk 0 0 0 0 0 0 0 0 false 0 0 0) 0 0 (Memo.mk ([]:List Int) ([]:List (List Entry))) (Thread.mk 0 0 (Op.mk 0 0) ([]:List Entry) ([]:List Kid) ([]:List Int) 0 0 0 0 0 0 0 0 0 0) (Tape.mk ([]:List Int) 0) ([]:List Mark) false) with
 | some y1 => some (y1.fst)
 | none=>none
def Zc5 (x:Turn×Int):Option Turn:=Ztp x.1 x.2
def ZuD:Option Bool := match ZdY (Config.mk 2 1 2 2 0 1 0 0 false 0 0 5) with
 | some y1 => match Zet () with
  | some y2 => match Zc2 (Config.mk 2 1 2 2 0 1 0 0 false 0 0 5,1,y2,0,Op.mk 1 3,0) with
   | some y3 => match Zc5 (Turn.mk (Config.mk 2 1 2 2 0 1 0 0 false 0 0 5) 1 0 y1 y3 (Tape.mk ([]:List Int) 0) ([]:List Mark) false,100) with
    | some y4 => match ZcI (Turn.mk (Config.mk 2 1 2 2 0 1 0 0 false 0 0 5) 1 0 y1 y3 (Tape.mk ([]:List Int) 0) ([]:List Mark) false) with
     | some y5 => bif y4.done then bif y4.th.x == 5 then bif (↑y4.m.words.length:Int) == 8 then bif decide (0<(↑y4.m.words.length:Int)) then bif y4.m.words.getD (Int.toNat 0) 0 == 8 then match ZbO y4.th with
      | some y6 => bif !y6 then bif (↑y4.log.length:Int) == 1 then bif y5.th.phase == 4 then match Zgo (Turn.mk (Config.mk 2 1 2 2 0 1 0 0 false 0 0 5) 1 0 y1 y3 (Tape.mk ([]:List Int) 0) ([]:List Mark) false) with
       | some y7 => bif y7.th.phase == 4 then some (!y5.done) else some (false)
       | none=>none else some (false) else some (false) else some (false)
      | none=>none else some (false) else none else some (false) else some (false) else some (false)
     | none=>none
    | none=>none
   | none=>none
  | none=>none
 | none=>none
def Zbt (x:Unit):Option Bool:=ZuD
def ZpS (x0:Turn) (x1:Int):Option Bool := match ZnX x0 with
 | some y1 => bif y1 then match Zbt () with
  | some y2 => some y2
  | none=>none else match ZnO x0 with
  | some y2 => bif !y2 then match Zbt () with
   | some y3 => some y3
   | none=>none else bif decide (x1>1000) then match Zbt () with
    | some y3 => some y3
    | none=>none else match Zbt () with
    | some y3 => bif !y3 then match Zbt () with
     | some y4 => some y4
     | none=>none else match ZcI { x0 with th:={ x0.th with phase:=0 } } with
     | some y4 => match ZhG y4 with
      | some y5 => match ZhG { x0 with th:={ x0.th with phase:=0 } } with
       | some y6 => match ZkY (y5,y6) with
        | some y7 => bif y7 then match Zc5 ({ x0 with th:={ x0.th with phase:=0 } },x1) with
         | some y8 => match ZhG y8 with
          | some y9 => match ZhG { x0 with th:={ x0.th with phase:=0 } } with
           | some y10 => match ZkY (y9,y10) with
            | some y11 => some y11
            | none=>none
           | none=>none
          | none=>none
         | none=>none else some (false)
        | none=>none
       | none=>none
      | none=>none
     | none=>none
    | none=>none
  | none=>none
 | none=>none
def ZpV (x:Turn×Int):Option Bool:=ZpS x.1 x.2
def ZpT (x0:Config) (x1:Int) (x2:Int) (x3:Op):Option Bool := match Zdf { x0 with backend:=1 } with
 | some y1 => bif y1 != 0 then match Zbt () with
  | some y2 => some y2
  | none=>none else match Zbt () with
  | some y2 => bif !y2 then match Zbt () with
   | some y3 => some y3
   | none=>none else bif decide (x0.threads=0) then none else bif decide (x0.items=0) then none else match ZcH (x3,x0.init,x0.lo,x0.hi) with
    | some y3 => bif y3.fst == x0.init then match ZdY { x0 with backend:=1 } with
     | some y4 => match Zet () with
      | some y5 => match Zc2 ({ x0 with backend:=1 },(IntKind.i64.wrap x1).tmod x0.threads,y5,(IntKind.i64.wrap x2).tmod x0.items,x3,0) with
       | some y6 => match Zc5 (Turn.mk { x0 with backend:=1 } ((IntKind.i64.wrap x1).tmod x0.threads) 0 y4 y6 (Tape.mk ([]:List Int) 0) ([]:List Mark) false,Zaf .i64 (2-1)) with
        | some y7 => match Zc5 (Turn.mk { x0 with backend:=1 } ((IntKind.i64.wrap x1).tmod x0.threads) 0 y4 y6 (Tape.mk ([]:List Int) 0) ([]:List Mark) false,2) with
         | some y8 => bif !y7.done then bif (↑y7.log.length:Int) == 0 then bif y8.done then bif (↑y8.log.length:Int) == 1 then bif (↑y8.th.held.length:Int) == 0 then bif (↑y8.th.kids.length:Int) == 0 then some (y8.th.layer == 0) else some (false) else some (false) else some (false) else some (false) else some (false) else some (false)
         | none=>none
        | none=>none
       | none=>none
      | none=>none
     | none=>none else match ZdY { x0 with backend:=1 } with
     | some y4 => match Zet () with
      | some y5 => match Zc2 ({ x0 with backend:=1 },(IntKind.i64.wrap x1).tmod x0.threads,y5,(IntKind.i64.wrap x2).tmod x0.items,x3,0) with
       | some y6 => match Zc5 (Turn.mk { x0 with backend:=1 } ((IntKind.i64.wrap x1).tmod x0.threads) 0 y4 y6 (Tape.mk ([]:List Int) 0) ([]:List Mark) false,Zaf .i64 (3-1)) with
        | some y7 => match Zc5 (Turn.mk { x0 with backend:=1 } ((IntKind.i64.wrap x1).tmod x0.threads) 0 y4 y6 (Tape.mk ([]:List Int) 0) ([]:List Mark) false,3) with
         | some y8 => bif !y7.done then bif (↑y7.log.length:Int) == 0 then bif y8.done then bif (↑y8.log.length:Int) == 1 then bif (↑y8.th.held.length:Int) == 0 then bif (↑y8.th.kids.length:Int) == 0 then some (y8.th.layer == 0) else some (false) else some (false) else some (false) else some (false) else some (false) else some (false)
         | none=>none
        | none=>none
       | none=>none
      | none=>none
     | none=>none
    | none=>none
  | none=>none
 | none=>none
def ZpW (x:Config×Int×Int×Op):Option Bool:=ZpT x.1 x.2.1 x.2.2.1 x.2.2.2
def ZpR (x0:Turn):Option Bool := match ZnX x0 with
 | some y1 => bif y1 then match Zbt () with
  | some y2 => some y2
  | none=>none else match ZnI x0 with
  | some y2 => bif !y2 then match Zbt () with
   | some y3 => some y3
   | none=>none else bif (↑x0.th.batch.length:Int) == 0 then match Zbt () with
    | some y3 => some y3
    | none=>none else match Zbt () with
    | some y3 => bif !y3 then match Zbt () with
     | some y4 => some y4
     | none=>none else match ZcI x0 with
     | some y4 => bif x0.th.phase == 0 then some ((↑y4.log.length:Int) == (↑x0.log.length:Int)) else bif x0.th.phase == 2 then bif y4.th.phase == 15 then bif decide ((↑y4.log.length:Int)>0) == true then bif (↑y4.log.length:Int) == 0 then bif !y4.done then some (true) else some (y4.th.phase == 0) else bif (↑y4.log.length:Int) == (↑x0.th.batch.length:Int) then bif !y4.done then some (true) else some (y4.th.phase == 0) else some (false) else some (false) else bif decide ((↑y4.log.length:Int)>0) == (y4.th.phase == 0) then bif (↑y4.log.length:Int) == 0 then bif !y4.done then some (true) else some (y4.th.phase == 0) else bif (↑y4.log.length:Int) == (↑x0.th.batch.length:Int) then bif !y4.done then some (true) else some (y4.th.phase == 0) else some (false) else some (false) else bif x0.th.phase == 3 then bif y4.th.phase == 15 then bif decide ((↑y4.log.length:Int)>0) == true then bif (↑y4.log.length:Int) == 0 then bif !y4.done then some (true) else some (y4.th.phase == 0) else bif (↑y4.log.length:Int) == (↑x0.th.batch.length:Int) then bif !y4.done then some (true) else some (y4.th.phase == 0) else some (false) else some (false) else bif decide ((↑y4.log.length:Int)>0) == (y4.th.phase == 0) then bif (↑y4.log.length:Int) == 0 then bif !y4.done then some (true) else some (y4.th.phase == 0) else bif (↑y4.log.length:Int) == (↑x0.th.batch.length:Int) then bif !y4.done then some (true) else some (y4.th.phase == 0) else some (false) else some (false) else bif y4.th.phase == 15 then bif x0.th.phase == 25 then bif decide ((↑y4.log.length:Int)>0) == true then bif (↑y4.log.length:Int) == 0 then bif !y4.done then some (true) else some (y4.th.phase == 0) else bif (↑y4.log.length:Int) == (↑x0.th.batch.length:Int) then bif !y4.done then some (true) else some (y4.th.phase == 0) else some (false) else some (false) else bif decide ((↑y4.log.length:Int)>0) == false then bif (↑y4.log.length:Int) == 0 then bif !y4.done then some (true) else some (y4.th.phase == 0) else bif (↑y4.log.length:Int) == (↑x0.th.batch.length:Int) then bif !y4.done then some (true) else some (y4.th.phase == 0) else some (false) else some (false) else bif x0.th.phase == 25 then bif decide ((↑y4.log.length:Int)>0) == (y4.th.phase == 0) then bif (↑y4.log.length:Int) == 0 then bif !y4.done then some (true) else some (y4.th.phase == 0) else bif (↑y4.log.length:Int) == (↑x0.th.batch.length:Int) then bif !y4.done then some (true) else some (y4.th.phase == 0) else some (false) else some (false) else bif decide ((↑y4.log.length:Int)>0) == false then bif (↑y4.log.length:Int) == 0 then bif !y4.done then some (true) else some (y4.th.phase == 0) else bif (↑y4.log.length:Int) == (↑x0.th.batch.length:Int) then bif !y4.done then some (true) else some (y4.th.phase == 0) else some (false) else some (false)
     | none=>none
    | none=>none
  | none=>none
 | none=>none
def ZpQ (x:Turn):Option Bool:=ZpR x
def Zni (x0:Config) (x1:Config) (x2:Int) (x3:Int) (x4:Turn) (x5:Int) (x6:Int) (x7:Int):Option ((Config×Config×Int×Int×Turn×Int×Int×Int)⊕((Config×Config×Int×Int×Turn×Int×Int)⊕(Bool))) := match Zdg x1 with
 | some y1 => bif decide (x7<=y1) then match ZdM (x1,x6,x7) with
  | some y2 => bif decide (0<=y2) then bif decide (y2<(↑x4.m.words.length:Int)) then bif x4.m.words.getD (Int.toNat y2) 0 != 0 then some (Sum.inr (Sum.inr false)) else some (Sum.inl (x0,x1,x2,x3,x4,x5,x6,Zaf .i64 (x7+1))) else none else none
  | none=>none else some (Sum.inr (Sum.inl (x0,x1,x2,x3,x4,x5,x6)))
 | none=>none
def Znj (x:Config×Config×Int×Int×Turn×Int×Int×Int):Option ((Config×Config×Int×Int×Turn×Int×Int×Int)⊕((Config×Config×Int×Int×Turn×Int×Int)⊕(Bool))):=Zni x.1 x.2.1 x.2.2.1 x.2.2.2.1 x.2.2.2.2.1 x.2.2.2.2.2.1 x.2.2.2.2.2.2.1 x.2.2.2.2.2.2.2
def Zhd (x:Config×Config×Int×Int×Turn×Int×Int×Int):Option ((Config×Config×Int×Int×Turn×Int×Int)⊕(Bool)):=Zay Znj x
def Zng (x0:Config) (x1:Config) (x2:Int) (x3:Int) (x4:Turn) (x5:Int) (x6:Int):Option ((Config×Config×Int×Int×Turn×Int×Int)⊕((Config×Int×Turn)⊕(Bool))) := bif decide (x6<x0.items) then bif x6 == x3 then match ZdD (x1,x6) with
 | some y1 => bif decide (0<=y1) then bif decide (y1<(↑x4.m.words.length:Int)) then bif x4.m.words.getD (Int.toNat y1) 0 != x5 then some (Sum.inr (Sum.inr false)) else match Zhd (x0,x1,x2,x3,x4,x5,x6,1) with
  | some (.inl y2) => some (Sum.inl (y2.fst,y2.snd.fst,y2.snd.snd.fst,y2.snd.snd.snd.fst,y2.snd.snd.snd.snd.fst,y2.snd.snd.snd.snd.snd.fst,Zaf .i64 (y2.snd.snd.snd.snd.snd.snd+1)))
  | some (.inr y3) => some (Sum.inr (Sum.inr y3))
  | none=>none else none else none
 | none=>none else match ZdD (x1,x6) with
 | some y1 => bif decide (0<=y1) then bif decide (y1<(↑x4.m.words.length:Int)) then bif x4.m.words.getD (Int.toNat y1) 0 != x0.init then some (Sum.inr (Sum.inr false)) else match Zhd (x0,x1,x2,x3,x4,x5,x6,1) with
  | some (.inl y2) => some (Sum.inl (y2.fst,y2.snd.fst,y2.snd.snd.fst,y2.snd.snd.snd.fst,y2.snd.snd.snd.snd.fst,y2.snd.snd.snd.snd.snd.fst,Zaf .i64 (y2.snd.snd.snd.snd.snd.snd+1)))
  | some (.inr y3) => some (Sum.inr (Sum.inr y3))
  | none=>none else none else none
 | none=>none else some (Sum.inr (Sum.inl (x1,x2,x4)))
def Znh (x:Config×Config×Int×Int×Turn×Int×Int):Option ((Config×Config×Int×Int×Turn×Int×Int)⊕((Config×Int×Turn)⊕(Bool))):=Zng x.1 x.2.1 x.2.2.1 x.2.2.2.1 x.2.2.2.2.1 x.2.2.2.2.2.1 x.2.2.2.2.2.2
def Znf (x:Config×Config×Int×Int×Turn×Int×Int):Option ((Config×Int×Turn)⊕(Bool)):=Zay Znh x
def ZoU (x0:Config) (x1:Int) (x2:Int) (x3:Op) (x4:Int):Option Bool := match Zdf x0 with
 | some y1 => bif y1 != 0 then match Zbt () with
  | some y2 => some y2
  | none=>none else match Zkc (x3,x0.bounded) with
  | some y2 => bif !y2 then match Zbt () with
   | some y3 => some y3
   | none=>none else match Zbt () with
   | some y3 => bif !y3 then match Zbt () with
    | some y4 => some y4
    | none=>none else bif decide (x0.threads=0) then none else bif decide (x0.items=0) then none else match ZdY x0 with
     | some y4 => match Zet () with
      | some y5 => match Zc2 (x0,(IntKind.i64.wrap x1).tmod x0.threads,y5,(IntKind.i64.wrap x2).tmod x0.items,x3,IntKind.i64.wrap x4) with
       | some y6 => match Zoz x0 with
        | some y7 => match Zc5 (Turn.mk x0 ((IntKind.i64.wrap x1).tmod x0.threads) (IntKind.i64.wrap x4) y4 y6 (Tape.mk ([]:List Int) 0) ([]:List Mark) false,y7) with
         | some y8 => match ZcH (x3,x0.init,x0.lo,x0.hi) with
          | some y9 => bif !y8.done then some (false) else match ZbO y8.th with
           | some y10 => bif y10 then some (false) else bif y8.th.x != x0.init then some (false) else match Zft x0 with
            | some y11 => bif (↑y8.m.words.length:Int) != y11 then some (false) else bif (↑y8.log.length:Int) != 1 then some (false) else bif decide (0<(↑y8.log.length:Int)) then bif !((y8.log.getD (Int.toNat 0) Za6).t == (IntKind.i64.wrap x1).tmod x0.threads && ((y8.log.getD (Int.toNat 0) Za6).item == (IntKind.i64.wrap x2).tmod x0.items && ((y8.log.getD (Int.toNat 0) Za6).op.tag == x3.tag && ((y8.log.getD (Int.toNat 0) Za6).op.v == x3.v && true) && ((y8.log.getD (Int.toNat 0) Za6).prior == x0.init && ((y8.log.getD (Int.toNat 0) Za6).step == 0 && true))))) then some (false) else match Znf (x0,x0,(IntKind.i64.wrap x1).tmod x0.threads,(IntKind.i64.wrap x2).tmod x0.items,y8,y9.fst,0) with
             | some (.inl y12) => match Zck (y12.fst,y12.snd.fst) with
              | some y13 => bif decide (0<=y13) then bif decide (y13<(↑y12.snd.snd.m.words.length:Int)) then some (y12.snd.snd.m.words.getD (Int.toNat y13) 0 == 0) else none else none
              | none=>none
             | some (.inr y13) => some y13
             | none=>none else none
            | none=>none
           | none=>none
          | none=>none
         | none=>none
        | none=>none
       | none=>none
      | none=>none
     | none=>none
   | none=>none
  | none=>none
 | none=>none
def Zo0 (x:Config×Int×Int×Op×Int):Option Bool:=ZoU x.1 x.2.1 x.2.2.1 x.2.2.2.1 x.2.2.2.2
end Go.Proofs.Mill
