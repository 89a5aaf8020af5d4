/- What the functions compute. -/
import Derived.Test.YtecgogmolkjhjaaGreatMillAll3
import Derived.Test.YtecgogmolkjhjaaGreatMillFT2
set_option linter.all false
noncomputable section
namespace Go.Proofs.Mill
def Zd6 (x0:Int) (x1:Turn) (x2:Turn) (x3:Unit) (x4:List Mark) (x5:List Int) (x6:Int) (x7:Int):Option ((Int×Turn×Turn×Unit×(List Mark)×(List Int)×Int×Int)⊕((Int×Turn×Turn×Unit×(List Mark)))) := bif decide (x7<x6) then bif decide (0<=x7) then bif decide (x7<(↑x5.length:Int)) then bif decide (0<=x7) then bif decide (x7<(↑x1.th.batch.length:Int)) then bif fewB (x4.length+(Mark.mk (x1.th.batch.getD x7.toNat Zce).t x1.th.item (x1.th.batch.getD x7.toNat Zce).op (x5.getD x7.toNat 0) 0::[]).length) then some (Sum.inl (x0,x1,x2,(),x4++Mark.mk (x1.th.batch.getD x7.toNat Zce).t x1.th.item (x1.th.batch.getD x7.toNat Zce).op (x5.getD x7.toNat 0) 0::[],x5,x6,Zaf .i64 (x7+1))) else none else none else none else none else none else some (Sum.inr (x0,x1,x2,(),x4))
def Zd2 (x:Int×Turn×Turn×Unit×(List Mark)×(List Int)×Int×Int):Option ((Int×Turn×Turn×Unit×(List Mark)×(List Int)×Int×Int)⊕((Int×Turn×Turn×Unit×(List Mark)))):=Zd6 x.1 x.2.1 x.2.2.1 x.2.2.2.1 x.2.2.2.2.1 x.2.2.2.2.2.1 x.2.2.2.2.2.2.1 x.2.2.2.2.2.2.2
def Zhk (x:Int×Turn×Turn×Unit×(List Mark)×(List Int)×Int×Int):Option ((Int×Turn×Turn×Unit×(List Mark))):=Zay Zd2 x
def Zjn (x0:Turn) (x1:Int):Option Turn := bif fewB x0.log.length then match Zke (x0.th.batch,x1,x0.c.lo,x0.c.hi) with
 | some y1 => match Zhk (x1,x0,Turn.mk (Config.mk 0 0 0 0 0 0 0 0 false 0 0 0) 0 0 (Memo.mk ([]:List Int) ([]:List (List Entry))) (Thread.mk 0 0 (Op.mk 0 0) ([]:List Entry) ([]:List Kid) ([]:List Int) 0 0 0 0 0 0 0 0 0 0) (Tape.mk ([]:List Int) 0) ([]:List Mark) false,(),x0.log,y1,(↑(List.length y1):Int),0) with
  | some y2 => match Zdk { y2.snd.fst with th:={ y2.snd.fst.th with at_:=0,x:=y2.fst },log:=y2.snd.snd.snd.snd } with
   | some y3 => some y3
   | none=>none
  | none=>none
 | none=>none else none
def ZdS (x:Turn×Int):Option Turn:=Zjn x.1 x.2
def ZlA (x0:Turn):Option Turn := match Zdz (x0.c,x0.th.item) with
 | some y1 => match ZcV (x0.m,y1,x0.th.x,x0.th.y) with
  | some y2 => bif y2.snd.snd != 0 then some (x0) else bif y2.snd.fst then match ZdS ({ x0 with m:=y2.fst },x0.th.x) with
   | some y3 => some y3
   | none=>none else bif decide (x0.th.width<x0.c.width) then some ({ x0 with th:={ x0.th with phase:=2,width:=if x0.c.width<Zaf .i64 (x0.th.width*2) then x0.c.width else Zaf .i64 (x0.th.width*2) } }) else some ({ x0 with th:={ x0.th with phase:=2,width:=if x0.c.width<x0.th.width then x0.c.width else x0.th.width } })
  | none=>none
 | none=>none
def Zho (x:Turn):Option Turn:=ZlA x
def Zk8 (x0:Turn):Option (Turn×Bool) := bif x0.th.phase == 3 then match Zho x0 with
 | some y1 => some ((y1,true))
 | none=>none else bif x0.th.phase != 2 then bif x0.th.phase != 25 then some ((x0,false)) else match Zdz (x0.c,x0.th.item) with
   | some y1 => match Zcs (x0.m,y1) with
    | some y2 => match Zfc (x0.th.batch,y2.fst,x0.c.lo,x0.c.hi) with
     | some y3 => bif y2.snd != 0 then some ((x0,true)) else bif y2.fst == y2.fst && (y3 == y2.fst && true) then match ZdS (x0,y2.fst) with
       | some y4 => some ((y4,true))
       | none=>none else bif x0.th.phase == 25 then match ZcC x0 with
        | some y4 => some ((y4,true))
        | none=>none else some (({ x0 with th:={ x0.th with phase:=3,x:=y2.fst,y:=y3 } },true))
     | none=>none
    | none=>none
   | none=>none else match Zdz (x0.c,x0.th.item) with
  | some y1 => match Zcs (x0.m,y1) with
   | some y2 => match Zfc (x0.th.batch,y2.fst,x0.c.lo,x0.c.hi) with
    | some y3 => bif y2.snd != 0 then some ((x0,true)) else bif y2.fst == y2.fst && (y3 == y2.fst && true) then match ZdS (x0,y2.fst) with
      | some y4 => some ((y4,true))
      | none=>none else bif x0.th.phase == 25 then match ZcC x0 with
       | some y4 => some ((y4,true))
       | none=>none else some (({ x0 with th:={ x0.th with phase:=3,x:=y2.fst,y:=y3 } },true))
    | none=>none
   | none=>none
  | none=>none
def Zlv (x:Turn):Option (Turn×Bool):=Zk8 x
def Znl (x0:Tape) (x1:Int):Option (Int×Tape) := bif decide (x1<1) then some ((0,x0)) else match Zn5 x0 with
 | some y1 => bif decide (x1=0) then none else bif decide (Int.tmod y1.fst x1<0) then some ((Zaf .i64 (Int.tmod y1.fst x1+x1),y1.snd)) else some ((Int.tmod y1.fst x1,y1.snd))
 | none=>none
def ZmC (x:Tape×Int):Option (Int×Tape):=Znl x.1 x.2
def Zei (x0:Turn):Option (Turn×Bool) := match Zkn (x0.th.item,x0.th.layer) with
 | some y1 => bif x0.th.phase == 17 then match Zjj (x0.m,x0.t,x0.th.batch) with
  | some y2 => bif y2.snd == 0 then some (({ x0 with m:=y2.fst,th:={ x0.th with phase:=18 } },true)) else some ((x0,true))
  | none=>none else bif x0.th.phase == 18 then match Zcb ((x0,y1),x0.t) with
   | some y2 => match Zck (x0.m,y2,y1) with
    | some y3 => bif y3.snd == 0 then some (({ x0 with m:=y3.fst,th:={ x0.th with phase:=19 } },true)) else some ((x0,true))
    | none=>none
   | none=>none else bif x0.th.phase == 19 then match ZmC (x0.tape,x0.th.width) with
    | some y2 => match Zmm (x0.c,x0.th.item,x0.th.layer,y2.fst) with
     | some y3 => match Zon (x0.m,y3,Zaf .i64 (x0.t+1)) with
      | some y4 => bif y4.snd.snd != 0 then some ((x0,true)) else bif decide (y4.snd.fst<1) then some (({ x0 with m:=y4.fst,th:={ x0.th with phase:=23,left:=x0.c.spin },tape:=y2.snd },true)) else bif decide (y4.snd.fst>x0.c.threads) then some (({ x0 with m:=y4.fst,th:={ x0.th with phase:=23,left:=x0.c.spin },tape:=y2.snd },true)) else bif y4.snd.fst == Zaf .i64 (x0.t+1) then some (({ x0 with m:=y4.fst,th:={ x0.th with phase:=23,left:=x0.c.spin },tape:=y2.snd },true)) else some (({ x0 with m:=y4.fst,th:={ x0.th with phase:=20,who:=Zaf .i64 (y4.snd.fst-1) },tape:=y2.snd },true))
      | none=>none
     | none=>none
    | none=>none else bif x0.th.phase == 20 then match Zcb ((x0,y1),x0.t) with
     | some y2 => match ZcV (x0.m,y2,y1,0) with
      | some y3 => bif y3.snd.snd != 0 then some ((x0,true)) else bif y3.snd.fst then bif x0.th.phase == 26 then match ZcC { x0 with m:=y3.fst,th:={ x0.th with phase:=21,width:=if x0.th.width.fdiv (2 ^ min (Int.toNat 1) IntKind.i64.bits)>1 then x0.th.width.fdiv (2 ^ min (Int.toNat 1) IntKind.i64.bits) else 1 } } with
          | some y4 => some ((y4,true))
          | none=>none else some (({ x0 with m:=y3.fst,th:={ x0.th with phase:=21 } },true)) else some (({ x0 with m:=y3.fst,th:={ x0.th with phase:=13 } },true))
      | none=>none
     | none=>none else bif x0.th.phase == 21 then match Zcb ((x0,y1),x0.th.who) with
      | some y2 => match ZcV (x0.m,y2,y1,0) with
       | some y3 => bif y3.snd.snd != 0 then some ((x0,true)) else bif y3.snd.fst then bif x0.th.phase == 26 then match ZcC { x0 with m:=y3.fst,th:={ x0.th with phase:=22,width:=if x0.th.width.fdiv (2 ^ min (Int.toNat 1) IntKind.i64.bits)>1 then x0.th.width.fdiv (2 ^ min (Int.toNat 1) IntKind.i64.bits) else 1 } } with
           | some y4 => some ((y4,true))
           | none=>none else some (({ x0 with m:=y3.fst,th:={ x0.th with phase:=22 } },true)) else some (({ x0 with m:=y3.fst,th:={ x0.th with phase:=24 } },true))
       | none=>none
      | none=>none else bif x0.th.phase == 22 then match ZiR (x0.m,x0.th.who) with
       | some y2 => bif y2.snd == 0 then match Zf0 (x0,x0.th.who,y2.fst) with
         | some y3 => some (({ y3 with th:={ y3.th with phase:=25 } },true))
         | none=>none else some ((x0,true))
       | none=>none else bif x0.th.phase == 23 then match Zcb ((x0,y1),x0.t) with
        | some y2 => match Zcs (x0.m,y2) with
         | some y3 => bif y3.snd != 0 then some ((x0,true)) else bif y3.fst != y1 then some (({ x0 with th:={ x0.th with phase:=13 } },true)) else bif decide (x0.th.left>0) then match ZdV x0 with
            | some y4 => bif !y4 then some (({ x0 with th:={ x0.th with left:=Zaf .i64 (x0.th.left-1) } },true)) else some (({ x0 with th:={ x0.th with phase:=26 } },true))
            | none=>none else some (({ x0 with th:={ x0.th with phase:=26 } },true))
         | none=>none
        | none=>none else bif x0.th.phase == 24 then match Zcb ((x0,y1),x0.t) with
         | some y2 => match Zck (x0.m,y2,y1) with
          | some y3 => bif y3.snd == 0 then some (({ x0 with m:=y3.fst,th:={ x0.th with phase:=23,left:=x0.c.spin } },true)) else some ((x0,true))
          | none=>none
         | none=>none else bif x0.th.phase == 26 then match Zcb ((x0,y1),x0.t) with
          | some y2 => match ZcV (x0.m,y2,y1,0) with
           | some y3 => bif y3.snd.snd != 0 then some ((x0,true)) else bif y3.snd.fst then bif x0.th.phase == 26 then match ZcC { x0 with m:=y3.fst,th:={ x0.th with phase:=26,width:=if x0.th.width.fdiv (2 ^ min (Int.toNat 1) IntKind.i64.bits)>1 then x0.th.width.fdiv (2 ^ min (Int.toNat 1) IntKind.i64.bits) else 1 } } with
             | some y4 => some ((y4,true))
             | none=>none else some (({ x0 with m:=y3.fst,th:={ x0.th with phase:=26 } },true)) else some (({ x0 with m:=y3.fst,th:={ x0.th with phase:=13 } },true))
           | none=>none
          | none=>none else some ((x0,false))
 | none=>none
def Zjx (x:Turn):Option (Turn×Bool):=Zei x
def ZjZ (x0:Turn):Option Turn := match ZbE x0.th with
 | some y1 => bif !y1 then some (x0) else match Zja { x0 with log:=([]:List Mark),done:=false } with
  | some y2 => bif !y2.snd then match Zmo { x0 with log:=([]:List Mark),done:=false } with
   | some y3 => bif !y3.snd then match Zlv { x0 with log:=([]:List Mark),done:=false } with
    | some y4 => bif !y4.snd then match Zmx { x0 with log:=([]:List Mark),done:=false } with
     | some y5 => bif !y5.snd then match ZkY { x0 with log:=([]:List Mark),done:=false } with
      | some y6 => bif !y6.snd then match Zjx { x0 with log:=([]:List Mark),done:=false } with
       | some y7 => bif !y7.snd then some ({ x0 with log:=([]:List Mark),done:=false }) else some (y7.fst)
       | none=>none else some (y6.fst)
      | none=>none else some (y5.fst)
     | none=>none else some (y4.fst)
    | none=>none else some (y3.fst)
   | none=>none else some (y2.fst)
  | none=>none
 | none=>none
def ZcL (x:Turn):Option Turn:=ZjZ x
def Zsm (x0:Int) (x1:Turn) (x2:Turn):Option ((Int×Turn×Turn)⊕((Turn×Turn))) := bif decide (x0>0) then match ZbE x1.th with
 | some y1 => bif y1 then match ZcL x1 with
  | some y2 => bif y2.done then some (Sum.inr (y2,x2)) else some (Sum.inl (Zaf .i64 (x0-1),y2,x2))
  | none=>none else some (Sum.inr (x1,x2))
 | none=>none else some (Sum.inr (x1,x2))
def Zil (x:Int×Turn×Turn):Option ((Int×Turn×Turn)⊕((Turn×Turn))):=Zsm x.1 x.2.1 x.2.2
def Zr6 (x:Int×Turn×Turn):Option (Turn×Turn):=Zay Zil x
def Zt2 (x0:Turn) (x1:Int):Option Turn := match Zr6 (x1,x0,Turn.mk (Config.mk 0 0 0 0 0 0 0 0 false 0 0 0) 0 0 (Memo.mk ([]:List Int) ([]:List (List Entry))) (Thread.mk 0 0 (Op.mk 0 0) ([]:List Entry) ([]:List Kid) ([]:List Int) 0 0 0 0 0 0 0 0 0 0) (Tape.mk ([]:List Int) 0) ([]:List Mark) false) with
 | some y1 => some (y1.fst)
 | none=>none
def ZcZ (x:Turn×Int):Option Turn:=Zt2 x.1 x.2
def Zu5:Option Bool := match Zd1 (Config.mk 2 1 2 2 0 1 0 0 false 0 0 5) with
 | some y1 => match Zew () with
  | some y2 => match Zc2 (Config.mk 2 1 2 2 0 1 0 0 false 0 0 5,1,y2,0,Op.mk 1 3,0) with
   | some y3 => match ZcZ (Turn.mk (Config.mk 2 1 2 2 0 1 0 0 false 0 0 5) 1 0 y1 y3 (Tape.mk ([]:List Int) 0) ([]:List Mark) false,100) with
    | some y4 => match ZcL (Turn.mk (Config.mk 2 1 2 2 0 1 0 0 false 0 0 5) 1 0 y1 y3 (Tape.mk ([]:List Int) 0) ([]:List Mark) false) with
     | some y5 => bif y4.done then bif y4.th.x == 5 then bif (↑y4.m.words.length:Int) == 8 then bif decide (0<(↑y4.m.words.length:Int)) then bif y4.m.words.getD (Int.toNat 0) 0 == 8 then match ZbE y4.th with
      | some y6 => bif !y6 then bif (↑y4.log.length:Int) == 1 then bif y5.th.phase == 4 then match Zgf (Turn.mk (Config.mk 2 1 2 2 0 1 0 0 false 0 0 5) 1 0 y1 y3 (Tape.mk ([]:List Int) 0) ([]:List Mark) false) with
       | some y7 => bif y7.th.phase == 4 then some (!y5.done) else some (false)
       | none=>none else some (false) else some (false) else some (false)
      | none=>none else some (false) else none else some (false) else some (false) else some (false)
     | none=>none
    | none=>none
   | none=>none
  | none=>none
 | none=>none
def Zbt (x:Unit):Option Bool:=Zu5
def Zqg (x0:Turn) (x1:Int):Option Bool := match Zox x0 with
 | some y1 => bif y1 then match Zbt () with
  | some y2 => some y2
  | none=>none else match Zn3 x0 with
  | some y2 => bif !y2 then match Zbt () with
   | some y3 => some y3
   | none=>none else bif decide (x1>1000) then match Zbt () with
    | some y3 => some y3
    | none=>none else match Zbt () with
    | some y3 => bif !y3 then match Zbt () with
     | some y4 => some y4
     | none=>none else match ZcL { x0 with th:={ x0.th with phase:=0 } } with
     | some y4 => match Zhu y4 with
      | some y5 => match Zhu { x0 with th:={ x0.th with phase:=0 } } with
       | some y6 => match ZkR (y5,y6) with
        | some y7 => bif y7 then match ZcZ ({ x0 with th:={ x0.th with phase:=0 } },x1) with
         | some y8 => match Zhu y8 with
          | some y9 => match Zhu { x0 with th:={ x0.th with phase:=0 } } with
           | some y10 => match ZkR (y9,y10) with
            | some y11 => some y11
            | none=>none
           | none=>none
          | none=>none
         | none=>none else some (false)
        | none=>none
       | none=>none
      | none=>none
     | none=>none
    | none=>none
  | none=>none
 | none=>none
def Zqf (x:Turn×Int):Option Bool:=Zqg x.1 x.2
def Zqh (x0:Config) (x1:Int) (x2:Int) (x3:Op):Option Bool := match Zdc { x0 with backend:=1 } with
 | some y1 => bif y1 != 0 then match Zbt () with
  | some y2 => some y2
  | none=>none else match Zbt () with
  | some y2 => bif !y2 then match Zbt () with
   | some y3 => some y3
   | none=>none else bif decide (x0.threads=0) then none else bif decide (x0.items=0) then none else match ZcH (x3,x0.init,x0.lo,x0.hi) with
    | some y3 => bif y3.fst == x0.init then match Zd1 { x0 with backend:=1 } with
     | some y4 => match Zew () with
      | some y5 => match Zc2 ({ x0 with backend:=1 },(IntKind.i64.wrap x1).tmod x0.threads,y5,(IntKind.i64.wrap x2).tmod x0.items,x3,0) with
       | some y6 => match ZcZ (Turn.mk { x0 with backend:=1 } ((IntKind.i64.wrap x1).tmod x0.threads) 0 y4 y6 (Tape.mk ([]:List Int) 0) ([]:List Mark) false,Zaf .i64 (2-1)) with
        | some y7 => match ZcZ (Turn.mk { x0 with backend:=1 } ((IntKind.i64.wrap x1).tmod x0.threads) 0 y4 y6 (Tape.mk ([]:List Int) 0) ([]:List Mark) false,2) with
         | some y8 => bif !y7.done then bif (↑y7.log.length:Int) == 0 then bif y8.done then bif (↑y8.log.length:Int) == 1 then bif (↑y8.th.held.length:Int) == 0 then bif (↑y8.th.kids.length:Int) == 0 then some (y8.th.layer == 0) else some (false) else some (false) else some (false) else some (false) else some (false) else some (false)
         | none=>none
        | none=>none
       | none=>none
      | none=>none
     | none=>none else match Zd1 { x0 with backend:=1 } with
     | some y4 => match Zew () with
      | some y5 => match Zc2 ({ x0 with backend:=1 },(IntKind.i64.wrap x1).tmod x0.threads,y5,(IntKind.i64.wrap x2).tmod x0.items,x3,0) with
       | some y6 => match ZcZ (Turn.mk { x0 with backend:=1 } ((IntKind.i64.wrap x1).tmod x0.threads) 0 y4 y6 (Tape.mk ([]:List Int) 0) ([]:List Mark) false,Zaf .i64 (3-1)) with
        | some y7 => match ZcZ (Turn.mk { x0 with backend:=1 } ((IntKind.i64.wrap x1).tmod x0.threads) 0 y4 y6 (Tape.mk ([]:List Int) 0) ([]:List Mark) false,3) with
         | some y8 => bif !y7.done then bif (↑y7.log.length:Int) == 0 then bif y8.done then bif (↑y8.log.length:Int) == 1 then bif (↑y8.th.held.length:Int) == 0 then bif (↑y8.th.kids.length:Int) == 0 then some (y8.th.layer == 0) else some (false) else some (false) else some (false) else some (false) else some (false) else some (false)
         | none=>none
        | none=>none
       | none=>none
      | none=>none
     | none=>none
    | none=>none
  | none=>none
 | none=>none
def Zqd (x:Config×Int×Int×Op):Option Bool:=Zqh x.1 x.2.1 x.2.2.1 x.2.2.2
def Zqc (x0:Turn):Option Bool := match Zox x0 with
 | some y1 => bif y1 then match Zbt () with
  | some y2 => some y2
  | none=>none else match ZnJ x0 with
  | some y2 => bif !y2 then match Zbt () with
   | some y3 => some y3
   | none=>none else bif (↑x0.th.batch.length:Int) == 0 then match Zbt () with
    | some y3 => some y3
    | none=>none else match Zbt () with
    | some y3 => bif !y3 then match Zbt () with
     | some y4 => some y4
     | none=>none else match ZcL x0 with
     | some y4 => bif x0.th.phase == 0 then some ((↑y4.log.length:Int) == (↑x0.log.length:Int)) else bif x0.th.phase == 2 then bif y4.th.phase == 15 then bif decide ((↑y4.log.length:Int)>0) == true then bif (↑y4.log.length:Int) == 0 then bif !y4.done then some (true) else some (y4.th.phase == 0) else bif (↑y4.log.length:Int) == (↑x0.th.batch.length:Int) then bif !y4.done then some (true) else some (y4.th.phase == 0) else some (false) else some (false) else bif decide ((↑y4.log.length:Int)>0) == (y4.th.phase == 0) then bif (↑y4.log.length:Int) == 0 then bif !y4.done then some (true) else some (y4.th.phase == 0) else bif (↑y4.log.length:Int) == (↑x0.th.batch.length:Int) then bif !y4.done then some (true) else some (y4.th.phase == 0) else some (false) else some (false) else bif x0.th.phase == 3 then bif y4.th.phase == 15 then bif decide ((↑y4.log.length:Int)>0) == true then bif (↑y4.log.length:Int) == 0 then bif !y4.done then some (true) else some (y4.th.phase == 0) else bif (↑y4.log.length:Int) == (↑x0.th.batch.length:Int) then bif !y4.done then some (true) else some (y4.th.phase == 0) else some (false) else some (false) else bif decide ((↑y4.log.length:Int)>0) == (y4.th.phase == 0) then bif (↑y4.log.length:Int) == 0 then bif !y4.done then some (true) else some (y4.th.phase == 0) else bif (↑y4.log.length:Int) == (↑x0.th.batch.length:Int) then bif !y4.done then some (true) else some (y4.th.phase == 0) else some (false) else some (false) else bif y4.th.phase == 15 then bif x0.th.phase == 25 then bif decide ((↑y4.log.length:Int)>0) == true then bif (↑y4.log.length:Int) == 0 then bif !y4.done then some (true) else some (y4.th.phase == 0) else bif (↑y4.log.length:Int) == (↑x0.th.batch.length:Int) then bif !y4.done then some (true) else some (y4.th.phase == 0) else some (false) else some (false) else bif decide ((↑y4.log.length:Int)>0) == false then bif (↑y4.log.length:Int) == 0 then bif !y4.done then some (true) else some (y4.th.phase == 0) else bif (↑y4.log.length:Int) == (↑x0.th.batch.length:Int) then bif !y4.done then some (true) else some (y4.th.phase == 0) else some (false) else some (false) else bif x0.th.phase == 25 then bif decide ((↑y4.log.length:Int)>0) == (y4.th.phase == 0) then bif (↑y4.log.length:Int) == 0 then bif !y4.done then some (true) else some (y4.th.phase == 0) else bif (↑y4.log.length:Int) == (↑x0.th.batch.length:Int) then bif !y4.done then some (true) else some (y4.th.phase == 0) else some (false) else some (false) else bif decide ((↑y4.log.length:Int)>0) == false then bif (↑y4.log.length:Int) == 0 then bif !y4.done then some (true) else some (y4.th.phase == 0) else bif (↑y4.log.length:Int) == (↑x0.th.batch.length:Int) then bif !y4.done then some (true) else some (y4.th.phase == 0) else some (false) else some (false)
     | none=>none
    | none=>none
  | none=>none
 | none=>none
def Zqi (x:Turn):Option Bool:=Zqc x
def Znx (x0:Config) (x1:Config) (x2:Int) (x3:Int) (x4:Turn) (x5:Int) (x6:Int) (x7:Int):Option ((Config×Config×Int×Int×Turn×Int×Int×Int)⊕((Config×Config×Int×Int×Turn×Int×Int)⊕(Bool))) := match Zdf x1 with
 | some y1 => bif decide (x7<=y1) then match ZdD (x1,x6,x7) with
  | some y2 => bif decide (0<=y2) then bif decide (y2<(↑x4.m.words.length:Int)) then bif x4.m.words.getD (Int.toNat y2) 0 != 0 then some (Sum.inr (Sum.inr false)) else some (Sum.inl (x0,x1,x2,x3,x4,x5,x6,Zaf .i64 (x7+1))) else none else none
  | none=>none else some (Sum.inr (Sum.inl (x0,x1,x2,x3,x4,x5,x6)))
 | none=>none
def Znu (x:Config×Config×Int×Int×Turn×Int×Int×Int):Option ((Config×Config×Int×Int×Turn×Int×Int×Int)⊕((Config×Config×Int×Int×Turn×Int×Int)⊕(Bool))):=Znx x.1 x.2.1 x.2.2.1 x.2.2.2.1 x.2.2.2.2.1 x.2.2.2.2.2.1 x.2.2.2.2.2.2.1 x.2.2.2.2.2.2.2
def Zhg (x:Config×Config×Int×Int×Turn×Int×Int×Int):Option ((Config×Config×Int×Int×Turn×Int×Int)⊕(Bool)):=Zay Znu x
def Znw (x0:Config) (x1:Config) (x2:Int) (x3:Int) (x4:Turn) (x5:Int) (x6:Int):Option ((Config×Config×Int×Int×Turn×Int×Int)⊕((Config×Int×Turn)⊕(Bool))) := bif decide (x6<x0.items) then bif x6 == x3 then match ZdC (x1,x6) with
 | some y1 => bif decide (0<=y1) then bif decide (y1<(↑x4.m.words.length:Int)) then bif x4.m.words.getD (Int.toNat y1) 0 != x5 then some (Sum.inr (Sum.inr false)) else match Zhg (x0,x1,x2,x3,x4,x5,x6,1) with
  | some (.inl y2) => some (Sum.inl (y2.fst,y2.snd.fst,y2.snd.snd.fst,y2.snd.snd.snd.fst,y2.snd.snd.snd.snd.fst,y2.snd.snd.snd.snd.snd.fst,Zaf .i64 (y2.snd.snd.snd.snd.snd.snd+1)))
  | some (.inr y3) => some (Sum.inr (Sum.inr y3))
  | none=>none else none else none
 | none=>none else match ZdC (x1,x6) with
 | some y1 => bif decide (0<=y1) then bif decide (y1<(↑x4.m.words.length:Int)) then bif x4.m.words.getD (Int.toNat y1) 0 != x0.init then some (Sum.inr (Sum.inr false)) else match Zhg (x0,x1,x2,x3,x4,x5,x6,1) with
  | some (.inl y2) => some (Sum.inl (y2.fst,y2.snd.fst,y2.snd.snd.fst,y2.snd.snd.snd.fst,y2.snd.snd.snd.snd.fst,y2.snd.snd.snd.snd.snd.fst,Zaf .i64 (y2.snd.snd.snd.snd.snd.snd+1)))
  | some (.inr y3) => some (Sum.inr (Sum.inr y3))
  | none=>none else none else none
 | none=>none else some (Sum.inr (Sum.inl (x1,x2,x4)))
def Znv (x:Config×Config×Int×Int×Turn×Int×Int):Option ((Config×Config×Int×Int×Turn×Int×Int)⊕((Config×Int×Turn)⊕(Bool))):=Znw x.1 x.2.1 x.2.2.1 x.2.2.2.1 x.2.2.2.2.1 x.2.2.2.2.2.1 x.2.2.2.2.2.2
def Znt (x:Config×Config×Int×Int×Turn×Int×Int):Option ((Config×Int×Turn)⊕(Bool)):=Zay Znv x
def ZpB (x0:Config) (x1:Int) (x2:Int) (x3:Op) (x4:Int):Option Bool := match Zdc x0 with
 | some y1 => bif y1 != 0 then match Zbt () with
  | some y2 => some y2
  | none=>none else match Zkk (x3,x0.bounded) with
  | some y2 => bif !y2 then match Zbt () with
   | some y3 => some y3
   | none=>none else match Zbt () with
   | some y3 => bif !y3 then match Zbt () with
    | some y4 => some y4
    | none=>none else bif decide (x0.threads=0) then none else bif decide (x0.items=0) then none else match Zd1 x0 with
     | some y4 => match Zew () with
      | some y5 => match Zc2 (x0,(IntKind.i64.wrap x1).tmod x0.threads,y5,(IntKind.i64.wrap x2).tmod x0.items,x3,IntKind.i64.wrap x4) with
       | some y6 => match Zo3 x0 with
        | some y7 => match ZcZ (Turn.mk x0 ((IntKind.i64.wrap x1).tmod x0.threads) (IntKind.i64.wrap x4) y4 y6 (Tape.mk ([]:List Int) 0) ([]:List Mark) false,y7) with
         | some y8 => match ZcH (x3,x0.init,x0.lo,x0.hi) with
          | some y9 => bif !y8.done then some (false) else match ZbE y8.th with
           | some y10 => bif y10 then some (false) else bif y8.th.x != x0.init then some (false) else match Zfk x0 with
            | some y11 => bif (↑y8.m.words.length:Int) != y11 then some (false) else bif (↑y8.log.length:Int) != 1 then some (false) else bif decide (0<(↑y8.log.length:Int)) then bif !((y8.log.getD (Int.toNat 0) Za4).t == (IntKind.i64.wrap x1).tmod x0.threads && ((y8.log.getD (Int.toNat 0) Za4).item == (IntKind.i64.wrap x2).tmod x0.items && ((y8.log.getD (Int.toNat 0) Za4).op.tag == x3.tag && ((y8.log.getD (Int.toNat 0) Za4).op.v == x3.v && true) && ((y8.log.getD (Int.toNat 0) Za4).prior == x0.init && ((y8.log.getD (Int.toNat 0) Za4).step == 0 && true))))) then some (false) else match Znt (x0,x0,(IntKind.i64.wrap x1).tmod x0.threads,(IntKind.i64.wrap x2).tmod x0.items,y8,y9.fst,0) with
             | some (.inl y12) => match Zcq (y12.fst,y12.snd.fst) with
              | some y13 => bif decide (0<=y13) then bif decide (y13<(↑y12.snd.snd.m.words.length:Int)) then some (y12.snd.snd.m.words.getD (Int.toNat y13) 0 == 0) else none else none
              | none=>none
             | some (.inr y13) => some y13
             | none=>none else none
            | none=>none
           | none=>none
          | none=>none
         | none=>none
        | none=>none
       | none=>none
      | none=>none
     | none=>none
   | none=>none
  | none=>none
 | none=>none
def Zpw (x:Config×Int×Int×Op×Int):Option Bool:=ZpB x.1 x.2.1 x.2.2.1 x.2.2.2.1 x.2.2.2.2
end Go.Proofs.Mill
