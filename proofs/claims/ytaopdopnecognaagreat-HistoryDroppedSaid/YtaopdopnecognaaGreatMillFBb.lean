/- What the functions compute. -/
import Derived.Test.YtaopdopnecognaaGreatMillAll3
import Derived.Test.YtaopdopnecognaaGreatMillFT2b
namespace Go.Proofs.Mill
set_option linter.all false
noncomputable def ZdL (x0:Int) (x1:Turn) (x2:Turn) (x3:Unit) (x4:List Mark) (x5:List Int) (x6:Int) (x7:Int):Option ((Int×Turn×Turn×Unit×(List Mark)×(List Int)×Int×Int)⊕((Int×Turn×Turn×Unit×(List Mark)))) :=
 bif decide (x7<x6) then
  bif decide ((0:Int)≤x7) then
   bif decide (x7<(↑x5.length:Int)) then
    bif decide ((0:Int)≤x7) then
     bif decide (x7<(↑x1.th.batch.length:Int)) then
      bif fewB (x4.length+(Mark.mk (x1.th.batch.getD x7.toNat Ziw).t x1.th.item (x1.th.batch.getD x7.toNat Ziw).op (x5.getD x7.toNat (0:Int)) (0:Int)::([]:List Mark)).length) then
       some (Sum.inl (x0,x1,x2,(),x4++Mark.mk (x1.th.batch.getD x7.toNat Ziw).t x1.th.item (x1.th.batch.getD x7.toNat Ziw).op (x5.getD x7.toNat (0:Int)) (0:Int)::([]:List Mark),x5,x6,Zad IntKind.i64 (x7+(1:Int))))
      else
       none
     else
      none
    else
     none
   else
    none
  else
   none
 else
  some (Sum.inr (x0,x1,x2,(),x4))
noncomputable def ZdK (x:Int×Turn×Turn×Unit×(List Mark)×(List Int)×Int×Int):Option ((Int×Turn×Turn×Unit×(List Mark)×(List Int)×Int×Int)⊕((Int×Turn×Turn×Unit×(List Mark)))):=ZdL x.1 x.2.1 x.2.2.1 x.2.2.2.1 x.2.2.2.2.1 x.2.2.2.2.2.1 x.2.2.2.2.2.2.1 x.2.2.2.2.2.2.2
noncomputable def Zge (x:Int×Turn×Turn×Unit×(List Mark)×(List Int)×Int×Int):Option ((Int×Turn×Turn×Unit×(List Mark))):=ZaH ZdK x
noncomputable def Zhz (x0:Turn) (x1:Int):Option (Turn) :=
 bif fewB x0.log.length then
  match ZhJ (x0.th.batch,x1,x0.c.lo,x0.c.hi) with
  | some y1 =>
   match Zge (x1,x0,Turn.mk (Config.mk (0:Int) (0:Int) (0:Int) (0:Int) (0:Int) (0:Int) (0:Int) (0:Int) false (0:Int) (0:Int) (0:Int)) (0:Int) (0:Int) (Memo.mk ([]:List Int) ([]:List (List Entry))) (Thread.mk (0:Int) (0:Int) (Op.mk (0:Int) (0:Int)) ([]:List Entry) ([]:List Kid) ([]:List Int) (0:Int) (0:Int) (0:Int) (0:Int) (0:Int) (0:Int) (0:Int) (0:Int) (0:Int) (0:Int)) (Tape.mk ([]:List Int) (0:Int)) ([]:List Mark) false,(),x0.log,y1,(↑(List.length y1):Int),(0:Int)) with
   | some y2 =>
    match Zc9 { y2.snd.fst with th:={ y2.snd.fst.th with at_:=(0:Int),x:=y2.fst },log:=y2.snd.snd.snd.snd } with
    | some y3 =>
     some (y3)
    | none=>none
   | none=>none
  | none=>none
 else
  none
noncomputable def Zdu (x:Turn×Int):Option (Turn):=Zhz x.1 x.2
noncomputable def Zjh (x0:Turn):Option (Turn) :=
 match ZcA (x0.c,x0.th.item) with
 | some y1 =>
  match ZcK (x0.m,y1,x0.th.x,x0.th.y) with
  | some y2 =>
   bif y2.snd.snd != (0:Int) then
    some (x0)
   else
    bif y2.snd.fst then
     match Zdu ({ x0 with m:=y2.fst },x0.th.x) with
     | some y3 =>
      some (y3)
     | none=>none
    else
     bif decide (x0.th.width<x0.c.width) then
      some ({ x0 with th:={ x0.th with phase:=(2:Int),width:=if x0.c.width<Zad IntKind.i64 (x0.th.width*(2:Int)) then x0.c.width else Zad IntKind.i64 (x0.th.width*(2:Int)) } })
     else
      some ({ x0 with th:={ x0.th with phase:=(2:Int),width:=if x0.c.width<x0.th.width then x0.c.width else x0.th.width } })
  | none=>none
 | none=>none
noncomputable def Zgc (x:Turn):Option (Turn):=Zjh x
noncomputable def Zi2 (x0:Turn):Option (Turn×Bool) :=
 bif x0.th.phase == (3:Int) then
  match Zgc x0 with
  | some y1 =>
   some ((y1,true))
  | none=>none
 else
  bif x0.th.phase != (2:Int) then
   bif x0.th.phase != (25:Int) then
    some ((x0,false))
   else
    match ZcA (x0.c,x0.th.item) with
    | some y1 =>
     match ZbN (x0.m,y1) with
     | some y2 =>
      match Zes (x0.th.batch,y2.fst,x0.c.lo,x0.c.hi) with
      | some y3 =>
       bif y2.snd != (0:Int) then
        some ((x0,true))
       else
        bif y2.fst == y2.fst && (y3 == y2.fst && true) then
         match Zdu (x0,y2.fst) with
         | some y4 =>
          some ((y4,true))
         | none=>none
        else
         bif x0.th.phase == (25:Int) then
          match Zcd x0 with
          | some y4 =>
           some ((y4,true))
          | none=>none
         else
          some (({ x0 with th:={ x0.th with phase:=(3:Int),x:=y2.fst,y:=y3 } },true))
      | none=>none
     | none=>none
    | none=>none
  else
   match ZcA (x0.c,x0.th.item) with
   | some y1 =>
    match ZbN (x0.m,y1) with
    | some y2 =>
     match Zes (x0.th.batch,y2.fst,x0.c.lo,x0.c.hi) with
     | some y3 =>
      bif y2.snd != (0:Int) then
       some ((x0,true))
      else
       bif y2.fst == y2.fst && (y3 == y2.fst && true) then
        match Zdu (x0,y2.fst) with
        | some y4 =>
         some ((y4,true))
        | none=>none
       else
        bif x0.th.phase == (25:Int) then
         match Zcd x0 with
         | some y4 =>
          some ((y4,true))
         | none=>none
        else
         some (({ x0 with th:={ x0.th with phase:=(3:Int),x:=y2.fst,y:=y3 } },true))
     | none=>none
    | none=>none
   | none=>none
noncomputable def ZiK (x:Turn):Option (Turn×Bool):=Zi2 x
noncomputable def ZjF (x0:Tape) (x1:Int):Option (Int×Tape) :=
 bif decide (x1<(1:Int)) then
  some (((0:Int),x0))
 else
  match ZkE x0 with
  | some y1 =>
   bif decide (x1=(0:Int)) then
    none
   else
    bif decide (Int.tmod y1.fst x1<(0:Int)) then
     some ((Zad IntKind.i64 (Int.tmod y1.fst x1+x1),y1.snd))
    else
     some ((Int.tmod y1.fst x1,y1.snd))
  | none=>none
noncomputable def ZjK (x:Tape×Int):Option (Int×Tape):=ZjF x.1 x.2
noncomputable def ZdT (x0:Turn):Option (Turn×Bool) :=
 match Zil (x0.th.item,x0.th.layer) with
 | some y1 =>
  bif x0.th.phase == (17:Int) then
   match Zhr (x0.m,x0.t,x0.th.batch) with
   | some y2 =>
    bif y2.snd == (0:Int) then
     some (({ x0 with m:=y2.fst,th:={ x0.th with phase:=(18:Int) } },true))
    else
     some ((x0,true))
   | none=>none
  else
   bif x0.th.phase == (18:Int) then
    match ZbS ((x0,y1),x0.t) with
    | some y2 =>
     match ZbX (x0.m,y2,y1) with
     | some y3 =>
      bif y3.snd == (0:Int) then
       some (({ x0 with m:=y3.fst,th:={ x0.th with phase:=(19:Int) } },true))
      else
       some ((x0,true))
     | none=>none
    | none=>none
   else
    bif x0.th.phase == (19:Int) then
     match ZjK (x0.tape,x0.th.width) with
     | some y2 =>
      match Zjw (x0.c,x0.th.item,x0.th.layer,y2.fst) with
      | some y3 =>
       match ZkT (x0.m,y3,Zad IntKind.i64 (x0.t+(1:Int))) with
       | some y4 =>
        bif y4.snd.snd != (0:Int) then
         some ((x0,true))
        else
         bif decide (y4.snd.fst<(1:Int)) then
          some (({ x0 with m:=y4.fst,th:={ x0.th with phase:=(23:Int),left:=x0.c.spin },tape:=y2.snd },true))
         else
          bif decide (y4.snd.fst>x0.c.threads) then
           some (({ x0 with m:=y4.fst,th:={ x0.th with phase:=(23:Int),left:=x0.c.spin },tape:=y2.snd },true))
          else
           bif y4.snd.fst == Zad IntKind.i64 (x0.t+(1:Int)) then
            some (({ x0 with m:=y4.fst,th:={ x0.th with phase:=(23:Int),left:=x0.c.spin },tape:=y2.snd },true))
           else
            some (({ x0 with m:=y4.fst,th:={ x0.th with phase:=(20:Int),who:=Zad IntKind.i64 (y4.snd.fst-(1:Int)) },tape:=y2.snd },true))
       | none=>none
      | none=>none
     | none=>none
    else
     bif x0.th.phase == (20:Int) then
      match ZbS ((x0,y1),x0.t) with
      | some y2 =>
       match ZcK (x0.m,y2,y1,(0:Int)) with
       | some y3 =>
        bif y3.snd.snd != (0:Int) then
         some ((x0,true))
        else
         bif y3.snd.fst then
          bif x0.th.phase == (26:Int) then
           match Zcd { x0 with m:=y3.fst,th:={ x0.th with phase:=(21:Int),width:=if x0.th.width.fdiv ((2:Int) ^ min (Int.toNat (1:Int)) IntKind.i64.bits)>(1:Int) then x0.th.width.fdiv ((2:Int) ^ min (Int.toNat (1:Int)) IntKind.i64.bits) else (1:Int) } } with
           | some y4 =>
            some ((y4,true))
           | none=>none
          else
           some (({ x0 with m:=y3.fst,th:={ x0.th with phase:=(21:Int) } },true))
         else
          some (({ x0 with m:=y3.fst,th:={ x0.th with phase:=(13:Int) } },true))
       | none=>none
      | none=>none
     else
      bif x0.th.phase == (21:Int) then
       match ZbS ((x0,y1),x0.th.who) with
       | some y2 =>
        match ZcK (x0.m,y2,y1,(0:Int)) with
        | some y3 =>
         bif y3.snd.snd != (0:Int) then
          some ((x0,true))
         else
          bif y3.snd.fst then
           bif x0.th.phase == (26:Int) then
            match Zcd { x0 with m:=y3.fst,th:={ x0.th with phase:=(22:Int),width:=if x0.th.width.fdiv ((2:Int) ^ min (Int.toNat (1:Int)) IntKind.i64.bits)>(1:Int) then x0.th.width.fdiv ((2:Int) ^ min (Int.toNat (1:Int)) IntKind.i64.bits) else (1:Int) } } with
            | some y4 =>
             some ((y4,true))
            | none=>none
           else
            some (({ x0 with m:=y3.fst,th:={ x0.th with phase:=(22:Int) } },true))
          else
           some (({ x0 with m:=y3.fst,th:={ x0.th with phase:=(24:Int) } },true))
        | none=>none
       | none=>none
      else
       bif x0.th.phase == (22:Int) then
        match ZhA (x0.m,x0.th.who) with
        | some y2 =>
         bif y2.snd == (0:Int) then
          match Zfa (x0,x0.th.who,y2.fst) with
          | some y3 =>
           some (({ y3 with th:={ y3.th with phase:=(25:Int) } },true))
          | none=>none
         else
          some ((x0,true))
        | none=>none
       else
        bif x0.th.phase == (23:Int) then
         match ZbS ((x0,y1),x0.t) with
         | some y2 =>
          match ZbN (x0.m,y2) with
          | some y3 =>
           bif y3.snd != (0:Int) then
            some ((x0,true))
           else
            bif y3.fst != y1 then
             some (({ x0 with th:={ x0.th with phase:=(13:Int) } },true))
            else
             bif decide (x0.th.left>(0:Int)) then
              match ZdA x0 with
              | some y4 =>
               bif !y4 then
                some (({ x0 with th:={ x0.th with left:=Zad IntKind.i64 (x0.th.left-(1:Int)) } },true))
               else
                some (({ x0 with th:={ x0.th with phase:=(26:Int) } },true))
              | none=>none
             else
              some (({ x0 with th:={ x0.th with phase:=(26:Int) } },true))
          | none=>none
         | none=>none
        else
         bif x0.th.phase == (24:Int) then
          match ZbS ((x0,y1),x0.t) with
          | some y2 =>
           match ZbX (x0.m,y2,y1) with
           | some y3 =>
            bif y3.snd == (0:Int) then
             some (({ x0 with m:=y3.fst,th:={ x0.th with phase:=(23:Int),left:=x0.c.spin } },true))
            else
             some ((x0,true))
           | none=>none
          | none=>none
         else
          bif x0.th.phase == (26:Int) then
           match ZbS ((x0,y1),x0.t) with
           | some y2 =>
            match ZcK (x0.m,y2,y1,(0:Int)) with
            | some y3 =>
             bif y3.snd.snd != (0:Int) then
              some ((x0,true))
             else
              bif y3.snd.fst then
               bif x0.th.phase == (26:Int) then
                match Zcd { x0 with m:=y3.fst,th:={ x0.th with phase:=(26:Int),width:=if x0.th.width.fdiv ((2:Int) ^ min (Int.toNat (1:Int)) IntKind.i64.bits)>(1:Int) then x0.th.width.fdiv ((2:Int) ^ min (Int.toNat (1:Int)) IntKind.i64.bits) else (1:Int) } } with
                | some y4 =>
                 some ((y4,true))
                | none=>none
               else
                some (({ x0 with m:=y3.fst,th:={ x0.th with phase:=(26:Int) } },true))
              else
               some (({ x0 with m:=y3.fst,th:={ x0.th with phase:=(13:Int) } },true))
            | none=>none
           | none=>none
          else
           some ((x0,false))
 | none=>none
noncomputable def ZhR (x:Turn):Option (Turn×Bool):=ZdT x
noncomputable def Zh8 (x0:Turn):Option (Turn) :=
 match Zb7 x0.th with
 | some y1 =>
  bif !y1 then
   some (x0)
  else
   match Zhd { x0 with log:=([]:List Mark),done:=false } with
   | some y2 =>
    bif !y2.snd then
     match ZjM { x0 with log:=([]:List Mark),done:=false } with
     | some y3 =>
      bif !y3.snd then
       match ZiK { x0 with log:=([]:List Mark),done:=false } with
       | some y4 =>
        bif !y4.snd then
         match ZjT { x0 with log:=([]:List Mark),done:=false } with
         | some y5 =>
          bif !y5.snd then
           match ZiI { x0 with log:=([]:List Mark),done:=false } with
           | some y6 =>
            bif !y6.snd then
             match ZhR { x0 with log:=([]:List Mark),done:=false } with
             | some y7 =>
              bif !y7.snd then
               some ({ x0 with log:=([]:List Mark),done:=false })
              else
               some (y7.fst)
             | none=>none
            else
             some (y6.fst)
           | none=>none
          else
           some (y5.fst)
         | none=>none
        else
         some (y4.fst)
       | none=>none
      else
       some (y3.fst)
     | none=>none
    else
     some (y2.fst)
   | none=>none
 | none=>none
noncomputable def ZeE (x:Turn):Option (Turn):=Zh8 x
end Go.Proofs.Mill
