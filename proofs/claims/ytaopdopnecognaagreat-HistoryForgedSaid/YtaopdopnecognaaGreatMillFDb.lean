/- What the functions compute. -/
import Derived.Test.YtaopdopnecognaaGreatMillAll3
import Derived.Test.YtaopdopnecognaaGreatMillFCb
import Derived.Test.YtaopdopnecognaaGreatMillFIb
namespace Go.Proofs.Mill
set_option linter.all false
noncomputable def ZmG (x0:Event) (x1:Bool) (e:Event):Option ((Event×Bool)⊕(Empty)) :=
 some (Sum.inl (e,e.kind == (1:Int)))
noncomputable def Zft (x:Event×Bool) (e:Event):Option ((Event×Bool)⊕(Empty)):=ZmG x.1 x.2 e
noncomputable def ZmF (x:((List Event×Int)×(Event×Bool))):Option (Event×Bool):=Zil itEvents Zft x
noncomputable def ZnX (x0:List Event) (x1:Int):Option (Event×Bool) :=
 match ZmF ((x0,x1),Event.mk (0:Int) (0:Int) (0:Int) (Op.mk (0:Int) (0:Int)) (0:Int) false (0:Int),false) with
 | some y1 =>
  bif !y1.snd then
   some ((Event.mk (0:Int) (0:Int) (0:Int) (Op.mk (0:Int) (0:Int)) (0:Int) false (0:Int),false))
  else
   some (y1)
 | none=>none
noncomputable def Zjn (x:(List Event)×Int):Option (Event×Bool):=ZnX x.1 x.2
noncomputable def Zna (x0:Int) (x1:Int) (x2:Int) (x3:List Event) (x4:Int) (x5:Int):Option ((Int×Int×Int×(List Event)×Int×Int)⊕((Int×Int×Int))) :=
 bif decide (x5<x4) then
  bif decide ((0:Int)≤x5) then
   bif decide (x5<(↑x3.length:Int)) then
    bif (x3.getD x5.toNat ZbX).kind == (1:Int) then
     some (Sum.inl (Zae IntKind.i64 (x0+(1:Int)),x1,x2,x3,x4,Zae IntKind.i64 (x5+(1:Int))))
    else
     bif (x3.getD x5.toNat ZbX).kind == (2:Int) then
      some (Sum.inl (x0,Zae IntKind.i64 (x1+(1:Int)),x2,x3,x4,Zae IntKind.i64 (x5+(1:Int))))
     else
      bif (x3.getD x5.toNat ZbX).kind == (3:Int) then
       some (Sum.inl (x0,x1,Zae IntKind.i64 (x2+(1:Int)),x3,x4,Zae IntKind.i64 (x5+(1:Int))))
      else
       some (Sum.inl (x0,x1,x2,x3,x4,Zae IntKind.i64 (x5+(1:Int))))
   else
    none
  else
   none
 else
  some (Sum.inr (x0,x1,x2))
noncomputable def ZfN (x:Int×Int×Int×(List Event)×Int×Int):Option ((Int×Int×Int×(List Event)×Int×Int)⊕((Int×Int×Int))):=Zna x.1 x.2.1 x.2.2.1 x.2.2.2.1 x.2.2.2.2.1 x.2.2.2.2.2
noncomputable def Znz (x:Int×Int×Int×(List Event)×Int×Int):Option ((Int×Int×Int)):=ZaH ZfN x
noncomputable def Zot (x0:List Event):Option (Int×Int×Int) :=
 match Znz ((0:Int),(0:Int),(0:Int),x0,(↑x0.length:Int),(0:Int)) with
 | some y1 =>
  some (y1)
 | none=>none
noncomputable def ZjX (x:(List Event)):Option (Int×Int×Int):=Zot x
noncomputable def Zkz (x0:Int) (x1:Int):Option (Int) :=
 bif decide (x0<x1) then
  some ((-1:Int))
 else
  bif decide (x0>x1) then
   some ((1:Int))
  else
   some ((0:Int))
noncomputable def Zhs (x:Int×Int):Option (Int):=Zkz x.1 x.2
noncomputable def Zct (x0:List Mark) (x1:Unit) (x2:Int):Option (((List Mark)×Unit×Int)⊕((Unit)⊕(Bool))) :=
 bif decide (x2>(0:Int)) then
  bif decide ((0:Int)≤x2) then
   bif decide (x2<(↑x0.length:Int)) then
    bif decide ((0:Int)≤Zae IntKind.i64 (x2-(1:Int))) then
     bif decide (Zae IntKind.i64 (x2-(1:Int))<(↑x0.length:Int)) then
      match Zhs ((x0.getD x2.toNat ZaF).step,(x0.getD (Zae IntKind.i64 (x2-(1:Int))).toNat ZaF).step) with
      | some y1 =>
       bif decide (y1<(0:Int)) then
        some (Sum.inr (Sum.inr false))
       else
        some (Sum.inl (x0,(),Zae IntKind.i64 (x2-(1:Int))))
      | none=>none
     else
      none
    else
     none
   else
    none
  else
   none
 else
  some (Sum.inr (Sum.inl ()))
noncomputable def Zbb (x:(List Mark)×Unit×Int):Option (((List Mark)×Unit×Int)⊕((Unit)⊕(Bool))):=Zct x.1 x.2.1 x.2.2
noncomputable def Zbs (x:(List Mark)×Unit×Int):Option ((Unit)⊕(Bool)):=ZaH Zbb x
noncomputable def ZbB (x0:List Mark) (x1:Unit):Option (Bool) :=
 match Zbs (x0,(),Zae IntKind.i64 ((↑x0.length:Int)-(1:Int))) with
 | some (.inl y1) =>
  some (true)
 | some (.inr y2) =>
  some (y2)
 | none=>none
noncomputable def ZcF (x:(List Mark)×Unit):Option (Bool):=ZbB x.1 x.2
noncomputable def ZiG (x0:Config) (x1:Int) (x2:Bool) (e:Mark):Option ((Config×Int×Bool)⊕(Empty)) :=
 bif x2 then
  match Zcb (e.op,x1,x0.lo,x0.hi) with
  | some y1 =>
   some (Sum.inl (x0,y1.fst,x1 == e.prior))
  | none=>none
 else
  match Zcb (e.op,x1,x0.lo,x0.hi) with
  | some y1 =>
   some (Sum.inl (x0,y1.fst,false))
  | none=>none
noncomputable def Zdt (x:Config×Int×Bool) (e:Mark):Option ((Config×Int×Bool)⊕(Empty)):=ZiG x.1 x.2.1 x.2.2 e
noncomputable def Ziz (x:((List Mark×Int)×(Config×Int×Bool))):Option (Config×Int×Bool):=Zil itReplay Zdt x
noncomputable def ZgT (x0:Config) (x1:List Mark) (x2:Int):Option (Int×Bool) :=
 match Ziz ((x1,x2),x0,x0.init,true) with
 | some y1 =>
  some (y1.snd)
 | none=>none
noncomputable def Zdc (x:Config×(List Mark)×Int):Option (Int×Bool):=ZgT x.1 x.2.1 x.2.2
noncomputable def Zd8 (x0:List Mark) (e:Mark):Option (((List Mark))⊕(Empty)) :=
 bif fewB (x0.length+(e::([]:List Mark)).length) then
  some (Sum.inl (x0++e::([]:List Mark)))
 else
  none
noncomputable def ZbJ (x:(List Mark)) (e:Mark):Option (((List Mark))⊕(Empty)):=Zd8 x e
noncomputable def Zd1 (x:((List Mark×Int)×((List Mark)))):Option ((List Mark)):=Zil itOwn ZbJ x
noncomputable def Zew (x0:Unit) (x1:List Mark×Int):Option ((List Mark)) :=
 match Zd1 (x1,([]:List Mark)) with
 | some y1 =>
  some (y1)
 | none=>none
noncomputable def ZcX (x:Unit×(List Mark×Int)):Option ((List Mark)):=Zew x.1 x.2
noncomputable def Zdk (x0:List Mark×Int):Option ((List Mark)) :=
 match ZcX ((),x0) with
 | some y1 =>
  some (y1)
 | none=>none
noncomputable def Zdf (x:(List Mark×Int)):Option ((List Mark)):=Zdk x
noncomputable def Zj5 (x0:Event):Option (Asked) :=
 some (Asked.mk x0.op x0.item)
noncomputable def ZeG (x:Event):Option (Asked):=Zj5 x
noncomputable def ZfH (x0:Config) (x1:Mark) (x2:Event) (x3:Event):Option (Bool) :=
 match Zcb (x3.op,x3.prior,x0.lo,x0.hi) with
 | some y1 =>
  match ZeG x3 with
  | some y2 =>
   match ZeG x2 with
   | some y3 =>
    bif y2.op.tag == y3.op.tag && (y2.op.v == y3.op.v && true) && (y2.item == y3.item && true) then
     bif y2.op.tag == x1.op.tag && (y2.op.v == x1.op.v && true) && (y2.item == x1.item && true) then
      bif x1.prior == x3.prior then
       bif y1.snd == x3.did then
        bif decide (x2.step<x1.step) then
         some (decide (x1.step≤x3.step))
        else
         some (false)
       else
        some (false)
      else
       some (false)
     else
      some (false)
    else
     some (false)
   | none=>none
  | none=>none
 | none=>none
noncomputable def ZfB (x:Config×Mark×Event×Event):Option (Bool):=ZfH x.1 x.2.1 x.2.2.1 x.2.2.2
noncomputable def Zfq (x0:Config) (x1:Bool) (x2:List Mark) (x3:Event) (x4:Bool) (e:Event):Option ((Config×Bool×(List Mark)×Event×Bool)⊕((Bool))) :=
 bif x4 == (e.kind == (1:Int)) then
  some (Sum.inr false)
 else
  bif !x4 then
   some (Sum.inl (x0,x1,x2,e,!x4))
  else
   bif (↑x2.length:Int) == (0:Int) then
    some (Sum.inr false)
   else
    bif decide ((0:Int)<(↑x2.length:Int)) then
     match ZfB (x0,x2.getD (Int.toNat (0:Int)) ZaF,x3,e) with
     | some y1 =>
      bif !y1 then
       some (Sum.inr false)
      else
       bif decide ((1:Int)≤(↑x2.length:Int)) then
        bif decide ((↑x2.length:Int)≤(↑x2.length:Int)) then
         some (Sum.inl (x0,x1,List.drop (Int.toNat (1:Int)) (List.take (↑x2.length:Int).toNat x2),x3,!x4))
        else
         none
       else
        none
     | none=>none
    else
     none
noncomputable def Zch (x:Config×Bool×(List Mark)×Event×Bool) (e:Event):Option ((Config×Bool×(List Mark)×Event×Bool)⊕((Bool))):=Zfq x.1 x.2.1 x.2.2.1 x.2.2.2.1 x.2.2.2.2 e
noncomputable def ZhL (x:((List Event×Int)×(Config×Bool×(List Mark)×Event×Bool))):Option ((Config×Bool×(List Mark)×Event×Bool)⊕((Bool))):=ZnP itEvents Zch x
noncomputable def Zge (x0:Config) (x1:List Mark) (x2:List Event) (x3:Int):Option (Bool) :=
 match Zdf (x1,x3) with
 | some y1 =>
  match ZhL ((x2,x3),x0,false,y1,Event.mk (0:Int) (0:Int) (0:Int) (Op.mk (0:Int) (0:Int)) (0:Int) false (0:Int),false) with
  | some (.inl y2) =>
   bif (↑(List.length y2.snd.snd.fst):Int) == (0:Int) then
    some (true)
   else
    bif decide ((↑(List.length y2.snd.snd.fst):Int)>(1:Int)) then
     some (false)
    else
     bif !y2.snd.snd.snd.snd then
      some (false)
     else
      bif decide ((0:Int)<(↑(List.length y2.snd.snd.fst):Int)) then
       bif decide ((0:Int)<(↑(List.length y2.snd.snd.fst):Int)) then
        match ZeG y2.snd.snd.snd.fst with
        | some y3 =>
         bif (List.getD y2.snd.snd.fst (Int.toNat (0:Int)) ZaF).op.tag == y3.op.tag && ((List.getD y2.snd.snd.fst (Int.toNat (0:Int)) ZaF).op.v == y3.op.v && true) && ((List.getD y2.snd.snd.fst (Int.toNat (0:Int)) ZaF).item == y3.item && true) then
          bif decide ((0:Int)<(↑(List.length y2.snd.snd.fst):Int)) then
           some (decide (y2.snd.snd.snd.fst.step<(List.getD y2.snd.snd.fst (Int.toNat (0:Int)) ZaF).step))
          else
           none
         else
          some (false)
        | none=>none
       else
        none
      else
       none
  | some (.inr y3) =>
   some (y3)
  | none=>none
 | none=>none
noncomputable def Zc7 (x:Config×(List Mark)×(List Event)×Int):Option (Bool):=Zge x.1 x.2.1 x.2.2.1 x.2.2.2
noncomputable def Zfs (x0:Wld) (x1:Int) (x2:Int):Option ((Wld×Int×Int)⊕((Unit)⊕(Bool))) :=
 bif decide (x2<x1) then
  match Zc7 (x0.c,x0.log,x0.hist,x2) with
  | some y1 =>
   bif !y1 then
    some (Sum.inr (Sum.inr false))
   else
    some (Sum.inl (x0,x1,Zae IntKind.i64 (x2+(1:Int))))
  | none=>none
 else
  some (Sum.inr (Sum.inl ()))
noncomputable def ZcD (x:Wld×Int×Int):Option ((Wld×Int×Int)⊕((Unit)⊕(Bool))):=Zfs x.1 x.2.1 x.2.2
noncomputable def Zfr (x:Wld×Int×Int):Option ((Unit)⊕(Bool)):=ZaH ZcD x
noncomputable def ZfT (x0:Wld) (x1:Int) (x2:Int):Option ((Wld×Int×Int)⊕((Wld)⊕(Bool))) :=
 bif decide (x2<x1) then
  match Zdc (x0.c,x0.log,x2) with
  | some y1 =>
   match ZcG (x0.c,x2) with
   | some y2 =>
    match ZbQ (x0.m,y2) with
    | some y3 =>
     bif !y1.snd then
      some (Sum.inr (Sum.inr false))
     else
      bif y3.snd != (0:Int) then
       some (Sum.inr (Sum.inr false))
      else
       bif y1.fst != y3.fst then
        some (Sum.inr (Sum.inr false))
       else
        some (Sum.inl (x0,x1,Zae IntKind.i64 (x2+(1:Int))))
    | none=>none
   | none=>none
  | none=>none
 else
  some (Sum.inr (Sum.inl x0))
noncomputable def ZcR (x:Wld×Int×Int):Option ((Wld×Int×Int)⊕((Wld)⊕(Bool))):=ZfT x.1 x.2.1 x.2.2
noncomputable def ZfS (x:Wld×Int×Int):Option ((Wld)⊕(Bool)):=ZaH ZcR x
noncomputable def ZcP (x0:Wld):Option (Bool) :=
 match Zdh x0.c with
 | some y1 =>
  bif y1 != (0:Int) then
   some (false)
  else
   match ZcF (x0.log,()) with
   | some y2 =>
    bif !y2 then
     some (false)
    else
     match ZfS (x0,x0.c.items,(0:Int)) with
     | some (.inl y3) =>
      match Zfr (y3,y3.c.threads,(0:Int)) with
      | some (.inl y4) =>
       some (true)
      | some (.inr y5) =>
       some (y5)
      | none=>none
     | some (.inr y4) =>
      some (y4)
     | none=>none
   | none=>none
 | none=>none
noncomputable def ZbH (x:Wld):Option (Bool):=ZcP x
noncomputable def Zmh:Option (Bool) :=
 match Zdc (Config.mk (2:Int) (1:Int) (1:Int) (0:Int) (0:Int) (1:Int) (0:Int) (0:Int) false (0:Int) (0:Int) (5:Int),Mark.mk (1:Int) (0:Int) (Op.mk (1:Int) (3:Int)) (5:Int) (3:Int)::Mark.mk (0:Int) (0:Int) (Op.mk (1:Int) (4:Int)) (8:Int) (4:Int)::([]:List Mark),(0:Int)) with
 | some y1 =>
  match Zjn (Event.mk (1:Int) (1:Int) (0:Int) (Op.mk (1:Int) (3:Int)) (0:Int) false (0:Int)::Event.mk (1:Int) (0:Int) (0:Int) (Op.mk (1:Int) (4:Int)) (0:Int) false (0:Int)::Event.mk (2:Int) (1:Int) (0:Int) (Op.mk (1:Int) (3:Int)) (5:Int) true (3:Int)::([]:List Event),(0:Int)) with
  | some y2 =>
   match ZjX (Event.mk (1:Int) (1:Int) (0:Int) (Op.mk (1:Int) (3:Int)) (0:Int) false (0:Int)::Event.mk (1:Int) (0:Int) (0:Int) (Op.mk (1:Int) (4:Int)) (0:Int) false (0:Int)::Event.mk (2:Int) (1:Int) (0:Int) (Op.mk (1:Int) (3:Int)) (5:Int) true (3:Int)::([]:List Event)) with
   | some y3 =>
    match Zc7 (Config.mk (2:Int) (1:Int) (1:Int) (0:Int) (0:Int) (1:Int) (0:Int) (0:Int) false (0:Int) (0:Int) (5:Int),Mark.mk (1:Int) (0:Int) (Op.mk (1:Int) (3:Int)) (5:Int) (3:Int)::Mark.mk (0:Int) (0:Int) (Op.mk (1:Int) (4:Int)) (8:Int) (4:Int)::([]:List Mark),Event.mk (1:Int) (1:Int) (0:Int) (Op.mk (1:Int) (3:Int)) (0:Int) false (0:Int)::Event.mk (1:Int) (0:Int) (0:Int) (Op.mk (1:Int) (4:Int)) (0:Int) false (0:Int)::Event.mk (2:Int) (1:Int) (0:Int) (Op.mk (1:Int) (3:Int)) (5:Int) true (3:Int)::([]:List Event),(0:Int)) with
    | some y4 =>
     bif y4 then
      match Zc7 (Config.mk (2:Int) (1:Int) (1:Int) (0:Int) (0:Int) (1:Int) (0:Int) (0:Int) false (0:Int) (0:Int) (5:Int),Mark.mk (1:Int) (0:Int) (Op.mk (1:Int) (3:Int)) (5:Int) (3:Int)::Mark.mk (0:Int) (0:Int) (Op.mk (1:Int) (4:Int)) (8:Int) (4:Int)::([]:List Mark),Event.mk (1:Int) (1:Int) (0:Int) (Op.mk (1:Int) (3:Int)) (0:Int) false (0:Int)::Event.mk (1:Int) (0:Int) (0:Int) (Op.mk (1:Int) (4:Int)) (0:Int) false (0:Int)::Event.mk (2:Int) (1:Int) (0:Int) (Op.mk (1:Int) (3:Int)) (5:Int) true (3:Int)::([]:List Event),(1:Int)) with
      | some y5 =>
       match Zdc (Config.mk (2:Int) (1:Int) (1:Int) (0:Int) (0:Int) (1:Int) (0:Int) (0:Int) false (0:Int) (0:Int) (5:Int),(Mark.mk (1:Int) (0:Int) (Op.mk (1:Int) (3:Int)) (5:Int) (3:Int)::Mark.mk (0:Int) (0:Int) (Op.mk (1:Int) (4:Int)) (8:Int) (4:Int)::([]:List Mark)).set (Int.toNat (1:Int)) { (Mark.mk (1:Int) (0:Int) (Op.mk (1:Int) (3:Int)) (5:Int) (3:Int)::Mark.mk (0:Int) (0:Int) (Op.mk (1:Int) (4:Int)) (8:Int) (4:Int)::([]:List Mark)).getD (Int.toNat (1:Int)) ZaF with prior:=(7:Int) },(0:Int)) with
       | some y6 =>
        bif y1.fst == (12:Int) then
         bif y1.snd then
          bif !y6.snd then
           bif y2.snd then
            bif y2.fst.op.v == (4:Int) then
             bif y3.fst == (2:Int) then
              bif y3.snd.fst == (1:Int) then
               bif y3.snd.snd == (0:Int) then
                bif y5 then
                 match Zc7 (Config.mk (2:Int) (1:Int) (1:Int) (0:Int) (0:Int) (1:Int) (0:Int) (0:Int) false (0:Int) (0:Int) (5:Int),List.drop (Int.toNat (0:Int)) (List.take (Int.toNat (0:Int)) ((Mark.mk (1:Int) (0:Int) (Op.mk (1:Int) (3:Int)) (5:Int) (3:Int)::Mark.mk (0:Int) (0:Int) (Op.mk (1:Int) (4:Int)) (8:Int) (4:Int)::([]:List Mark)).set (Int.toNat (1:Int)) { (Mark.mk (1:Int) (0:Int) (Op.mk (1:Int) (3:Int)) (5:Int) (3:Int)::Mark.mk (0:Int) (0:Int) (Op.mk (1:Int) (4:Int)) (8:Int) (4:Int)::([]:List Mark)).getD (Int.toNat (1:Int)) ZaF with prior:=(7:Int) })),Event.mk (1:Int) (1:Int) (0:Int) (Op.mk (1:Int) (3:Int)) (0:Int) false (0:Int)::Event.mk (1:Int) (0:Int) (0:Int) (Op.mk (1:Int) (4:Int)) (0:Int) false (0:Int)::Event.mk (2:Int) (1:Int) (0:Int) (Op.mk (1:Int) (3:Int)) (5:Int) true (3:Int)::([]:List Event),(1:Int)) with
                 | some y7 =>
                  some (!y7)
                 | none=>none
                else
                 some (false)
               else
                some (false)
              else
               some (false)
             else
              some (false)
            else
             some (false)
           else
            some (false)
          else
           some (false)
         else
          some (false)
        else
         some (false)
       | none=>none
      | none=>none
     else
      match Zdc (Config.mk (2:Int) (1:Int) (1:Int) (0:Int) (0:Int) (1:Int) (0:Int) (0:Int) false (0:Int) (0:Int) (5:Int),(Mark.mk (1:Int) (0:Int) (Op.mk (1:Int) (3:Int)) (5:Int) (3:Int)::Mark.mk (0:Int) (0:Int) (Op.mk (1:Int) (4:Int)) (8:Int) (4:Int)::([]:List Mark)).set (Int.toNat (1:Int)) { (Mark.mk (1:Int) (0:Int) (Op.mk (1:Int) (3:Int)) (5:Int) (3:Int)::Mark.mk (0:Int) (0:Int) (Op.mk (1:Int) (4:Int)) (8:Int) (4:Int)::([]:List Mark)).getD (Int.toNat (1:Int)) ZaF with prior:=(7:Int) },(0:Int)) with
      | some y5 =>
       bif y1.fst == (12:Int) then
        bif y1.snd then
         bif !y5.snd then
          bif y2.snd then
           bif y2.fst.op.v == (4:Int) then
            bif y3.fst == (2:Int) then
             bif y3.snd.fst == (1:Int) then
              bif y3.snd.snd == (0:Int) then
               some (false)
              else
               some (false)
             else
              some (false)
            else
             some (false)
           else
            some (false)
          else
           some (false)
         else
          some (false)
        else
         some (false)
       else
        some (false)
      | none=>none
    | none=>none
   | none=>none
  | none=>none
 | none=>none
noncomputable def ZdM (x:Unit):Option (Bool):=Zmh
noncomputable def ZbI (x0:Int) (x1:Int) (x2:Config) (x3:Wld) (x4:List Event) (x5:List Int) (x6:Wld) (x7:Int):Option ((Int×Int×Config×Wld×(List Event)×(List Int)×Wld×Int)⊕((Int×Int×Config×Wld×(List Int))⊕(Bool))) :=
 bif decide (x7<(↑x4.length:Int)) then
  bif decide ((0:Int)≤x7) then
   bif decide (x7<(↑x4.length:Int)) then
    bif (x4.getD x7.toNat ZbX).kind == (2:Int) then
     bif decide ((0:Int)≤x7) then
      bif decide (x7<(↑x4.length:Int)) then
       bif decide ((0:Int)≤x7) then
        bif decide (x7<(↑x4.length:Int)) then
         match ZbH { x6 with hist:=x4.set x7.toNat { x4.getD x7.toNat ZbX with prior:=Zae IntKind.i64 ((x4.getD x7.toNat ZbX).prior+x1) } } with
         | some y1 =>
          bif y1 then
           some (Sum.inr (Sum.inr false))
          else
           some (Sum.inr (Sum.inl (x0,x1,x2,x3,x5)))
         | none=>none
        else
         none
       else
        none
      else
       none
     else
      none
    else
     some (Sum.inl (x0,x1,x2,x3,x4,x5,x6,Zae IntKind.i64 (x7+(1:Int))))
   else
    none
  else
   none
 else
  some (Sum.inr (Sum.inl (x0,x1,x2,x3,x5)))
noncomputable def Zd7 (x:Int×Int×Config×Wld×(List Event)×(List Int)×Wld×Int):Option ((Int×Int×Config×Wld×(List Event)×(List Int)×Wld×Int)⊕((Int×Int×Config×Wld×(List Int))⊕(Bool))):=ZbI x.1 x.2.1 x.2.2.1 x.2.2.2.1 x.2.2.2.2.1 x.2.2.2.2.2.1 x.2.2.2.2.2.2.1 x.2.2.2.2.2.2.2
noncomputable def ZcW (x:Int×Int×Config×Wld×(List Event)×(List Int)×Wld×Int):Option ((Int×Int×Config×Wld×(List Int))⊕(Bool)):=ZaH Zd7 x
noncomputable def ZeR (x0:Config) (x1:List SEntry) (x2:List Int) (x3:Int) (x4:Int):Option (Bool) :=
 bif decide ((↑x1.length:Int)>(400:Int)) then
  match ZdM () with
  | some y1 =>
   some (y1)
  | none=>none
 else
  bif decide ((↑x2.length:Int)>(200:Int)) then
   match ZdM () with
   | some y1 =>
    some (y1)
   | none=>none
  else
   bif x4 == (0:Int) then
    match ZdM () with
    | some y1 =>
     some (y1)
    | none=>none
   else
    match ZdM () with
    | some y1 =>
     bif !y1 then
      match ZdM () with
      | some y2 =>
       some (y2)
      | none=>none
     else
      match Zgw (x0,x1,x2) with
      | some y2 =>
       bif y2.snd.snd != (0:Int) then
        some (y2.snd.snd != (0:Int))
       else
        match ZbH y2.fst with
        | some y3 =>
         bif !y3 then
          some (y2.snd.snd != (0:Int))
         else
          bif fewB ((0:Nat)+y2.fst.log.length) then
           bif fewB ((0:Nat)+y2.fst.hist.length) then
            bif fewB ((0:Nat)+y2.fst.m.words.length) then
             bif decide ((↑y2.fst.log.length:Int)>(0:Int)) then
              bif decide ((↑y2.fst.log.length:Int)=(0:Int)) then
               none
              else
               bif decide ((0:Int)≤(IntKind.i64.wrap x3).tmod (↑y2.fst.log.length:Int)) then
                bif decide ((IntKind.i64.wrap x3).tmod (↑y2.fst.log.length:Int)<(↑y2.fst.log.length:Int)) then
                 bif decide ((0:Int)≤(IntKind.i64.wrap x3).tmod (↑y2.fst.log.length:Int)) then
                  bif decide ((IntKind.i64.wrap x3).tmod (↑y2.fst.log.length:Int)<(↑y2.fst.log.length:Int)) then
                   match ZbH { y2.fst with log:=y2.fst.log.set ((IntKind.i64.wrap x3).tmod (↑y2.fst.log.length:Int)).toNat { y2.fst.log.getD ((IntKind.i64.wrap x3).tmod (↑y2.fst.log.length:Int)).toNat ZaF with prior:=Zae IntKind.i64 ((y2.fst.log.getD ((IntKind.i64.wrap x3).tmod (↑y2.fst.log.length:Int)).toNat ZaF).prior+x4) } } with
                   | some y4 =>
                    bif y4 then
                     some (false)
                    else
                     match ZcW (x3,x4,x0,y2.fst,y2.fst.hist,y2.fst.m.words,y2.fst,(0:Int)) with
                     | some (.inl y5) =>
                      bif decide (y5.snd.snd.fst.items=(0:Int)) then
                       none
                      else
                       match ZfK (y5.snd.snd.fst,(IntKind.i64.wrap y5.fst).tmod y5.snd.snd.fst.items) with
                       | some y6 =>
                        bif decide (y6≥(↑(List.length y5.snd.snd.snd.snd):Int)) then
                         some (false)
                        else
                         bif decide ((0:Int)≤y6) then
                          bif decide (y6<(↑(List.length y5.snd.snd.snd.snd):Int)) then
                           bif decide ((0:Int)≤y6) then
                            bif decide (y6<(↑(List.length y5.snd.snd.snd.snd):Int)) then
                             match ZbH { y5.snd.snd.snd.fst with m:={ y5.snd.snd.snd.fst.m with words:=List.set y5.snd.snd.snd.snd (Int.toNat y6) (Zae IntKind.i64 (List.getD y5.snd.snd.snd.snd (Int.toNat y6) (0:Int)+y5.snd.fst)) } } with
                             | some y7 =>
                              some (!y7)
                             | none=>none
                            else
                             none
                           else
                            none
                          else
                           none
                         else
                          none
                       | none=>none
                     | some (.inr y6) =>
                      some (y6)
                     | none=>none
                   | none=>none
                  else
                   none
                 else
                  none
                else
                 none
               else
                none
             else
              match ZcW (x3,x4,x0,y2.fst,y2.fst.hist,y2.fst.m.words,y2.fst,(0:Int)) with
              | some (.inl y4) =>
               bif decide (y4.snd.snd.fst.items=(0:Int)) then
                none
               else
                match ZfK (y4.snd.snd.fst,(IntKind.i64.wrap y4.fst).tmod y4.snd.snd.fst.items) with
                | some y5 =>
                 bif decide (y5≥(↑(List.length y4.snd.snd.snd.snd):Int)) then
                  some (false)
                 else
                  bif decide ((0:Int)≤y5) then
                   bif decide (y5<(↑(List.length y4.snd.snd.snd.snd):Int)) then
                    bif decide ((0:Int)≤y5) then
                     bif decide (y5<(↑(List.length y4.snd.snd.snd.snd):Int)) then
                      match ZbH { y4.snd.snd.snd.fst with m:={ y4.snd.snd.snd.fst.m with words:=List.set y4.snd.snd.snd.snd (Int.toNat y5) (Zae IntKind.i64 (List.getD y4.snd.snd.snd.snd (Int.toNat y5) (0:Int)+y4.snd.fst)) } } with
                      | some y6 =>
                       some (!y6)
                      | none=>none
                     else
                      none
                    else
                     none
                   else
                    none
                  else
                   none
                | none=>none
              | some (.inr y5) =>
               some (y5)
              | none=>none
            else
             none
           else
            none
          else
           none
        | none=>none
      | none=>none
    | none=>none
noncomputable def Zlt (x:Config×(List SEntry)×(List Int)×Int×Int):Option (Bool):=ZeR x.1 x.2.1 x.2.2.1 x.2.2.2.1 x.2.2.2.2
end Go.Proofs.Mill
