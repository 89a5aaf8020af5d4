/- What the functions compute. -/
import Derived.Test.YtaopdopnecognaaGreatMillAll3
import Derived.Test.YtaopdopnecognaaGreatMillFCb
import Derived.Test.YtaopdopnecognaaGreatMillFIb
namespace Go.Proofs.Mill
set_option linter.all false
noncomputable def Zmu (x0:Event) (x1:Bool) (e:Event):Option ((Event×Bool)⊕(Empty)) :=
 some (Sum.inl (e,e.kind == (1:Int)))
noncomputable def Zea (x:Event×Bool) (e:Event):Option ((Event×Bool)⊕(Empty)):=Zmu x.1 x.2 e
noncomputable def Zfo (x:((List Event×Int)×(Event×Bool))):Option (Event×Bool):=Zii itEvents Zea x
noncomputable def Zgd (x0:List Event) (x1:Int):Option (Event×Bool) :=
 match Zfo ((x0,x1),Event.mk (0:Int) (0:Int) (0:Int) (Op.mk (0:Int) (0:Int)) (0:Int) false (0:Int),false) with
 | some y1 =>
  bif !y1.snd then
   some ((Event.mk (0:Int) (0:Int) (0:Int) (Op.mk (0:Int) (0:Int)) (0:Int) false (0:Int),false))
  else
   some (y1)
 | none=>none
noncomputable def Zev (x:(List Event)×Int):Option (Event×Bool):=Zgd x.1 x.2
noncomputable def ZmO (x0:Int) (x1:Int) (x2:Int) (x3:List Event) (x4:Int) (x5:Int):Option ((Int×Int×Int×(List Event)×Int×Int)⊕((Int×Int×Int))) :=
 bif decide (x5<x4) then
  bif decide ((0:Int)≤x5) then
   bif decide (x5<(↑x3.length:Int)) then
    bif (x3.getD x5.toNat ZeI).kind == (1:Int) then
     some (Sum.inl (Zad IntKind.i64 (x0+(1:Int)),x1,x2,x3,x4,Zad IntKind.i64 (x5+(1:Int))))
    else
     bif (x3.getD x5.toNat ZeI).kind == (2:Int) then
      some (Sum.inl (x0,Zad IntKind.i64 (x1+(1:Int)),x2,x3,x4,Zad IntKind.i64 (x5+(1:Int))))
     else
      bif (x3.getD x5.toNat ZeI).kind == (3:Int) then
       some (Sum.inl (x0,x1,Zad IntKind.i64 (x2+(1:Int)),x3,x4,Zad IntKind.i64 (x5+(1:Int))))
      else
       some (Sum.inl (x0,x1,x2,x3,x4,Zad IntKind.i64 (x5+(1:Int))))
   else
    none
  else
   none
 else
  some (Sum.inr (x0,x1,x2))
noncomputable def Zfy (x:Int×Int×Int×(List Event)×Int×Int):Option ((Int×Int×Int×(List Event)×Int×Int)⊕((Int×Int×Int))):=ZmO x.1 x.2.1 x.2.2.1 x.2.2.2.1 x.2.2.2.2.1 x.2.2.2.2.2
noncomputable def Zmw (x:Int×Int×Int×(List Event)×Int×Int):Option ((Int×Int×Int)):=ZaH Zfy x
noncomputable def Zoj (x0:List Event):Option (Int×Int×Int) :=
 match Zmw ((0:Int),(0:Int),(0:Int),x0,(↑x0.length:Int),(0:Int)) with
 | some y1 =>
  some (y1)
 | none=>none
noncomputable def Zj5 (x:(List Event)):Option (Int×Int×Int):=Zoj x
noncomputable def Zkx (x0:Int) (x1:Int):Option (Int) :=
 bif decide (x0<x1) then
  some ((-1:Int))
 else
  bif decide (x0>x1) then
   some ((1:Int))
  else
   some ((0:Int))
noncomputable def Zg7 (x:Int×Int):Option (Int):=Zkx x.1 x.2
noncomputable def Zcs (x0:List Mark) (x1:Unit) (x2:Int):Option (((List Mark)×Unit×Int)⊕((Unit)⊕(Bool))) :=
 bif decide (x2>(0:Int)) then
  bif decide ((0:Int)≤x2) then
   bif decide (x2<(↑x0.length:Int)) then
    bif decide ((0:Int)≤Zad IntKind.i64 (x2-(1:Int))) then
     bif decide (Zad IntKind.i64 (x2-(1:Int))<(↑x0.length:Int)) then
      match Zg7 ((x0.getD x2.toNat ZaJ).step,(x0.getD (Zad IntKind.i64 (x2-(1:Int))).toNat ZaJ).step) with
      | some y1 =>
       bif decide (y1<(0:Int)) then
        some (Sum.inr (Sum.inr false))
       else
        some (Sum.inl (x0,(),Zad IntKind.i64 (x2-(1:Int))))
      | none=>none
     else
      none
    else
     none
   else
    none
  else
   none
 else
  some (Sum.inr (Sum.inl ()))
noncomputable def Zbb (x:(List Mark)×Unit×Int):Option (((List Mark)×Unit×Int)⊕((Unit)⊕(Bool))):=Zcs x.1 x.2.1 x.2.2
noncomputable def Zbp (x:(List Mark)×Unit×Int):Option ((Unit)⊕(Bool)):=ZaH Zbb x
noncomputable def Zbz (x0:List Mark) (x1:Unit):Option (Bool) :=
 match Zbp (x0,(),Zad IntKind.i64 ((↑x0.length:Int)-(1:Int))) with
 | some (.inl y1) =>
  some (true)
 | some (.inr y2) =>
  some (y2)
 | none=>none
noncomputable def ZcE (x:(List Mark)×Unit):Option (Bool):=Zbz x.1 x.2
noncomputable def Ziy (x0:Config) (x1:Int) (x2:Bool) (e:Mark):Option ((Config×Int×Bool)⊕(Empty)) :=
 bif x2 then
  match Zb6 (e.op,x1,x0.lo,x0.hi) with
  | some y1 =>
   some (Sum.inl (x0,y1.fst,x1 == e.prior))
  | none=>none
 else
  match Zb6 (e.op,x1,x0.lo,x0.hi) with
  | some y1 =>
   some (Sum.inl (x0,y1.fst,false))
  | none=>none
noncomputable def Zdq (x:Config×Int×Bool) (e:Mark):Option ((Config×Int×Bool)⊕(Empty)):=Ziy x.1 x.2.1 x.2.2 e
noncomputable def ZiB (x:((List Mark×Int)×(Config×Int×Bool))):Option (Config×Int×Bool):=Zii itReplay Zdq x
noncomputable def ZgL (x0:Config) (x1:List Mark) (x2:Int):Option (Int×Bool) :=
 match ZiB ((x1,x2),x0,x0.init,true) with
 | some y1 =>
  some (y1.snd)
 | none=>none
noncomputable def Zc8 (x:Config×(List Mark)×Int):Option (Int×Bool):=ZgL x.1 x.2.1 x.2.2
noncomputable def Zd1 (x0:List Mark) (e:Mark):Option (((List Mark))⊕(Empty)) :=
 bif fewB (x0.length+(e::([]:List Mark)).length) then
  some (Sum.inl (x0++e::([]:List Mark)))
 else
  none
noncomputable def ZbF (x:(List Mark)) (e:Mark):Option (((List Mark))⊕(Empty)):=Zd1 x e
noncomputable def ZdY (x:((List Mark×Int)×((List Mark)))):Option ((List Mark)):=Zii itOwn ZbF x
noncomputable def Zel (x0:Unit) (x1:List Mark×Int):Option ((List Mark)) :=
 match ZdY (x1,([]:List Mark)) with
 | some y1 =>
  some (y1)
 | none=>none
noncomputable def ZcT (x:Unit×(List Mark×Int)):Option ((List Mark)):=Zel x.1 x.2
noncomputable def Zc7 (x0:List Mark×Int):Option ((List Mark)) :=
 match ZcT ((),x0) with
 | some y1 =>
  some (y1)
 | none=>none
noncomputable def Zdd (x:(List Mark×Int)):Option ((List Mark)):=Zc7 x
noncomputable def ZjW (x0:Event):Option (Asked) :=
 some (Asked.mk x0.op x0.item)
noncomputable def Zez (x:Event):Option (Asked):=ZjW x
noncomputable def ZfF (x0:Config) (x1:Mark) (x2:Event) (x3:Event):Option (Bool) :=
 match Zb6 (x3.op,x3.prior,x0.lo,x0.hi) with
 | some y1 =>
  match Zez x3 with
  | some y2 =>
   match Zez x2 with
   | some y3 =>
    bif y2.op.tag == y3.op.tag && (y2.op.v == y3.op.v && true) && (y2.item == y3.item && true) then
     bif y2.op.tag == x1.op.tag && (y2.op.v == x1.op.v && true) && (y2.item == x1.item && true) then
      bif x1.prior == x3.prior then
       bif y1.snd == x3.did then
        bif decide (x2.step<x1.step) then
         some (decide (x1.step≤x3.step))
        else
         some (false)
       else
        some (false)
      else
       some (false)
     else
      some (false)
    else
     some (false)
   | none=>none
  | none=>none
 | none=>none
noncomputable def ZfO (x:Config×Mark×Event×Event):Option (Bool):=ZfF x.1 x.2.1 x.2.2.1 x.2.2.2
noncomputable def Zfp (x0:Config) (x1:Bool) (x2:List Mark) (x3:Event) (x4:Bool) (e:Event):Option ((Config×Bool×(List Mark)×Event×Bool)⊕((Bool))) :=
 bif x4 == (e.kind == (1:Int)) then
  some (Sum.inr false)
 else
  bif !x4 then
   some (Sum.inl (x0,x1,x2,e,!x4))
  else
   bif (↑x2.length:Int) == (0:Int) then
    some (Sum.inr false)
   else
    bif decide ((0:Int)<(↑x2.length:Int)) then
     match ZfO (x0,x2.getD (Int.toNat (0:Int)) ZaJ,x3,e) with
     | some y1 =>
      bif !y1 then
       some (Sum.inr false)
      else
       bif decide ((1:Int)≤(↑x2.length:Int)) then
        bif decide ((↑x2.length:Int)≤(↑x2.length:Int)) then
         some (Sum.inl (x0,x1,List.drop (Int.toNat (1:Int)) (List.take (↑x2.length:Int).toNat x2),x3,!x4))
        else
         none
       else
        none
     | none=>none
    else
     none
noncomputable def Zcc (x:Config×Bool×(List Mark)×Event×Bool) (e:Event):Option ((Config×Bool×(List Mark)×Event×Bool)⊕((Bool))):=Zfp x.1 x.2.1 x.2.2.1 x.2.2.2.1 x.2.2.2.2 e
noncomputable def ZhG (x:((List Event×Int)×(Config×Bool×(List Mark)×Event×Bool))):Option ((Config×Bool×(List Mark)×Event×Bool)⊕((Bool))):=Znw itEvents Zcc x
noncomputable def Zgb (x0:Config) (x1:List Mark) (x2:List Event) (x3:Int):Option (Bool) :=
 match Zdd (x1,x3) with
 | some y1 =>
  match ZhG ((x2,x3),x0,false,y1,Event.mk (0:Int) (0:Int) (0:Int) (Op.mk (0:Int) (0:Int)) (0:Int) false (0:Int),false) with
  | some (.inl y2) =>
   bif (↑(List.length y2.snd.snd.fst):Int) == (0:Int) then
    some (true)
   else
    bif decide ((↑(List.length y2.snd.snd.fst):Int)>(1:Int)) then
     some (false)
    else
     bif !y2.snd.snd.snd.snd then
      some (false)
     else
      bif decide ((0:Int)<(↑(List.length y2.snd.snd.fst):Int)) then
       bif decide ((0:Int)<(↑(List.length y2.snd.snd.fst):Int)) then
        match Zez y2.snd.snd.snd.fst with
        | some y3 =>
         bif (List.getD y2.snd.snd.fst (Int.toNat (0:Int)) ZaJ).op.tag == y3.op.tag && ((List.getD y2.snd.snd.fst (Int.toNat (0:Int)) ZaJ).op.v == y3.op.v && true) && ((List.getD y2.snd.snd.fst (Int.toNat (0:Int)) ZaJ).item == y3.item && true) then
          bif decide ((0:Int)<(↑(List.length y2.snd.snd.fst):Int)) then
           some (decide (y2.snd.snd.snd.fst.step<(List.getD y2.snd.snd.fst (Int.toNat (0:Int)) ZaJ).step))
          else
           none
         else
          some (false)
        | none=>none
       else
        none
      else
       none
  | some (.inr y3) =>
   some (y3)
  | none=>none
 | none=>none
noncomputable def Zc0 (x:Config×(List Mark)×(List Event)×Int):Option (Bool):=Zgb x.1 x.2.1 x.2.2.1 x.2.2.2
noncomputable def Zfn (x0:Wld) (x1:Int) (x2:Int):Option ((Wld×Int×Int)⊕((Unit)⊕(Bool))) :=
 bif decide (x2<x1) then
  match Zc0 (x0.c,x0.log,x0.hist,x2) with
  | some y1 =>
   bif !y1 then
    some (Sum.inr (Sum.inr false))
   else
    some (Sum.inl (x0,x1,Zad IntKind.i64 (x2+(1:Int))))
  | none=>none
 else
  some (Sum.inr (Sum.inl ()))
noncomputable def Zcz (x:Wld×Int×Int):Option ((Wld×Int×Int)⊕((Unit)⊕(Bool))):=Zfn x.1 x.2.1 x.2.2
noncomputable def Zfq (x:Wld×Int×Int):Option ((Unit)⊕(Bool)):=ZaH Zcz x
noncomputable def ZfH (x0:Wld) (x1:Int) (x2:Int):Option ((Wld×Int×Int)⊕((Wld)⊕(Bool))) :=
 bif decide (x2<x1) then
  match Zc8 (x0.c,x0.log,x2) with
  | some y1 =>
   match ZcA (x0.c,x2) with
   | some y2 =>
    match ZbN (x0.m,y2) with
    | some y3 =>
     bif !y1.snd then
      some (Sum.inr (Sum.inr false))
     else
      bif y3.snd != (0:Int) then
       some (Sum.inr (Sum.inr false))
      else
       bif y1.fst != y3.fst then
        some (Sum.inr (Sum.inr false))
       else
        some (Sum.inl (x0,x1,Zad IntKind.i64 (x2+(1:Int))))
    | none=>none
   | none=>none
  | none=>none
 else
  some (Sum.inr (Sum.inl x0))
noncomputable def ZcP (x:Wld×Int×Int):Option ((Wld×Int×Int)⊕((Wld)⊕(Bool))):=ZfH x.1 x.2.1 x.2.2
noncomputable def ZfM (x:Wld×Int×Int):Option ((Wld)⊕(Bool)):=ZaH ZcP x
noncomputable def ZeT (x0:Wld):Option (Bool) :=
 match Zde x0.c with
 | some y1 =>
  bif y1 != (0:Int) then
   some (false)
  else
   match ZcE (x0.log,()) with
   | some y2 =>
    bif !y2 then
     some (false)
    else
     match ZfM (x0,x0.c.items,(0:Int)) with
     | some (.inl y3) =>
      match Zfq (y3,y3.c.threads,(0:Int)) with
      | some (.inl y4) =>
       some (true)
      | some (.inr y5) =>
       some (y5)
      | none=>none
     | some (.inr y4) =>
      some (y4)
     | none=>none
   | none=>none
 | none=>none
noncomputable def ZcN (x:Wld):Option (Bool):=ZeT x
noncomputable def Zmm:Option (Bool) :=
 match Zc8 (Config.mk (2:Int) (1:Int) (1:Int) (0:Int) (0:Int) (1:Int) (0:Int) (0:Int) false (0:Int) (0:Int) (5:Int),Mark.mk (1:Int) (0:Int) (Op.mk (1:Int) (3:Int)) (5:Int) (3:Int)::Mark.mk (0:Int) (0:Int) (Op.mk (1:Int) (4:Int)) (8:Int) (4:Int)::([]:List Mark),(0:Int)) with
 | some y1 =>
  match Zev (Event.mk (1:Int) (1:Int) (0:Int) (Op.mk (1:Int) (3:Int)) (0:Int) false (0:Int)::Event.mk (1:Int) (0:Int) (0:Int) (Op.mk (1:Int) (4:Int)) (0:Int) false (0:Int)::Event.mk (2:Int) (1:Int) (0:Int) (Op.mk (1:Int) (3:Int)) (5:Int) true (3:Int)::([]:List Event),(0:Int)) with
  | some y2 =>
   match Zj5 (Event.mk (1:Int) (1:Int) (0:Int) (Op.mk (1:Int) (3:Int)) (0:Int) false (0:Int)::Event.mk (1:Int) (0:Int) (0:Int) (Op.mk (1:Int) (4:Int)) (0:Int) false (0:Int)::Event.mk (2:Int) (1:Int) (0:Int) (Op.mk (1:Int) (3:Int)) (5:Int) true (3:Int)::([]:List Event)) with
   | some y3 =>
    match Zc0 (Config.mk (2:Int) (1:Int) (1:Int) (0:Int) (0:Int) (1:Int) (0:Int) (0:Int) false (0:Int) (0:Int) (5:Int),Mark.mk (1:Int) (0:Int) (Op.mk (1:Int) (3:Int)) (5:Int) (3:Int)::Mark.mk (0:Int) (0:Int) (Op.mk (1:Int) (4:Int)) (8:Int) (4:Int)::([]:List Mark),Event.mk (1:Int) (1:Int) (0:Int) (Op.mk (1:Int) (3:Int)) (0:Int) false (0:Int)::Event.mk (1:Int) (0:Int) (0:Int) (Op.mk (1:Int) (4:Int)) (0:Int) false (0:Int)::Event.mk (2:Int) (1:Int) (0:Int) (Op.mk (1:Int) (3:Int)) (5:Int) true (3:Int)::([]:List Event),(0:Int)) with
    | some y4 =>
     bif y4 then
      match Zc0 (Config.mk (2:Int) (1:Int) (1:Int) (0:Int) (0:Int) (1:Int) (0:Int) (0:Int) false (0:Int) (0:Int) (5:Int),Mark.mk (1:Int) (0:Int) (Op.mk (1:Int) (3:Int)) (5:Int) (3:Int)::Mark.mk (0:Int) (0:Int) (Op.mk (1:Int) (4:Int)) (8:Int) (4:Int)::([]:List Mark),Event.mk (1:Int) (1:Int) (0:Int) (Op.mk (1:Int) (3:Int)) (0:Int) false (0:Int)::Event.mk (1:Int) (0:Int) (0:Int) (Op.mk (1:Int) (4:Int)) (0:Int) false (0:Int)::Event.mk (2:Int) (1:Int) (0:Int) (Op.mk (1:Int) (3:Int)) (5:Int) true (3:Int)::([]:List Event),(1:Int)) with
      | some y5 =>
       match Zc8 (Config.mk (2:Int) (1:Int) (1:Int) (0:Int) (0:Int) (1:Int) (0:Int) (0:Int) false (0:Int) (0:Int) (5:Int),(Mark.mk (1:Int) (0:Int) (Op.mk (1:Int) (3:Int)) (5:Int) (3:Int)::Mark.mk (0:Int) (0:Int) (Op.mk (1:Int) (4:Int)) (8:Int) (4:Int)::([]:List Mark)).set (Int.toNat (1:Int)) { (Mark.mk (1:Int) (0:Int) (Op.mk (1:Int) (3:Int)) (5:Int) (3:Int)::Mark.mk (0:Int) (0:Int) (Op.mk (1:Int) (4:Int)) (8:Int) (4:Int)::([]:List Mark)).getD (Int.toNat (1:Int)) ZaJ with prior:=(7:Int) },(0:Int)) with
       | some y6 =>
        bif y1.fst == (12:Int) then
         bif y1.snd then
          bif !y6.snd then
           bif y2.snd then
            bif y2.fst.op.v == (4:Int) then
             bif y3.fst == (2:Int) then
              bif y3.snd.fst == (1:Int) then
               bif y3.snd.snd == (0:Int) then
                bif y5 then
                 match Zc0 (Config.mk (2:Int) (1:Int) (1:Int) (0:Int) (0:Int) (1:Int) (0:Int) (0:Int) false (0:Int) (0:Int) (5:Int),List.drop (Int.toNat (0:Int)) (List.take (Int.toNat (0:Int)) ((Mark.mk (1:Int) (0:Int) (Op.mk (1:Int) (3:Int)) (5:Int) (3:Int)::Mark.mk (0:Int) (0:Int) (Op.mk (1:Int) (4:Int)) (8:Int) (4:Int)::([]:List Mark)).set (Int.toNat (1:Int)) { (Mark.mk (1:Int) (0:Int) (Op.mk (1:Int) (3:Int)) (5:Int) (3:Int)::Mark.mk (0:Int) (0:Int) (Op.mk (1:Int) (4:Int)) (8:Int) (4:Int)::([]:List Mark)).getD (Int.toNat (1:Int)) ZaJ with prior:=(7:Int) })),Event.mk (1:Int) (1:Int) (0:Int) (Op.mk (1:Int) (3:Int)) (0:Int) false (0:Int)::Event.mk (1:Int) (0:Int) (0:Int) (Op.mk (1:Int) (4:Int)) (0:Int) false (0:Int)::Event.mk (2:Int) (1:Int) (0:Int) (Op.mk (1:Int) (3:Int)) (5:Int) true (3:Int)::([]:List Event),(1:Int)) with
                 | some y7 =>
                  some (!y7)
                 | none=>none
                else
                 some (false)
               else
                some (false)
              else
               some (false)
             else
              some (false)
            else
             some (false)
           else
            some (false)
          else
           some (false)
         else
          some (false)
        else
         some (false)
       | none=>none
      | none=>none
     else
      match Zc8 (Config.mk (2:Int) (1:Int) (1:Int) (0:Int) (0:Int) (1:Int) (0:Int) (0:Int) false (0:Int) (0:Int) (5:Int),(Mark.mk (1:Int) (0:Int) (Op.mk (1:Int) (3:Int)) (5:Int) (3:Int)::Mark.mk (0:Int) (0:Int) (Op.mk (1:Int) (4:Int)) (8:Int) (4:Int)::([]:List Mark)).set (Int.toNat (1:Int)) { (Mark.mk (1:Int) (0:Int) (Op.mk (1:Int) (3:Int)) (5:Int) (3:Int)::Mark.mk (0:Int) (0:Int) (Op.mk (1:Int) (4:Int)) (8:Int) (4:Int)::([]:List Mark)).getD (Int.toNat (1:Int)) ZaJ with prior:=(7:Int) },(0:Int)) with
      | some y5 =>
       bif y1.fst == (12:Int) then
        bif y1.snd then
         bif !y5.snd then
          bif y2.snd then
           bif y2.fst.op.v == (4:Int) then
            bif y3.fst == (2:Int) then
             bif y3.snd.fst == (1:Int) then
              bif y3.snd.snd == (0:Int) then
               some (false)
              else
               some (false)
             else
              some (false)
            else
             some (false)
           else
            some (false)
          else
           some (false)
         else
          some (false)
        else
         some (false)
       else
        some (false)
      | none=>none
    | none=>none
   | none=>none
  | none=>none
 | none=>none
noncomputable def Zef (x:Unit):Option (Bool):=Zmm
noncomputable def Zeq (x0:Config) (x1:List SEntry) (x2:List Int):Option (Bool) :=
 bif decide ((↑x1.length:Int)>(400:Int)) then
  match Zef () with
  | some y1 =>
   some (y1)
  | none=>none
 else
  bif decide ((↑x2.length:Int)>(200:Int)) then
   match Zef () with
   | some y1 =>
    some (y1)
   | none=>none
  else
   match Zef () with
   | some y1 =>
    bif !y1 then
     match Zef () with
     | some y2 =>
      some (y2)
     | none=>none
    else
     match Zgn (x0,x1,x2) with
     | some y2 =>
      bif y2.snd.snd != (0:Int) then
       bif y2.snd.snd != (0:Int) then
        some (true)
       else
        match ZcN y2.fst with
        | some y3 =>
         some (y3)
        | none=>none
      else
       bif (↑y2.fst.log.length:Int) == (0:Int) then
        bif y2.snd.snd != (0:Int) then
         some (true)
        else
         match ZcN y2.fst with
         | some y3 =>
          some (y3)
         | none=>none
       else
        bif decide ((0:Int)≤Zad IntKind.i64 ((↑y2.fst.log.length:Int)-(1:Int))) then
         bif decide (Zad IntKind.i64 ((↑y2.fst.log.length:Int)-(1:Int))<(↑y2.fst.log.length:Int)) then
          bif decide ((0:Int)≤Zad IntKind.i64 ((↑y2.fst.log.length:Int)-(1:Int))) then
           bif decide (Zad IntKind.i64 ((↑y2.fst.log.length:Int)-(1:Int))≤(↑y2.fst.log.length:Int)) then
            match Zi7 ((y2.fst.log.getD (Zad IntKind.i64 ((↑y2.fst.log.length:Int)-(1:Int))).toNat ZaJ).op,(y2.fst.log.getD (Zad IntKind.i64 ((↑y2.fst.log.length:Int)-(1:Int))).toNat ZaJ).prior,x0.lo,x0.hi) with
            | some y3 =>
             match Zev (y2.fst.hist,(y2.fst.log.getD (Zad IntKind.i64 ((↑y2.fst.log.length:Int)-(1:Int))).toNat ZaJ).t) with
             | some y4 =>
              bif y4.snd then
               match ZcN { y2.fst with log:=List.drop (Int.toNat (0:Int)) (List.take (Zad IntKind.i64 ((↑y2.fst.log.length:Int)-(1:Int))).toNat y2.fst.log) } with
               | some y5 =>
                bif decide (y4.fst.step<(y2.fst.log.getD (Zad IntKind.i64 ((↑y2.fst.log.length:Int)-(1:Int))).toNat ZaJ).step) then
                 some (y5 == (y3.fst == (y2.fst.log.getD (Zad IntKind.i64 ((↑y2.fst.log.length:Int)-(1:Int))).toNat ZaJ).prior))
                else
                 some (y5 == false)
               | none=>none
              else
               match ZcN { y2.fst with log:=List.drop (Int.toNat (0:Int)) (List.take (Zad IntKind.i64 ((↑y2.fst.log.length:Int)-(1:Int))).toNat y2.fst.log) } with
               | some y5 =>
                some (y5 == false)
               | none=>none
             | none=>none
            | none=>none
           else
            none
          else
           none
         else
          none
        else
         none
     | none=>none
   | none=>none
noncomputable def ZkF (x:Config×(List SEntry)×(List Int)):Option (Bool):=Zeq x.1 x.2.1 x.2.2
end Go.Proofs.Mill
