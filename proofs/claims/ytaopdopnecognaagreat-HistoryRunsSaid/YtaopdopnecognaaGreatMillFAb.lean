/- What the functions compute. -/
import Derived.Test.YtaopdopnecognaaGreatMillAll3
namespace Go.Proofs.Mill
set_option linter.all false
noncomputable def Zqv (x0:List SEntry) (x1:Int) (x2:Int):Option (((List SEntry)×Int×Int)⊕(((List SEntry)))) :=
 bif decide (x2<x1) then
  bif fewB (x0.length+(SEntry.mk (2:Int) x2 (0:Int) (Op.mk (0:Int) (0:Int))::([]:List SEntry)).length) then
   some (Sum.inl (x0++SEntry.mk (2:Int) x2 (0:Int) (Op.mk (0:Int) (0:Int))::([]:List SEntry),x1,Zad IntKind.i64 (x2+(1:Int))))
  else
   none
 else
  some (Sum.inr x0)
noncomputable def Zia (x:(List SEntry)×Int×Int):Option (((List SEntry)×Int×Int)⊕(((List SEntry)))):=Zqv x.1 x.2.1 x.2.2
noncomputable def Zqa (x:(List SEntry)×Int×Int):Option (((List SEntry))):=ZaH Zia x
noncomputable def Ztz (x0:Config):Option ((List SEntry)) :=
 match Zqa (([]:List SEntry),x0.threads,(0:Int)) with
 | some y1 =>
  some (y1)
 | none=>none
noncomputable def ZjO (x:Config):Option ((List SEntry)):=Ztz x
noncomputable def Zpe (x0:Int) (x1:List SEntry) (x2:List SEntry) (x3:List SEntry) (x4:Int) (x5:Int):Option ((Int×(List SEntry)×(List SEntry)×(List SEntry)×Int×Int)⊕(((List SEntry))⊕(Int×(List SEntry)×(List SEntry)))) :=
 bif decide (x5<x4) then
  bif decide ((0:Int)≤x5) then
   bif decide (x5<(↑x3.length:Int)) then
    bif decide ((↑x1.length:Int)≥(65536:Int)) then
     some (Sum.inr (Sum.inl x1))
    else
     bif fewB (x1.length+(x3.getD x5.toNat ZaK::([]:List SEntry)).length) then
      some (Sum.inl (x0,x1++x3.getD x5.toNat ZaK::([]:List SEntry),x2,x3,x4,Zad IntKind.i64 (x5+(1:Int))))
     else
      none
   else
    none
  else
   none
 else
  some (Sum.inr (Sum.inr (x0,x1,x2)))
noncomputable def ZhD (x:Int×(List SEntry)×(List SEntry)×(List SEntry)×Int×Int):Option ((Int×(List SEntry)×(List SEntry)×(List SEntry)×Int×Int)⊕(((List SEntry))⊕(Int×(List SEntry)×(List SEntry)))):=Zpe x.1 x.2.1 x.2.2.1 x.2.2.2.1 x.2.2.2.2.1 x.2.2.2.2.2
noncomputable def Zpv (x:Int×(List SEntry)×(List SEntry)×(List SEntry)×Int×Int):Option (((List SEntry))⊕(Int×(List SEntry)×(List SEntry))):=ZaH ZhD x
noncomputable def Zpt (x0:Int) (x1:List SEntry) (x2:List SEntry):Option ((Int×(List SEntry)×(List SEntry))⊕(((List SEntry)))) :=
 bif decide (x0>(0:Int)) then
  match Zpv (x0,x1,x2,x2,(↑x2.length:Int),(0:Int)) with
  | some (.inl y1) =>
   some (Sum.inr y1)
  | some (.inr y2) =>
   some (Sum.inl (Zad IntKind.i64 (y2.fst-(1:Int)),y2.snd))
  | none=>none
 else
  some (Sum.inr x1)
noncomputable def Zhg (x:Int×(List SEntry)×(List SEntry)):Option ((Int×(List SEntry)×(List SEntry))⊕(((List SEntry)))):=Zpt x.1 x.2.1 x.2.2
noncomputable def Zpy (x:Int×(List SEntry)×(List SEntry)):Option (((List SEntry))):=ZaH Zhg x
noncomputable def Zrz (x0:Config) (x1:Int):Option ((List SEntry)) :=
 match ZjO x0 with
 | some y1 =>
  match Zpy (x1,([]:List SEntry),y1) with
  | some y2 =>
   some (y2)
  | none=>none
 | none=>none
noncomputable def ZiX (x:Config×Int):Option ((List SEntry)):=Zrz x.1 x.2
noncomputable def Zp6 (x0:Config):Option (Int) :=
 some (Zad IntKind.i64 (Zad IntKind.i64 ((20:Int)+Zad IntKind.i64 ((8:Int)*x0.depth))+Zad IntKind.i64 (x0.layers*Zad IntKind.i64 ((20:Int)+Zad IntKind.i64 ((2:Int)*x0.spin)))))
noncomputable def Zln (x:Config):Option (Int):=Zp6 x
noncomputable def ZrB (x0:Config):Option (Int) :=
 match Zln x0 with
 | some y1 =>
  some (Zad IntKind.i64 ((20:Int)+Zad IntKind.i64 (Zad IntKind.i64 ((4:Int)*y1)*x0.threads)))
 | none=>none
noncomputable def ZgI (x:Config):Option (Int):=ZrB x
noncomputable def ZpN (x0:Config) (x1:Int) (x2:Int):Option ((Config×Int×Int)⊕((Int))) :=
 bif decide (x2<x0.depth) then
  some (Sum.inl (x0,Zad IntKind.i64 ((2:Int)*x1),Zad IntKind.i64 (x2+(1:Int))))
 else
  some (Sum.inr x1)
noncomputable def ZpM (x:Config×Int×Int):Option ((Config×Int×Int)⊕((Int))):=ZpN x.1 x.2.1 x.2.2
noncomputable def ZpF (x:Config×Int×Int):Option ((Int)):=ZaH ZpM x
noncomputable def ZrH (x0:Config):Option (Int) :=
 match ZpF (x0,(1:Int),(0:Int)) with
 | some y1 =>
  some (Zad IntKind.i64 (y1-(1:Int)))
 | none=>none
noncomputable def ZrE (x:Config):Option (Int):=ZrH x
noncomputable def Zrx (x0:Config):Option (Int) :=
 match ZrE x0 with
 | some y1 =>
  some (Zad IntKind.i64 (Zad IntKind.i64 ((1:Int)+y1)+Zad IntKind.i64 (x0.layers*x0.width)))
 | none=>none
noncomputable def ZrK (x:Config):Option (Int):=Zrx x
noncomputable def ZdM (x0:Thread):Option (Bool) :=
 some (x0.phase != (0:Int))
noncomputable def ZbG (x:Thread):Option (Bool):=ZdM x
noncomputable def Zht (x0:Int) (x1:Int):Option (Bool) :=
 bif decide ((0:Int)≤x0) then
  some (decide (x0<x1))
 else
  some (false)
noncomputable def Zdw (x:Int×Int):Option (Bool):=Zht x.1 x.2
noncomputable def Znr (x0:Int):Option (Bool) :=
 bif decide ((1:Int)≤x0) then
  some (decide (x0≤(9:Int)))
 else
  some (false)
noncomputable def ZjH (x:Int):Option (Bool):=Znr x
noncomputable def ZlM (x0:Op) (x1:Bool):Option (Bool) :=
 bif !x1 then
  match ZjH x0.tag with
  | some y1 =>
   bif y1 then
    some (decide (x0.tag<(8:Int)))
   else
    some (false)
  | none=>none
 else
  bif x0.tag == (9:Int) then
   some (decide (x0.v≥(0:Int)))
  else
   some (x0.tag == (8:Int))
noncomputable def Zjv (x:Op×Bool):Option (Bool):=ZlM x.1 x.2
noncomputable def Zil (x0:Config) (x1:SEntry):Option (Int) :=
 bif x1.kind == (1:Int) then
  bif x1.kind == (1:Int) then
   match Zdw (x1.t,x0.threads) with
   | some y1 =>
    bif !y1 then
     some ((91:Int))
    else
     bif x1.kind == (2:Int) then
      some ((0:Int))
     else
      match Zdw (x1.item,x0.items) with
      | some y2 =>
       bif !y2 then
        some ((92:Int))
       else
        match Zjv (x1.op,x0.bounded) with
        | some y3 =>
         bif !y3 then
          some ((93:Int))
         else
          some ((0:Int))
        | none=>none
      | none=>none
   | none=>none
  else
   bif x1.kind == (3:Int) then
    some ((0:Int))
   else
    some ((90:Int))
 else
  bif x1.kind == (2:Int) then
   match Zdw (x1.t,x0.threads) with
   | some y1 =>
    bif !y1 then
     some ((91:Int))
    else
     bif x1.kind == (2:Int) then
      some ((0:Int))
     else
      match Zdw (x1.item,x0.items) with
      | some y2 =>
       bif !y2 then
        some ((92:Int))
       else
        match Zjv (x1.op,x0.bounded) with
        | some y3 =>
         bif !y3 then
          some ((93:Int))
         else
          some ((0:Int))
        | none=>none
      | none=>none
   | none=>none
  else
   bif x1.kind == (3:Int) then
    some ((0:Int))
   else
    some ((90:Int))
noncomputable def Zid (x:Config×SEntry):Option (Int):=Zil x.1 x.2
noncomputable def Zij (x0:List Thread):Option ((List Thread)) :=
 bif fewB ((0:Nat)+x0.length) then
  some (x0)
 else
  none
noncomputable def Zh3 (x:(List Thread)):Option ((List Thread)):=Zij x
noncomputable def Zi9 (x0:List Mark):Option ((List Mark)) :=
 bif fewB ((0:Nat)+x0.length) then
  some (x0)
 else
  none
noncomputable def Zjb (x:(List Mark)):Option ((List Mark)):=Zi9 x
noncomputable def ZiU (x0:List Event):Option ((List Event)) :=
 bif fewB ((0:Nat)+x0.length) then
  some (x0)
 else
  none
noncomputable def Zjc (x:(List Event)):Option ((List Event)):=ZiU x
noncomputable def ZeL (x0:Int) (x1:Int):Option (Int) :=
 bif decide (x0<(1:Int)) then
  some ((0:Int))
 else
  bif decide (Zad IntKind.i64 (x0-(1:Int))<(0:Int)) then
   none
  else
   some (Zad IntKind.i64 (↑(BitVec.ofInt IntKind.i64.bits (Zad IntKind.i64 ((1:Int)*(2:Int) ^ min (Zad IntKind.i64 (x0-(1:Int))).toNat IntKind.i64.bits)) ||| BitVec.ofInt IntKind.i64.bits (Zad IntKind.i64 (↑(BitVec.ofInt IntKind.i64.bits (x1.fdiv ((2:Int) ^ min (Int.toNat (1:Int)) IntKind.i64.bits)) &&& BitVec.ofInt IntKind.i64.bits (Zad IntKind.i64 (Zad IntKind.i64 ((1:Int)*(2:Int) ^ min (Zad IntKind.i64 (x0-(1:Int))).toNat IntKind.i64.bits)-(1:Int)))).toNat:Int))).toNat:Int))
noncomputable def ZjN (x:Int×Int):Option (Int):=ZeL x.1 x.2
noncomputable def Zh5 (x0:Config) (x1:Int) (x2:Thread) (x3:Int) (x4:Op) (x5:Int):Option (Thread) :=
 match ZjN (x0.depth,x1) with
 | some y1 =>
  bif decide (x0.wait>(0:Int)) then
   some (Thread.mk (1:Int) x3 x4 (Entry.mk x1 x4::([]:List Entry)) ([]:List Kid) ([]:List Int) (0:Int) y1 (0:Int) (0:Int) (0:Int) x2.width (0:Int) (0:Int) (0:Int) (Zad IntKind.i64 (x5+x0.wait)))
  else
   some (Thread.mk (1:Int) x3 x4 (Entry.mk x1 x4::([]:List Entry)) ([]:List Kid) ([]:List Int) (0:Int) y1 (0:Int) (0:Int) (0:Int) x2.width (0:Int) (0:Int) (0:Int) (0:Int))
 | none=>none
noncomputable def Zh0 (x:Config×Int×Thread×Int×Op×Int):Option (Thread):=Zh5 x.1 x.2.1 x.2.2.1 x.2.2.2.1 x.2.2.2.2.1 x.2.2.2.2.2
noncomputable def ZdN (x0:Config):Option (Int) :=
 bif decide (x0.threads<(1:Int)) then
  some ((50:Int))
 else
  bif decide (x0.threads>(16:Int)) then
   some ((50:Int))
  else
   bif decide (x0.items<(1:Int)) then
    some ((51:Int))
   else
    bif decide (x0.items>(4:Int)) then
     some ((51:Int))
    else
     bif decide (x0.backend<(1:Int)) then
      some ((52:Int))
     else
      bif decide (x0.backend>(3:Int)) then
       some ((52:Int))
      else
       bif decide (x0.depth<(0:Int)) then
        some ((53:Int))
       else
        bif decide (x0.depth>(4:Int)) then
         some ((53:Int))
        else
         bif decide (x0.layers<(0:Int)) then
          some ((54:Int))
         else
          bif decide (x0.layers>(3:Int)) then
           some ((54:Int))
          else
           bif decide (x0.width<(1:Int)) then
            some ((55:Int))
           else
            bif decide (x0.width>(8:Int)) then
             some ((55:Int))
            else
             bif decide (x0.spin<(0:Int)) then
              some ((56:Int))
             else
              bif decide (x0.spin>(20:Int)) then
               some ((56:Int))
              else
               bif decide (x0.wait<(0:Int)) then
                some ((57:Int))
               else
                bif decide (x0.wait>(1000:Int)) then
                 some ((57:Int))
                else
                 bif x0.bounded then
                  bif decide (x0.lo>x0.init) then
                   some ((58:Int))
                  else
                   bif decide (x0.init>x0.hi) then
                    some ((58:Int))
                   else
                    some ((0:Int))
                 else
                  some ((0:Int))
noncomputable def ZmA (x:Config):Option (Int):=ZdN x
noncomputable def ZtQ (x0:Op) (x1:Bool):Option (Bool) :=
 bif x1 then
  bif x0.tag == (8:Int) then
   some (true)
  else
   bif x0.tag == (9:Int) then
    some (decide (x0.v≥(0:Int)))
   else
    some (false)
 else
  bif decide (x0.tag≥(1:Int)) then
   some (decide (x0.tag≤(7:Int)))
  else
   some (false)
noncomputable def Zue (x:Op×Bool):Option (Bool):=ZtQ x.1 x.2
noncomputable def ZtF (x0:Config):Option (Bool) :=
 match ZmA x0 with
 | some y1 =>
  some (y1 == (0:Int))
 | none=>none
noncomputable def Zoi (x:Config):Option (Bool):=ZtF x
noncomputable def Zrw (x0:Config):Option (Int) :=
 some (Zad IntKind.i64 (Zad IntKind.i64 ((20:Int)+Zad IntKind.i64 ((8:Int)*x0.depth))+Zad IntKind.i64 (x0.layers*Zad IntKind.i64 ((20:Int)+Zad IntKind.i64 ((2:Int)*x0.spin)))))
noncomputable def Zms (x:Config):Option (Int):=Zrw x
noncomputable def Zp7 (x0:Config):Option (Int) :=
 match Zms x0 with
 | some y1 =>
  some (Zad IntKind.i64 (Zad IntKind.i64 (Zad IntKind.i64 ((4:Int)*x0.threads)*y1)+(20:Int)))
 | none=>none
noncomputable def Zla (x:Config):Option (Int):=Zp7 x
noncomputable def Zqz (x0:List SEntry) (x1:List SEntry) (x2:Int):Option (((List SEntry)×(List SEntry)×Int)⊕((Unit)⊕(Bool))) :=
 bif decide (x2<(↑x0.length:Int)) then
  bif decide ((0:Int)≤x2) then
   bif decide (x2<(↑x0.length:Int)) then
    bif decide ((0:Int)≤x2) then
     bif decide (x2<(↑x1.length:Int)) then
      bif !((x0.getD x2.toNat ZaK).kind == (x1.getD x2.toNat ZaK).kind && ((x0.getD x2.toNat ZaK).t == (x1.getD x2.toNat ZaK).t && ((x0.getD x2.toNat ZaK).item == (x1.getD x2.toNat ZaK).item && ((x0.getD x2.toNat ZaK).op.tag == (x1.getD x2.toNat ZaK).op.tag && ((x0.getD x2.toNat ZaK).op.v == (x1.getD x2.toNat ZaK).op.v && true) && true)))) then
       some (Sum.inr (Sum.inr false))
      else
       some (Sum.inl (x0,x1,Zad IntKind.i64 (x2+(1:Int))))
     else
      none
    else
     none
   else
    none
  else
   none
 else
  some (Sum.inr (Sum.inl ()))
noncomputable def Zim (x:(List SEntry)×(List SEntry)×Int):Option (((List SEntry)×(List SEntry)×Int)⊕((Unit)⊕(Bool))):=Zqz x.1 x.2.1 x.2.2
noncomputable def Zqt (x:(List SEntry)×(List SEntry)×Int):Option ((Unit)⊕(Bool)):=ZaH Zim x
noncomputable def ZsC (x0:List SEntry) (x1:List SEntry):Option (Bool) :=
 bif (↑x0.length:Int) != (↑x1.length:Int) then
  some (false)
 else
  match Zqt (x0,x1,(0:Int)) with
  | some (.inl y1) =>
   some (true)
  | some (.inr y2) =>
   some (y2)
  | none=>none
noncomputable def Zsn (x:(List SEntry)×(List SEntry)):Option (Bool):=ZsC x.1 x.2
noncomputable def ZrO (x0:List SEntry) (x1:List SEntry) (x2:Int):Option (((List SEntry)×(List SEntry)×Int)⊕(((List SEntry)))) :=
 bif decide (x2<(↑x0.length:Int)) then
  bif decide ((0:Int)≤x2) then
   bif decide (x2<(↑x0.length:Int)) then
    bif decide ((0:Int)≤x2) then
     bif decide (x2<(↑x0.length:Int)) then
      bif decide ((0:Int)≤x2) then
       bif decide (x2<(↑x0.length:Int)) then
        bif decide ((0:Int)≤x2) then
         bif decide (x2<(↑x0.length:Int)) then
          bif fewB (x1.length+(x0.getD x2.toNat ZaK::([]:List SEntry)).length) then
           some (Sum.inl (x0,x1++x0.getD x2.toNat ZaK::([]:List SEntry),Zad IntKind.i64 (x2+(1:Int))))
          else
           none
         else
          none
        else
         none
       else
        none
      else
       none
     else
      none
    else
     none
   else
    none
  else
   none
 else
  some (Sum.inr x1)
noncomputable def Zi7 (x:(List SEntry)×(List SEntry)×Int):Option (((List SEntry)×(List SEntry)×Int)⊕(((List SEntry)))):=ZrO x.1 x.2.1 x.2.2
noncomputable def ZrP (x:(List SEntry)×(List SEntry)×Int):Option (((List SEntry))):=ZaH Zi7 x
noncomputable def Zua (x0:List SEntry):Option ((List SEntry)) :=
 match ZrP (x0,([]:List SEntry),(0:Int)) with
 | some y1 =>
  some (y1)
 | none=>none
noncomputable def ZtB (x:(List SEntry)):Option ((List SEntry)):=Zua x
noncomputable def Zom (x0:Int) (x1:Config) (x2:List SEntry) (x3:Int) (x4:Int):Option ((Int×Config×(List SEntry)×Int×Int)⊕((Int×Config×(List SEntry)×Int)⊕((List SEntry)))) :=
 bif decide (x4<x1.threads) then
  bif (↑x2.length:Int) == (65536:Int) then
   some (Sum.inr (Sum.inr x2))
  else
   bif fewB (x2.length+(SEntry.mk (2:Int) x4 (0:Int) (Op.mk (0:Int) (0:Int))::([]:List SEntry)).length) then
    some (Sum.inl (x0,x1,x2++SEntry.mk (2:Int) x4 (0:Int) (Op.mk (0:Int) (0:Int))::([]:List SEntry),x3,Zad IntKind.i64 (x4+(1:Int))))
   else
    none
 else
  some (Sum.inr (Sum.inl (x0,x1,x2,x3)))
noncomputable def Zg2 (x:Int×Config×(List SEntry)×Int×Int):Option ((Int×Config×(List SEntry)×Int×Int)⊕((Int×Config×(List SEntry)×Int)⊕((List SEntry)))):=Zom x.1 x.2.1 x.2.2.1 x.2.2.2.1 x.2.2.2.2
noncomputable def Zoy (x:Int×Config×(List SEntry)×Int×Int):Option ((Int×Config×(List SEntry)×Int)⊕((List SEntry))):=ZaH Zg2 x
noncomputable def ZoC (x0:Int) (x1:Config) (x2:List SEntry) (x3:Int):Option ((Int×Config×(List SEntry)×Int)⊕(((List SEntry))⊕((List SEntry)))) :=
 bif decide (x3<x0) then
  match Zoy (x0,x1,x2,x3,(0:Int)) with
  | some (.inl y1) =>
   some (Sum.inl (y1.fst,y1.snd.fst,y1.snd.snd.fst,Zad IntKind.i64 (y1.snd.snd.snd+(1:Int))))
  | some (.inr y2) =>
   some (Sum.inr (Sum.inr y2))
  | none=>none
 else
  some (Sum.inr (Sum.inl x2))
noncomputable def Zg1 (x:Int×Config×(List SEntry)×Int):Option ((Int×Config×(List SEntry)×Int)⊕(((List SEntry))⊕((List SEntry)))):=ZoC x.1 x.2.1 x.2.2.1 x.2.2.2
noncomputable def Zon (x:Int×Config×(List SEntry)×Int):Option (((List SEntry))⊕((List SEntry))):=ZaH Zg1 x
noncomputable def Zqx (x0:Config) (x1:Int):Option ((List SEntry)) :=
 match Zon (x1,x0,([]:List SEntry),(0:Int)) with
 | some (.inl y1) =>
  some (y1)
 | some (.inr y2) =>
  some (y2)
 | none=>none
noncomputable def Zlm (x:Config×Int):Option ((List SEntry)):=Zqx x.1 x.2
noncomputable def ZrF (x0:Config):Option ((List SEntry)) :=
 match Zlm (x0,(1:Int)) with
 | some y1 =>
  some (y1)
 | none=>none
noncomputable def Zry (x:Config):Option ((List SEntry)):=ZrF x
noncomputable def Zpn (x0:List SEntry) (x1:Int) (x2:Int):Option (((List SEntry)×Int×Int)⊕(((List SEntry))⊕((List SEntry)))) :=
 bif decide (x2<x1) then
  bif decide ((0:Int)≤Zad IntKind.i64 (Zad IntKind.i64 ((↑x0.length:Int)-x2)-(1:Int))) then
   bif decide (Zad IntKind.i64 (Zad IntKind.i64 ((↑x0.length:Int)-x2)-(1:Int))<(↑x0.length:Int)) then
    bif (x0.getD (Zad IntKind.i64 (Zad IntKind.i64 ((↑x0.length:Int)-x2)-(1:Int))).toNat ZaK).kind == (1:Int) then
     bif decide ((0:Int)≤Zad IntKind.i64 ((↑x0.length:Int)-x2)) then
      bif decide (Zad IntKind.i64 ((↑x0.length:Int)-x2)≤(↑x0.length:Int)) then
       bif decide ((↑x0.length:Int)≤(↑x0.length:Int)) then
        some (Sum.inr (Sum.inr (List.drop (Zad IntKind.i64 ((↑x0.length:Int)-x2)).toNat (List.take (↑x0.length:Int).toNat x0))))
       else
        none
      else
       none
     else
      none
    else
     some (Sum.inl (x0,x1,Zad IntKind.i64 (x2+(1:Int))))
   else
    none
  else
   none
 else
  some (Sum.inr (Sum.inl x0))
noncomputable def ZhO (x:(List SEntry)×Int×Int):Option (((List SEntry)×Int×Int)⊕(((List SEntry))⊕((List SEntry)))):=Zpn x.1 x.2.1 x.2.2
noncomputable def ZpH (x:(List SEntry)×Int×Int):Option (((List SEntry))⊕((List SEntry))):=ZaH ZhO x
noncomputable def ZrT (x0:List SEntry):Option ((List SEntry)) :=
 match ZpH (x0,(↑x0.length:Int),(0:Int)) with
 | some (.inl y1) =>
  some (y1)
 | some (.inr y2) =>
  some (y2)
 | none=>none
noncomputable def Zmx (x:(List SEntry)):Option ((List SEntry)):=ZrT x
noncomputable def Zqr (x0:Config) (x1:Int) (x2:Int) (x3:List SEntry) (x4:Int) (x5:Int):Option ((Config×Int×Int×(List SEntry)×Int×Int)⊕((Int))) :=
 bif decide (x5<x4) then
  bif decide ((0:Int)≤x5) then
   bif decide (x5<(↑x3.length:Int)) then
    bif (x3.getD x5.toNat ZaK).kind != (2:Int) then
     some (Sum.inl (x0,x1,x2,x3,x4,Zad IntKind.i64 (x5+(1:Int))))
    else
     bif (x3.getD x5.toNat ZaK).t != x2 then
      some (Sum.inr x1)
     else
      bif Zad IntKind.i64 (x2+(1:Int)) == x0.threads then
       some (Sum.inl (x0,Zad IntKind.i64 (x1+(1:Int)),(0:Int),x3,x4,Zad IntKind.i64 (x5+(1:Int))))
      else
       some (Sum.inl (x0,x1,Zad IntKind.i64 (x2+(1:Int)),x3,x4,Zad IntKind.i64 (x5+(1:Int))))
   else
    none
  else
   none
 else
  some (Sum.inr x1)
noncomputable def Zh8 (x:Config×Int×Int×(List SEntry)×Int×Int):Option ((Config×Int×Int×(List SEntry)×Int×Int)⊕((Int))):=Zqr x.1 x.2.1 x.2.2.1 x.2.2.2.1 x.2.2.2.2.1 x.2.2.2.2.2
noncomputable def Zql (x:Config×Int×Int×(List SEntry)×Int×Int):Option ((Int)):=ZaH Zh8 x
noncomputable def Zs9 (x0:Config) (x1:List SEntry):Option (Int) :=
 match Zmx x1 with
 | some y1 =>
  match Zql (x0,(0:Int),(0:Int),y1,(↑(List.length y1):Int),(0:Int)) with
  | some y2 =>
   some (y2)
  | none=>none
 | none=>none
noncomputable def ZhI (x:Config×(List SEntry)):Option (Int):=Zs9 x.1 x.2
noncomputable def Zpo (x0:List SEntry) (x1:Config) (x2:Int) (x3:Int):Option (((List SEntry)×Config×Int×Int)⊕((Config×Int))) :=
 bif decide (x3<(↑x0.length:Int)) then
  bif decide ((0:Int)≤x3) then
   bif decide (x3<(↑x0.length:Int)) then
    bif (x0.getD x3.toNat ZaK).kind != (2:Int) then
     some (Sum.inl (x0,x1,x2,Zad IntKind.i64 (x3+(1:Int))))
    else
     bif decide ((0:Int)≤x3) then
      bif decide (x3<(↑x0.length:Int)) then
       bif decide (x1.threads=(0:Int)) then
        none
       else
        bif (x0.getD x3.toNat ZaK).t != x2.tmod x1.threads then
         some (Sum.inr (x1,x2))
        else
         some (Sum.inl (x0,x1,Zad IntKind.i64 (x2+(1:Int)),Zad IntKind.i64 (x3+(1:Int))))
      else
       none
     else
      none
   else
    none
  else
   none
 else
  some (Sum.inr (x1,x2))
noncomputable def Zhn (x:(List SEntry)×Config×Int×Int):Option (((List SEntry)×Config×Int×Int)⊕((Config×Int))):=Zpo x.1 x.2.1 x.2.2.1 x.2.2.2
noncomputable def Zpb (x:(List SEntry)×Config×Int×Int):Option ((Config×Int)):=ZaH Zhn x
noncomputable def Zpr (x0:List SEntry) (x1:Config) (x2:Int) (x3:Int):Option (((List SEntry)×Config×Int×Int)⊕(((List SEntry)×Config×Int))) :=
 bif decide (x3<(↑x0.length:Int)) then
  bif decide ((0:Int)≤x3) then
   bif decide (x3<(↑x0.length:Int)) then
    bif (x0.getD x3.toNat ZaK).kind == (1:Int) then
     some (Sum.inl (x0,x1,Zad IntKind.i64 (x3+(1:Int)),Zad IntKind.i64 (x3+(1:Int))))
    else
     some (Sum.inl (x0,x1,x2,Zad IntKind.i64 (x3+(1:Int))))
   else
    none
  else
   none
 else
  some (Sum.inr (x0,x1,x2))
noncomputable def Zhd (x:(List SEntry)×Config×Int×Int):Option (((List SEntry)×Config×Int×Int)⊕(((List SEntry)×Config×Int))):=Zpr x.1 x.2.1 x.2.2.1 x.2.2.2
noncomputable def ZoX (x:(List SEntry)×Config×Int×Int):Option (((List SEntry)×Config×Int)):=ZaH Zhd x
noncomputable def ZrS (x0:Config) (x1:List SEntry):Option (Int) :=
 match ZoX (x1,x0,(0:Int),(0:Int)) with
 | some y1 =>
  match Zpb (y1.fst,y1.snd.fst,(0:Int),y1.snd.snd) with
  | some y2 =>
   bif decide (y2.fst.threads=(0:Int)) then
    none
   else
    some (Zad IntKind.i64 (Int.tdiv y2.snd y2.fst.threads))
  | none=>none
 | none=>none
noncomputable def Zmu (x:Config×(List SEntry)):Option (Int):=ZrS x.1 x.2
noncomputable def Zuh (x0:Config) (x1:List SEntry):Option (Bool) :=
 match ZgI x0 with
 | some y1 =>
  match ZhI (x0,x1) with
  | some y2 =>
   some (decide (y1≤y2))
  | none=>none
 | none=>none
noncomputable def Zfo (x:Config×(List SEntry)):Option (Bool):=Zuh x.1 x.2
noncomputable def Ztt (x0:Config) (x1:List SEntry):Option (Bool) :=
 match Zmu (x0,x1) with
 | some y1 =>
  match Zla x0 with
  | some y2 =>
   some (decide (y1≥y2))
  | none=>none
 | none=>none
noncomputable def Zsj (x:Config×(List SEntry)):Option (Bool):=Ztt x.1 x.2
noncomputable def ZeG (x0:Int) (x1:List Thread) (x2:Int) (x3:Int):Option ((Int×(List Thread)×Int×Int)⊕((Int))) :=
 bif decide (x3<x2) then
  bif decide ((0:Int)≤x3) then
   bif decide (x3<(↑x1.length:Int)) then
    match ZbG (x1.getD x3.toNat Zas) with
    | some y1 =>
     bif y1 then
      some (Sum.inl (Zad IntKind.i64 (x0+(1:Int)),x1,x2,Zad IntKind.i64 (x3+(1:Int))))
     else
      some (Sum.inl (x0,x1,x2,Zad IntKind.i64 (x3+(1:Int))))
    | none=>none
   else
    none
  else
   none
 else
  some (Sum.inr x0)
noncomputable def Zgb (x:Int×(List Thread)×Int×Int):Option ((Int×(List Thread)×Int×Int)⊕((Int))):=ZeG x.1 x.2.1 x.2.2.1 x.2.2.2
noncomputable def Zip (x:Int×(List Thread)×Int×Int):Option ((Int)):=ZaH Zgb x
noncomputable def Zj2 (x0:Wld):Option (Int) :=
 match Zip ((0:Int),x0.t,(↑x0.t.length:Int),(0:Int)) with
 | some y1 =>
  some (y1)
 | none=>none
noncomputable def Zhk (x:Wld):Option (Int):=Zj2 x
noncomputable def ZsM (x0:Config) (x1:Int):Option (Int) :=
 bif decide (x1<(0:Int)) then
  some ((-1:Int))
 else
  bif decide (x1≥x0.items) then
   some ((-1:Int))
  else
   match ZrK x0 with
   | some y1 =>
    some (Zad IntKind.i64 (x1*y1))
   | none=>none
noncomputable def Zsf (x:Config×Int):Option (Int):=ZsM x.1 x.2
noncomputable def ZgD (x0:Int) (x1:Int):Option (Int×Bool) :=
 some ((Zad IntKind.i64 (x0+x1),decide (x1≥(0:Int)) == decide (Zad IntKind.i64 (x0+x1)≥x0)))
noncomputable def ZgE (x:Int×Int):Option (Int×Bool):=ZgD x.1 x.2
noncomputable def ZcJ (x0:Op) (x1:Int) (x2:Int) (x3:Int):Option (Int×Bool) :=
 bif x0.tag == (1:Int) then
  some ((Zad IntKind.i64 (x1+x0.v),true))
 else
  bif x0.tag == (2:Int) then
   some ((Zad IntKind.i64 (x1-x0.v),true))
  else
   bif x0.tag == (3:Int) then
    some ((Zad IntKind.i64 (↑(BitVec.ofInt IntKind.i64.bits x1 ||| BitVec.ofInt IntKind.i64.bits x0.v).toNat:Int),true))
   else
    bif x0.tag == (4:Int) then
     some ((Zad IntKind.i64 (↑(BitVec.ofInt IntKind.i64.bits x1 &&& BitVec.ofInt IntKind.i64.bits x0.v).toNat:Int),true))
    else
     bif x0.tag == (5:Int) then
      some ((if x0.v>x1 then x0.v else x1,true))
     else
      bif x0.tag == (6:Int) then
       some ((if x0.v<x1 then x0.v else x1,true))
      else
       bif x0.tag == (7:Int) then
        some ((x0.v,true))
       else
        bif x0.tag == (8:Int) then
         match ZgE (x1,x0.v) with
         | some y1 =>
          bif !y1.snd then
           some ((x1,false))
          else
           bif decide (y1.fst<x2) then
            some ((x1,false))
           else
            bif decide (y1.fst>x3) then
             some ((x1,false))
            else
             some ((y1.fst,true))
         | none=>none
        else
         bif x0.tag == (9:Int) then
          bif decide (x0.v<(0:Int)) then
           some ((x1,false))
          else
           bif decide (x1<x2) then
            some ((x1,false))
           else
            bif decide (IntKind.u64.wrap x0.v≥Zad IntKind.u64 (IntKind.u64.wrap x1-IntKind.u64.wrap x2)) then
             some ((x2,true))
            else
             some ((Zad IntKind.i64 (x1-x0.v),true))
         else
          some ((x1,false))
noncomputable def ZrJ (x:Op×Int×Int×Int):Option (Int×Bool):=ZcJ x.1 x.2.1 x.2.2.1 x.2.2.2
noncomputable def ZoH (x0:Config) (x1:Int×Int×Int×Int×Int×Int×Int×Int×Int×Int×Int×Int×Int×Int×Int×Int×Int×Int×Int×Int×Int×Int×Int×Int) (x2:Int):Option ((Config×(Int×Int×Int×Int×Int×Int×Int×Int×Int×Int×Int×Int×Int×Int×Int×Int×Int×Int×Int×Int×Int×Int×Int×Int)×Int)⊕((Config)⊕(Int))) :=
 bif decide (x2<(8:Int)) then
  bif decide ((0:Int)≤x2) then
   bif decide (x2<(↑(8:Nat):Int)) then
    bif decide (x2=(↑(0:Nat):Int)) then
     bif decide (x1.fst<x1.snd.fst) then
      some (Sum.inr (Sum.inr (Zad IntKind.i64 ((50:Int)+x2))))
     else
      bif decide (x1.fst>x1.snd.snd.fst) then
       some (Sum.inr (Sum.inr (Zad IntKind.i64 ((50:Int)+x2))))
      else
       some (Sum.inl (x0,x1,Zad IntKind.i64 (x2+(1:Int))))
    else
     bif decide (x2=(↑((0:Nat)+(1:Nat)):Int)) then
      bif decide (x1.snd.snd.snd.fst<x1.snd.snd.snd.snd.fst) then
       some (Sum.inr (Sum.inr (Zad IntKind.i64 ((50:Int)+x2))))
      else
       bif decide (x1.snd.snd.snd.fst>x1.snd.snd.snd.snd.snd.fst) then
        some (Sum.inr (Sum.inr (Zad IntKind.i64 ((50:Int)+x2))))
       else
        some (Sum.inl (x0,x1,Zad IntKind.i64 (x2+(1:Int))))
     else
      bif decide (x2=(↑((0:Nat)+(1:Nat)+(1:Nat)):Int)) then
       bif decide (x1.snd.snd.snd.snd.snd.snd.fst<x1.snd.snd.snd.snd.snd.snd.snd.fst) then
        some (Sum.inr (Sum.inr (Zad IntKind.i64 ((50:Int)+x2))))
       else
        bif decide (x1.snd.snd.snd.snd.snd.snd.fst>x1.snd.snd.snd.snd.snd.snd.snd.snd.fst) then
         some (Sum.inr (Sum.inr (Zad IntKind.i64 ((50:Int)+x2))))
        else
         some (Sum.inl (x0,x1,Zad IntKind.i64 (x2+(1:Int))))
      else
       bif decide (x2=(↑((0:Nat)+(1:Nat)+(1:Nat)+(1:Nat)):Int)) then
        bif decide (x1.snd.snd.snd.snd.snd.snd.snd.snd.snd.fst<x1.snd.snd.snd.snd.snd.snd.snd.snd.snd.snd.fst) then
         some (Sum.inr (Sum.inr (Zad IntKind.i64 ((50:Int)+x2))))
        else
         bif decide (x1.snd.snd.snd.snd.snd.snd.snd.snd.snd.fst>x1.snd.snd.snd.snd.snd.snd.snd.snd.snd.snd.snd.fst) then
          some (Sum.inr (Sum.inr (Zad IntKind.i64 ((50:Int)+x2))))
         else
          some (Sum.inl (x0,x1,Zad IntKind.i64 (x2+(1:Int))))
       else
        bif decide (x2=(↑((0:Nat)+(1:Nat)+(1:Nat)+(1:Nat)+(1:Nat)):Int)) then
         bif decide (x1.snd.snd.snd.snd.snd.snd.snd.snd.snd.snd.snd.snd.fst<x1.snd.snd.snd.snd.snd.snd.snd.snd.snd.snd.snd.snd.snd.fst) then
          some (Sum.inr (Sum.inr (Zad IntKind.i64 ((50:Int)+x2))))
         else
          bif decide (x1.snd.snd.snd.snd.snd.snd.snd.snd.snd.snd.snd.snd.fst>x1.snd.snd.snd.snd.snd.snd.snd.snd.snd.snd.snd.snd.snd.snd.fst) then
           some (Sum.inr (Sum.inr (Zad IntKind.i64 ((50:Int)+x2))))
          else
           some (Sum.inl (x0,x1,Zad IntKind.i64 (x2+(1:Int))))
        else
         bif decide (x2=(↑((0:Nat)+(1:Nat)+(1:Nat)+(1:Nat)+(1:Nat)+(1:Nat)):Int)) then
          bif decide (x1.snd.snd.snd.snd.snd.snd.snd.snd.snd.snd.snd.snd.snd.snd.snd.fst<x1.snd.snd.snd.snd.snd.snd.snd.snd.snd.snd.snd.snd.snd.snd.snd.snd.fst) then
           some (Sum.inr (Sum.inr (Zad IntKind.i64 ((50:Int)+x2))))
          else
           bif decide (x1.snd.snd.snd.snd.snd.snd.snd.snd.snd.snd.snd.snd.snd.snd.snd.fst>x1.snd.snd.snd.snd.snd.snd.snd.snd.snd.snd.snd.snd.snd.snd.snd.snd.snd.fst) then
            some (Sum.inr (Sum.inr (Zad IntKind.i64 ((50:Int)+x2))))
           else
            some (Sum.inl (x0,x1,Zad IntKind.i64 (x2+(1:Int))))
         else
          bif decide (x2=(↑((0:Nat)+(1:Nat)+(1:Nat)+(1:Nat)+(1:Nat)+(1:Nat)+(1:Nat)):Int)) then
           bif decide (x1.snd.snd.snd.snd.snd.snd.snd.snd.snd.snd.snd.snd.snd.snd.snd.snd.snd.snd.fst<x1.snd.snd.snd.snd.snd.snd.snd.snd.snd.snd.snd.snd.snd.snd.snd.snd.snd.snd.snd.fst) then
            some (Sum.inr (Sum.inr (Zad IntKind.i64 ((50:Int)+x2))))
           else
            bif decide (x1.snd.snd.snd.snd.snd.snd.snd.snd.snd.snd.snd.snd.snd.snd.snd.snd.snd.snd.fst>x1.snd.snd.snd.snd.snd.snd.snd.snd.snd.snd.snd.snd.snd.snd.snd.snd.snd.snd.snd.snd.fst) then
             some (Sum.inr (Sum.inr (Zad IntKind.i64 ((50:Int)+x2))))
            else
             some (Sum.inl (x0,x1,Zad IntKind.i64 (x2+(1:Int))))
          else
           bif decide (x2=(↑((0:Nat)+(1:Nat)+(1:Nat)+(1:Nat)+(1:Nat)+(1:Nat)+(1:Nat)+(1:Nat)):Int)) then
            bif decide (x1.snd.snd.snd.snd.snd.snd.snd.snd.snd.snd.snd.snd.snd.snd.snd.snd.snd.snd.snd.snd.snd.fst<x1.snd.snd.snd.snd.snd.snd.snd.snd.snd.snd.snd.snd.snd.snd.snd.snd.snd.snd.snd.snd.snd.snd.fst) then
             some (Sum.inr (Sum.inr (Zad IntKind.i64 ((50:Int)+x2))))
            else
             bif decide (x1.snd.snd.snd.snd.snd.snd.snd.snd.snd.snd.snd.snd.snd.snd.snd.snd.snd.snd.snd.snd.snd.fst>x1.snd.snd.snd.snd.snd.snd.snd.snd.snd.snd.snd.snd.snd.snd.snd.snd.snd.snd.snd.snd.snd.snd.snd) then
              some (Sum.inr (Sum.inr (Zad IntKind.i64 ((50:Int)+x2))))
             else
              some (Sum.inl (x0,x1,Zad IntKind.i64 (x2+(1:Int))))
           else
            none
   else
    none
  else
   none
 else
  some (Sum.inr (Sum.inl x0))
noncomputable def Zd3 (x:Config×(Int×Int×Int×Int×Int×Int×Int×Int×Int×Int×Int×Int×Int×Int×Int×Int×Int×Int×Int×Int×Int×Int×Int×Int)×Int):Option ((Config×(Int×Int×Int×Int×Int×Int×Int×Int×Int×Int×Int×Int×Int×Int×Int×Int×Int×Int×Int×Int×Int×Int×Int×Int)×Int)⊕((Config)⊕(Int))):=ZoH x.1 x.2.1 x.2.2
noncomputable def ZcN (x:Config×(Int×Int×Int×Int×Int×Int×Int×Int×Int×Int×Int×Int×Int×Int×Int×Int×Int×Int×Int×Int×Int×Int×Int×Int)×Int):Option ((Config)⊕(Int)):=ZaH Zd3 x
noncomputable def Zib (x0:Config):Option (Int) :=
 match ZcN (x0,(x0.threads,(1:Int),(16:Int),x0.items,(1:Int),(4:Int),x0.backend,(1:Int),(3:Int),x0.depth,(0:Int),(4:Int),x0.layers,(0:Int),(3:Int),x0.width,(1:Int),(8:Int),x0.spin,(0:Int),(20:Int),x0.wait,(0:Int),(1000:Int)),(0:Int)) with
 | some (.inl y1) =>
  bif y1.bounded then
   bif decide (y1.init<y1.lo) then
    some ((58:Int))
   else
    bif decide (y1.hi<y1.init) then
     some ((58:Int))
    else
     some ((0:Int))
  else
   some ((0:Int))
 | some (.inr y2) =>
  some (y2)
 | none=>none
noncomputable def Zc9 (x:Config):Option (Int):=Zib x
noncomputable def ZeH (x0:Config) (x1:List SEntry) (x2:Int) (x3:Int):Option ((Config×(List SEntry)×Int×Int)⊕((Unit)⊕(Int×Int))) :=
 bif decide (x3<x2) then
  bif decide ((0:Int)≤x3) then
   bif decide (x3<(↑x1.length:Int)) then
    match Zid (x0,x1.getD x3.toNat ZaK) with
    | some y1 =>
     bif y1 != (0:Int) then
      some (Sum.inr (Sum.inr (x3,y1)))
     else
      some (Sum.inl (x0,x1,x2,Zad IntKind.i64 (x3+(1:Int))))
    | none=>none
   else
    none
  else
   none
 else
  some (Sum.inr (Sum.inl ()))
noncomputable def Zf7 (x:Config×(List SEntry)×Int×Int):Option ((Config×(List SEntry)×Int×Int)⊕((Unit)⊕(Int×Int))):=ZeH x.1 x.2.1 x.2.2.1 x.2.2.2
noncomputable def Zh4 (x:Config×(List SEntry)×Int×Int):Option ((Unit)⊕(Int×Int)):=ZaH Zf7 x
noncomputable def Zke (x0:Config) (x1:List SEntry):Option (Int×Int) :=
 match Zc9 x0 with
 | some y1 =>
  bif y1 != (0:Int) then
   some (((0:Int),y1))
  else
   bif decide ((↑x1.length:Int)>(65536:Int)) then
    some (((0:Int),(2:Int)))
   else
    match Zh4 (x0,x1,(↑x1.length:Int),(0:Int)) with
    | some (.inl y2) =>
     some (((0:Int),(0:Int)))
    | some (.inr y3) =>
     some (y3)
    | none=>none
 | none=>none
noncomputable def ZhH (x:Config×(List SEntry)):Option (Int×Int):=Zke x.1 x.2
noncomputable def Zjo (x0:Config):Option (Int) :=
 bif decide (x0.depth<(0:Int)) then
  none
 else
  some (Zad IntKind.i64 (Zad IntKind.i64 ((1:Int)*(2:Int) ^ min x0.depth.toNat IntKind.i64.bits)-(1:Int)))
noncomputable def Zfc (x:Config):Option (Int):=Zjo x
noncomputable def ZlD (x0:Config):Option (Plan) :=
 match Zfc x0 with
 | some y1 =>
  some (Plan.mk (1:Int) (Zad IntKind.i64 ((1:Int)+y1)) (Zad IntKind.i64 (Zad IntKind.i64 ((1:Int)+y1)+Zad IntKind.i64 (x0.layers*x0.width))) (Zad IntKind.i64 (x0.items*Zad IntKind.i64 (Zad IntKind.i64 ((1:Int)+y1)+Zad IntKind.i64 (x0.layers*x0.width)))))
 | none=>none
noncomputable def Zcf (x:Config):Option (Plan):=ZlD x
noncomputable def Zf0 (x0:Config) (x1:Int):Option (Int) :=
 bif decide (x1<(0:Int)) then
  some ((-1:Int))
 else
  bif decide (x1≥x0.items) then
   some ((-1:Int))
  else
   match Zcf x0 with
   | some y1 =>
    some (Zad IntKind.i64 (x1*y1.block))
   | none=>none
noncomputable def ZcA (x:Config×Int):Option (Int):=Zf0 x.1 x.2
noncomputable def ZkG (x0:Int):Option ((List Int)) :=
 bif decide (x0<(1:Int)) then
  some (([]:List Int))
 else
  bif decide (x0>(10000:Int)) then
   some (([]:List Int))
  else
   bif x0 == x0 then
    bif decide ((0:Int)≤x0) then
     bif decide (x0≤Zbl) then
      some (List.replicate x0.toNat (0:Int))
     else
      none
    else
     none
   else
    none
noncomputable def ZhK (x:Int):Option ((List Int)):=ZkG x
noncomputable def ZfG (x0:Int):Option ((List (List Entry))) :=
 bif decide (x0<(1:Int)) then
  some (([]:List (List Entry)))
 else
  bif decide (x0>(10000:Int)) then
   some (([]:List (List Entry)))
  else
   bif x0 == x0 then
    bif decide ((0:Int)≤x0) then
     bif decide (x0≤Zbl) then
      some (List.replicate x0.toNat ([]:List Entry))
     else
      none
    else
     none
   else
    none
noncomputable def Zd5 (x:Int):Option ((List (List Entry))):=ZfG x
noncomputable def ZlU (x0:Int) (x1:Int):Option (Memo) :=
 match ZhK x0 with
 | some y1 =>
  match Zd5 x1 with
  | some y2 =>
   some (Memo.mk y1 y2)
  | none=>none
 | none=>none
noncomputable def Zmd (x:Int×Int):Option (Memo):=ZlU x.1 x.2
noncomputable def Zki (x0:Config):Option (Int) :=
 match Zcf x0 with
 | some y1 =>
  some (Zad IntKind.i64 (y1.lines+Zad IntKind.i64 ((2:Int)*x0.threads)))
 | none=>none
noncomputable def ZjU (x:Config):Option (Int):=Zki x
noncomputable def Zes (x0:Config) (x1:Memo) (x2:Memo) (x3:Int) (x4:Int):Option ((Config×Memo×Memo×Int×Int)⊕((Memo×Memo))) :=
 bif decide (x4<x3) then
  match ZcA (x0,x4) with
  | some y1 =>
   bif decide ((0:Int)≤y1) then
    bif decide (y1<(↑x2.words.length:Int)) then
     some (Sum.inl (x0,x1,{ x2 with words:=x2.words.set (Int.toNat y1) x0.init },x3,Zad IntKind.i64 (x4+(1:Int))))
    else
     none
   else
    none
  | none=>none
 else
  some (Sum.inr (x1,x2))
noncomputable def Zfy (x:Config×Memo×Memo×Int×Int):Option ((Config×Memo×Memo×Int×Int)⊕((Memo×Memo))):=Zes x.1 x.2.1 x.2.2.1 x.2.2.2.1 x.2.2.2.2
noncomputable def Zkw (x:Config×Memo×Memo×Int×Int):Option ((Memo×Memo)):=ZaH Zfy x
noncomputable def ZiZ (x0:Config):Option (Memo) :=
 match ZjU x0 with
 | some y1 =>
  match Zmd (y1,x0.threads) with
  | some y2 =>
   match Zkw (x0,Memo.mk ([]:List Int) ([]:List (List Entry)),y2,x0.items,(0:Int)) with
   | some y3 =>
    some (y3.snd)
   | none=>none
  | none=>none
 | none=>none
noncomputable def Zjg (x:Config):Option (Memo):=ZiZ x
noncomputable def Zr5:Option (Thread) :=
 some (Thread.mk (0:Int) (0:Int) (Op.mk (0:Int) (0:Int)) ([]:List Entry) ([]:List Kid) ([]:List Int) (0:Int) (0:Int) (0:Int) (0:Int) (0:Int) (1:Int) (0:Int) (0:Int) (0:Int) (0:Int))
noncomputable def Zkb (x:Unit):Option (Thread):=Zr5
noncomputable def Zdu (x0:List Int):Option ((List Int)) :=
 bif fewB ((0:Nat)+x0.length) then
  some (x0)
 else
  none
noncomputable def Zbm (x:(List Int)):Option ((List Int)):=Zdu x
noncomputable def Zfd (x0:List Int) (x1:Int):Option (Int×Int) :=
 bif decide (x1<(0:Int)) then
  some (((0:Int),(30:Int)))
 else
  bif decide (x1≥(↑x0.length:Int)) then
   some (((0:Int),(30:Int)))
  else
   bif decide ((0:Int)≤x1) then
    bif decide (x1<(↑x0.length:Int)) then
     some ((x0.getD x1.toNat (0:Int),(0:Int)))
    else
     none
   else
    none
noncomputable def Zbs (x:(List Int)×Int):Option (Int×Int):=Zfd x.1 x.2
noncomputable def Zfq (x0:Memo) (x1:Int):Option (Int×Int) :=
 match Zbs (x0.words,x1) with
 | some y1 =>
  some (y1)
 | none=>none
noncomputable def ZbO (x:Memo×Int):Option (Int×Int):=Zfq x.1 x.2
noncomputable def ZnU (x0:Int) (x1:Int):Option (Int×Int) :=
 some ((Zad IntKind.u64 (Zad IntKind.u64 (Zad IntKind.u64 (x0.fdiv ((2:Int) ^ min (Int.toNat (32:Int)) IntKind.u64.bits)*x1.fdiv ((2:Int) ^ min (Int.toNat (32:Int)) IntKind.u64.bits))+(Zad IntKind.u64 (Zad IntKind.u64 (x0.fdiv ((2:Int) ^ min (Int.toNat (32:Int)) IntKind.u64.bits)*Zad IntKind.u64 (↑(BitVec.ofInt IntKind.u64.bits x1 &&& BitVec.ofInt IntKind.u64.bits (4294967295:Int)).toNat:Int))+(Zad IntKind.u64 (Zad IntKind.u64 (↑(BitVec.ofInt IntKind.u64.bits x0 &&& BitVec.ofInt IntKind.u64.bits (4294967295:Int)).toNat:Int)*Zad IntKind.u64 (↑(BitVec.ofInt IntKind.u64.bits x1 &&& BitVec.ofInt IntKind.u64.bits (4294967295:Int)).toNat:Int))).fdiv ((2:Int) ^ min (Int.toNat (32:Int)) IntKind.u64.bits))).fdiv ((2:Int) ^ min (Int.toNat (32:Int)) IntKind.u64.bits))+(Zad IntKind.u64 (Zad IntKind.u64 (↑(BitVec.ofInt IntKind.u64.bits (Zad IntKind.u64 (Zad IntKind.u64 (x0.fdiv ((2:Int) ^ min (Int.toNat (32:Int)) IntKind.u64.bits)*Zad IntKind.u64 (↑(BitVec.ofInt IntKind.u64.bits x1 &&& BitVec.ofInt IntKind.u64.bits (4294967295:Int)).toNat:Int))+(Zad IntKind.u64 (Zad IntKind.u64 (↑(BitVec.ofInt IntKind.u64.bits x0 &&& BitVec.ofInt IntKind.u64.bits (4294967295:Int)).toNat:Int)*Zad IntKind.u64 (↑(BitVec.ofInt IntKind.u64.bits x1 &&& BitVec.ofInt IntKind.u64.bits (4294967295:Int)).toNat:Int))).fdiv ((2:Int) ^ min (Int.toNat (32:Int)) IntKind.u64.bits))) &&& BitVec.ofInt IntKind.u64.bits (4294967295:Int)).toNat:Int)+Zad IntKind.u64 (Zad IntKind.u64 (↑(BitVec.ofInt IntKind.u64.bits x0 &&& BitVec.ofInt IntKind.u64.bits (4294967295:Int)).toNat:Int)*x1.fdiv ((2:Int) ^ min (Int.toNat (32:Int)) IntKind.u64.bits)))).fdiv ((2:Int) ^ min (Int.toNat (32:Int)) IntKind.u64.bits)),Zad IntKind.u64 (x0*x1)))
noncomputable def Zjs (x:Int×Int):Option (Int×Int):=ZnU x.1 x.2
noncomputable def ZoY (x0:Int) (x1:Int):Option (Int×Int) :=
 match Zjs (x0,x1) with
 | some y1 =>
  some (y1)
 | none=>none
noncomputable def Zdv (x:Int×Int):Option (Int×Int):=ZoY x.1 x.2
noncomputable def Zmm (x0:Int) (x1:Int) (x2:Int) (x3:Int):Option (Bool) :=
 bif decide (x1≥(0:Int)) then
  bif decide (Zad IntKind.i64 (x0+x1)≥x0) then
   bif decide (Zad IntKind.i64 (x0+x1)<x2) then
    some (true)
   else
    some (decide (Zad IntKind.i64 (x0+x1)>x3))
  else
   bif decide (x1<(0:Int)) then
    bif decide (Zad IntKind.i64 (x0+x1)<x0) then
     bif decide (Zad IntKind.i64 (x0+x1)<x2) then
      some (true)
     else
      some (decide (Zad IntKind.i64 (x0+x1)>x3))
    else
     some (true)
   else
    some (true)
 else
  bif decide (x1<(0:Int)) then
   bif decide (Zad IntKind.i64 (x0+x1)<x0) then
    bif decide (Zad IntKind.i64 (x0+x1)<x2) then
     some (true)
    else
     some (decide (Zad IntKind.i64 (x0+x1)>x3))
   else
    some (true)
  else
   some (true)
noncomputable def Zjj (x:Int×Int×Int×Int):Option (Bool):=Zmm x.1 x.2.1 x.2.2.1 x.2.2.2
noncomputable def ZhJ (x0:Op) (x1:Int) (x2:Int) (x3:Int):Option (Int×Bool) :=
 bif x0.tag == (2:Int) then
  some ((Zad IntKind.i64 (x1+Zad IntKind.i64 ((0:Int)-x0.v)),true))
 else
  bif x0.tag == (1:Int) then
   some ((Zad IntKind.i64 (x1+x0.v),true))
  else
   bif x0.tag == (3:Int) then
    some ((Zad IntKind.i64 (↑(BitVec.ofInt IntKind.i64.bits x1 ||| BitVec.ofInt IntKind.i64.bits x0.v).toNat:Int),true))
   else
    bif x0.tag == (4:Int) then
     some ((Zad IntKind.i64 (↑(BitVec.ofInt IntKind.i64.bits x1 &&& BitVec.ofInt IntKind.i64.bits x0.v).toNat:Int),true))
    else
     bif x0.tag == (5:Int) then
      some ((if x1>x0.v then x1 else x0.v,true))
     else
      bif x0.tag == (6:Int) then
       some ((if x1<x0.v then x1 else x0.v,true))
      else
       bif x0.tag == (7:Int) then
        some ((x0.v,true))
       else
        bif x0.tag == (9:Int) then
         bif decide (x0.v<(0:Int)) then
          some ((x1,false))
         else
          bif decide (x1<x2) then
           some ((x1,false))
          else
           bif decide (Zad IntKind.i64 (x1-x0.v)≤x1) then
            bif decide (Zad IntKind.i64 (x1-x0.v)≥x2) then
             some ((Zad IntKind.i64 (x1-x0.v),true))
            else
             some ((x2,true))
           else
            some ((x2,true))
        else
         bif x0.tag == (8:Int) then
          match Zjj (x1,x0.v,x2,x3) with
          | some y1 =>
           bif !y1 then
            some ((Zad IntKind.i64 (x1+x0.v),true))
           else
            some ((x1,false))
          | none=>none
         else
          some ((x1,false))
noncomputable def Zb7 (x:Op×Int×Int×Int):Option (Int×Bool):=ZhJ x.1 x.2.1 x.2.2.1 x.2.2.2
noncomputable def ZfT (x0:Memo) (x1:Int) (x2:Int):Option (Memo×Int) :=
 match Zbs (x0.words,x1) with
 | some y1 =>
  bif y1.snd != (0:Int) then
   some ((x0,y1.snd))
  else
   match Zbm x0.words with
   | some y2 =>
    bif decide ((0:Int)≤x1) then
     bif decide (x1<(↑(List.length y2):Int)) then
      some (({ x0 with words:=List.set y2 x1.toNat x2 },y1.snd))
     else
      none
    else
     none
   | none=>none
 | none=>none
noncomputable def ZbZ (x:Memo×Int×Int):Option (Memo×Int):=ZfT x.1 x.2.1 x.2.2
noncomputable def Zkm (x0:Config) (x1:Int):Option (Int) :=
 bif decide (x1<(0:Int)) then
  some ((-1:Int))
 else
  bif decide (x1≥x0.threads) then
   some ((-1:Int))
  else
   match Zcf x0 with
   | some y1 =>
    some (Zad IntKind.i64 (y1.lines+Zad IntKind.i64 ((2:Int)*x1)))
   | none=>none
noncomputable def Zc0 (x:Config×Int):Option (Int):=Zkm x.1 x.2
noncomputable def ZhC (x0:Turn):Option (Turn) :=
 bif x0.c.backend == (2:Int) then
  bif decide (x0.c.depth>(0:Int)) then
   some ({ x0 with th:={ x0.th with phase:=(4:Int) } })
  else
   bif x0.c.backend == (3:Int) then
    bif decide (x0.c.layers>(0:Int)) then
     some ({ x0 with th:={ x0.th with phase:=(17:Int),layer:=(1:Int) } })
    else
     some ({ x0 with th:={ x0.th with phase:=(2:Int) } })
   else
    some ({ x0 with th:={ x0.th with phase:=(2:Int) } })
 else
  bif x0.c.backend == (3:Int) then
   bif decide (x0.c.layers>(0:Int)) then
    some ({ x0 with th:={ x0.th with phase:=(17:Int),layer:=(1:Int) } })
   else
    some ({ x0 with th:={ x0.th with phase:=(2:Int) } })
  else
   some ({ x0 with th:={ x0.th with phase:=(2:Int) } })
noncomputable def ZhE (x:Turn):Option (Turn):=ZhC x
noncomputable def Zhr (x0:Turn):Option (Turn×Bool) :=
 bif x0.th.phase != (1:Int) then
  some ((x0,false))
 else
  match Zc0 (x0.c,x0.t) with
  | some y1 =>
   match ZbZ (x0.m,y1,(0:Int)) with
   | some y2 =>
    bif y2.snd != (0:Int) then
     some ((x0,true))
    else
     match ZhE { x0 with m:=y2.fst } with
     | some y3 =>
      some ((y3,true))
     | none=>none
   | none=>none
  | none=>none
noncomputable def Zhj (x:Turn):Option (Turn×Bool):=Zhr x
noncomputable def Zj3 (x0:Config) (x1:Int) (x2:Int):Option (Int) :=
 bif decide (x1<(0:Int)) then
  some ((-1:Int))
 else
  bif decide (x1≥x0.items) then
   some ((-1:Int))
  else
   match Zfc x0 with
   | some y1 =>
    bif decide (x2<(1:Int)) then
     some ((-1:Int))
    else
     bif decide (x2≥Zad IntKind.i64 ((1:Int)+y1)) then
      some ((-1:Int))
     else
      match Zcf x0 with
      | some y2 =>
       some (Zad IntKind.i64 (Zad IntKind.i64 (x1*y2.block)+x2))
      | none=>none
   | none=>none
noncomputable def Zee (x:Config×Int×Int):Option (Int):=Zj3 x.1 x.2.1 x.2.2
noncomputable def Zdd (x0:Said):Option (Int) :=
 some (Zad IntKind.i64 (Zad IntKind.i64 ((8:Int)*Zad IntKind.i64 (x0.n+(1:Int)))+x0.kind))
noncomputable def ZbH (x:Said):Option (Int):=Zdd x
noncomputable def Zkk (x0:Int):Option (Int) :=
 match ZbH (Said.mk (1:Int) x0) with
 | some y1 =>
  some (y1)
 | none=>none
noncomputable def ZeO (x:Int):Option (Int):=Zkk x
noncomputable def Zlw (x0:Int):Option (Int) :=
 some ((if (0:Int)>x0 then (0:Int) else x0).fdiv ((2:Int) ^ min (Int.toNat (1:Int)) IntKind.i64.bits))
noncomputable def Zif (x:Int):Option (Int):=Zlw x
noncomputable def Zkj (x0:Turn):Option (Turn) :=
 bif decide (x0.th.stop>(0:Int)) then
  bif decide (x0.th.at_≥(0:Int)) then
   bif decide (x0.th.at_<(↑x0.th.held.length:Int)) then
    some ({ x0 with th:={ x0.th with phase:=(7:Int) } })
   else
    some ({ x0 with th:={ x0.th with phase:=(11:Int) } })
  else
   some ({ x0 with th:={ x0.th with phase:=(11:Int) } })
 else
  bif decide (x0.th.at_≥(0:Int)) then
   bif decide (x0.th.at_<(↑x0.th.held.length:Int)) then
    some ({ x0 with th:={ x0.th with phase:=(7:Int) } })
   else
    some ({ x0 with th:={ x0.th with phase:=(2:Int) } })
  else
   some ({ x0 with th:={ x0.th with phase:=(2:Int) } })
noncomputable def ZfZ (x:Turn):Option (Turn):=Zkj x
noncomputable def ZjI (x0:Turn):Option (Turn) :=
 match ZfZ { x0 with th:={ x0.th with at_:=(0:Int) } } with
 | some y1 =>
  some (y1)
 | none=>none
noncomputable def ZdZ (x:Turn):Option (Turn):=ZjI x
noncomputable def Zji (x0:Turn):Option (Turn) :=
 match Zbm x0.th.held with
 | some y1 =>
  bif fewB (List.length y1+(x0.th.node::([]:List Int)).length) then
   match Zif x0.th.node with
   | some y2 =>
    bif decide (y2>(0:Int)) then
     some ({ x0 with th:={ x0.th with held:=y1++x0.th.node::([]:List Int),node:=y2 } })
    else
     match ZdZ { x0 with th:={ x0.th with held:=y1++x0.th.node::([]:List Int),node:=y2 } } with
     | some y3 =>
      some (y3)
     | none=>none
   | none=>none
  else
   none
 | none=>none
noncomputable def Zjk (x:Turn):Option (Turn):=Zji x
noncomputable def Zhl (x0:Memo) (x1:Int) (x2:Int) (x3:Int):Option (Memo×Bool×Int) :=
 match Zbs (x0.words,x1) with
 | some y1 =>
  bif y1.snd != (0:Int) then
   some ((x0,false,y1.snd))
  else
   bif y1.fst == x2 then
    match Zbm x0.words with
    | some y2 =>
     bif decide ((0:Int)≤x1) then
      bif decide (x1<(↑(List.length y2):Int)) then
       some (({ x0 with words:=List.set y2 x1.toNat x3 },y1.fst == x2,y1.snd))
      else
       none
     else
      none
    | none=>none
   else
    some ((x0,y1.fst == x2,y1.snd))
 | none=>none
noncomputable def ZcH (x:Memo×Int×Int×Int):Option (Memo×Bool×Int):=Zhl x.1 x.2.1 x.2.2.1 x.2.2.2
noncomputable def Zja (x0:Turn):Option (Bool) :=
 bif decide ((0:Int)<x0.th.until_) then
  some (decide (x0.th.until_≤x0.now))
 else
  some (false)
noncomputable def ZdL (x:Turn):Option (Bool):=Zja x
noncomputable def Zne (x0:Int):Option (Said) :=
 bif Zad IntKind.i64 (↑(BitVec.ofInt IntKind.i64.bits x0 &&& BitVec.ofInt IntKind.i64.bits (7:Int)).toNat:Int) == (5:Int) && (Zad IntKind.i64 (x0.fdiv ((2:Int) ^ min (Int.toNat (3:Int)) IntKind.i64.bits)-(1:Int)) == (-1:Int) && true) then
  some (Said.mk (Zad IntKind.i64 (↑(BitVec.ofInt IntKind.i64.bits x0 &&& BitVec.ofInt IntKind.i64.bits (7:Int)).toNat:Int)) (Zad IntKind.i64 (x0.fdiv ((2:Int) ^ min (Int.toNat (3:Int)) IntKind.i64.bits)-(1:Int))))
 else
  bif decide (Zad IntKind.i64 (↑(BitVec.ofInt IntKind.i64.bits x0 &&& BitVec.ofInt IntKind.i64.bits (7:Int)).toNat:Int)≥(1:Int)) then
   bif decide (Zad IntKind.i64 (↑(BitVec.ofInt IntKind.i64.bits x0 &&& BitVec.ofInt IntKind.i64.bits (7:Int)).toNat:Int)≤(3:Int)) then
    bif decide (Zad IntKind.i64 (x0.fdiv ((2:Int) ^ min (Int.toNat (3:Int)) IntKind.i64.bits)-(1:Int))≥(0:Int)) then
     bif decide (Zad IntKind.i64 (x0.fdiv ((2:Int) ^ min (Int.toNat (3:Int)) IntKind.i64.bits)-(1:Int))<(16:Int)) then
      some (Said.mk (Zad IntKind.i64 (↑(BitVec.ofInt IntKind.i64.bits x0 &&& BitVec.ofInt IntKind.i64.bits (7:Int)).toNat:Int)) (Zad IntKind.i64 (x0.fdiv ((2:Int) ^ min (Int.toNat (3:Int)) IntKind.i64.bits)-(1:Int))))
     else
      bif Zad IntKind.i64 (↑(BitVec.ofInt IntKind.i64.bits x0 &&& BitVec.ofInt IntKind.i64.bits (7:Int)).toNat:Int) == (4:Int) then
       bif decide ((Zad IntKind.i64 (x0.fdiv ((2:Int) ^ min (Int.toNat (3:Int)) IntKind.i64.bits)-(1:Int))).fdiv ((2:Int) ^ min (Int.toNat (4:Int)) IntKind.i64.bits)≥(0:Int)) then
        bif decide ((Zad IntKind.i64 (x0.fdiv ((2:Int) ^ min (Int.toNat (3:Int)) IntKind.i64.bits)-(1:Int))).fdiv ((2:Int) ^ min (Int.toNat (4:Int)) IntKind.i64.bits)<(4:Int)) then
         bif decide (Zad IntKind.i64 (↑(BitVec.ofInt IntKind.i64.bits (Zad IntKind.i64 (x0.fdiv ((2:Int) ^ min (Int.toNat (3:Int)) IntKind.i64.bits)-(1:Int))) &&& BitVec.ofInt IntKind.i64.bits (15:Int)).toNat:Int)≥(1:Int)) then
          bif decide (Zad IntKind.i64 (↑(BitVec.ofInt IntKind.i64.bits (Zad IntKind.i64 (x0.fdiv ((2:Int) ^ min (Int.toNat (3:Int)) IntKind.i64.bits)-(1:Int))) &&& BitVec.ofInt IntKind.i64.bits (15:Int)).toNat:Int)≤(3:Int)) then
           some (Said.mk (Zad IntKind.i64 (↑(BitVec.ofInt IntKind.i64.bits x0 &&& BitVec.ofInt IntKind.i64.bits (7:Int)).toNat:Int)) (Zad IntKind.i64 (x0.fdiv ((2:Int) ^ min (Int.toNat (3:Int)) IntKind.i64.bits)-(1:Int))))
          else
           some (Said.mk (0:Int) (0:Int))
         else
          some (Said.mk (0:Int) (0:Int))
        else
         some (Said.mk (0:Int) (0:Int))
       else
        some (Said.mk (0:Int) (0:Int))
      else
       some (Said.mk (0:Int) (0:Int))
    else
     bif Zad IntKind.i64 (↑(BitVec.ofInt IntKind.i64.bits x0 &&& BitVec.ofInt IntKind.i64.bits (7:Int)).toNat:Int) == (4:Int) then
      bif decide ((Zad IntKind.i64 (x0.fdiv ((2:Int) ^ min (Int.toNat (3:Int)) IntKind.i64.bits)-(1:Int))).fdiv ((2:Int) ^ min (Int.toNat (4:Int)) IntKind.i64.bits)≥(0:Int)) then
       bif decide ((Zad IntKind.i64 (x0.fdiv ((2:Int) ^ min (Int.toNat (3:Int)) IntKind.i64.bits)-(1:Int))).fdiv ((2:Int) ^ min (Int.toNat (4:Int)) IntKind.i64.bits)<(4:Int)) then
        bif decide (Zad IntKind.i64 (↑(BitVec.ofInt IntKind.i64.bits (Zad IntKind.i64 (x0.fdiv ((2:Int) ^ min (Int.toNat (3:Int)) IntKind.i64.bits)-(1:Int))) &&& BitVec.ofInt IntKind.i64.bits (15:Int)).toNat:Int)≥(1:Int)) then
         bif decide (Zad IntKind.i64 (↑(BitVec.ofInt IntKind.i64.bits (Zad IntKind.i64 (x0.fdiv ((2:Int) ^ min (Int.toNat (3:Int)) IntKind.i64.bits)-(1:Int))) &&& BitVec.ofInt IntKind.i64.bits (15:Int)).toNat:Int)≤(3:Int)) then
          some (Said.mk (Zad IntKind.i64 (↑(BitVec.ofInt IntKind.i64.bits x0 &&& BitVec.ofInt IntKind.i64.bits (7:Int)).toNat:Int)) (Zad IntKind.i64 (x0.fdiv ((2:Int) ^ min (Int.toNat (3:Int)) IntKind.i64.bits)-(1:Int))))
         else
          some (Said.mk (0:Int) (0:Int))
        else
         some (Said.mk (0:Int) (0:Int))
       else
        some (Said.mk (0:Int) (0:Int))
      else
       some (Said.mk (0:Int) (0:Int))
     else
      some (Said.mk (0:Int) (0:Int))
   else
    bif Zad IntKind.i64 (↑(BitVec.ofInt IntKind.i64.bits x0 &&& BitVec.ofInt IntKind.i64.bits (7:Int)).toNat:Int) == (4:Int) then
     bif decide ((Zad IntKind.i64 (x0.fdiv ((2:Int) ^ min (Int.toNat (3:Int)) IntKind.i64.bits)-(1:Int))).fdiv ((2:Int) ^ min (Int.toNat (4:Int)) IntKind.i64.bits)≥(0:Int)) then
      bif decide ((Zad IntKind.i64 (x0.fdiv ((2:Int) ^ min (Int.toNat (3:Int)) IntKind.i64.bits)-(1:Int))).fdiv ((2:Int) ^ min (Int.toNat (4:Int)) IntKind.i64.bits)<(4:Int)) then
       bif decide (Zad IntKind.i64 (↑(BitVec.ofInt IntKind.i64.bits (Zad IntKind.i64 (x0.fdiv ((2:Int) ^ min (Int.toNat (3:Int)) IntKind.i64.bits)-(1:Int))) &&& BitVec.ofInt IntKind.i64.bits (15:Int)).toNat:Int)≥(1:Int)) then
        bif decide (Zad IntKind.i64 (↑(BitVec.ofInt IntKind.i64.bits (Zad IntKind.i64 (x0.fdiv ((2:Int) ^ min (Int.toNat (3:Int)) IntKind.i64.bits)-(1:Int))) &&& BitVec.ofInt IntKind.i64.bits (15:Int)).toNat:Int)≤(3:Int)) then
         some (Said.mk (Zad IntKind.i64 (↑(BitVec.ofInt IntKind.i64.bits x0 &&& BitVec.ofInt IntKind.i64.bits (7:Int)).toNat:Int)) (Zad IntKind.i64 (x0.fdiv ((2:Int) ^ min (Int.toNat (3:Int)) IntKind.i64.bits)-(1:Int))))
        else
         some (Said.mk (0:Int) (0:Int))
       else
        some (Said.mk (0:Int) (0:Int))
      else
       some (Said.mk (0:Int) (0:Int))
     else
      some (Said.mk (0:Int) (0:Int))
    else
     some (Said.mk (0:Int) (0:Int))
  else
   bif Zad IntKind.i64 (↑(BitVec.ofInt IntKind.i64.bits x0 &&& BitVec.ofInt IntKind.i64.bits (7:Int)).toNat:Int) == (4:Int) then
    bif decide ((Zad IntKind.i64 (x0.fdiv ((2:Int) ^ min (Int.toNat (3:Int)) IntKind.i64.bits)-(1:Int))).fdiv ((2:Int) ^ min (Int.toNat (4:Int)) IntKind.i64.bits)≥(0:Int)) then
     bif decide ((Zad IntKind.i64 (x0.fdiv ((2:Int) ^ min (Int.toNat (3:Int)) IntKind.i64.bits)-(1:Int))).fdiv ((2:Int) ^ min (Int.toNat (4:Int)) IntKind.i64.bits)<(4:Int)) then
      bif decide (Zad IntKind.i64 (↑(BitVec.ofInt IntKind.i64.bits (Zad IntKind.i64 (x0.fdiv ((2:Int) ^ min (Int.toNat (3:Int)) IntKind.i64.bits)-(1:Int))) &&& BitVec.ofInt IntKind.i64.bits (15:Int)).toNat:Int)≥(1:Int)) then
       bif decide (Zad IntKind.i64 (↑(BitVec.ofInt IntKind.i64.bits (Zad IntKind.i64 (x0.fdiv ((2:Int) ^ min (Int.toNat (3:Int)) IntKind.i64.bits)-(1:Int))) &&& BitVec.ofInt IntKind.i64.bits (15:Int)).toNat:Int)≤(3:Int)) then
        some (Said.mk (Zad IntKind.i64 (↑(BitVec.ofInt IntKind.i64.bits x0 &&& BitVec.ofInt IntKind.i64.bits (7:Int)).toNat:Int)) (Zad IntKind.i64 (x0.fdiv ((2:Int) ^ min (Int.toNat (3:Int)) IntKind.i64.bits)-(1:Int))))
       else
        some (Said.mk (0:Int) (0:Int))
      else
       some (Said.mk (0:Int) (0:Int))
     else
      some (Said.mk (0:Int) (0:Int))
    else
     some (Said.mk (0:Int) (0:Int))
   else
    some (Said.mk (0:Int) (0:Int))
noncomputable def ZiN (x:Int):Option (Said):=Zne x
noncomputable def ZkZ (x0:Int):Option (Int) :=
 match ZiN x0 with
 | some y1 =>
  bif x0 == (0:Int) then
   some (y1.kind)
  else
   bif !(y1.kind == (0:Int) && (y1.n == (0:Int) && true)) then
    some (y1.kind)
   else
    some ((-1:Int))
 | none=>none
noncomputable def Zgq (x:Int):Option (Int):=ZkZ x
noncomputable def ZjX (x0:Turn) (x1:Int):Option (Turn) :=
 match Zgq x1 with
 | some y1 =>
  bif y1 == (1:Int) then
   some ({ x0 with th:={ x0.th with phase:=(6:Int),x:=x1 } })
  else
   bif y1 == (0:Int) then
    some ({ x0 with th:={ x0.th with phase:=(5:Int) } })
   else
    match ZdL x0 with
    | some y2 =>
     bif y2 then
      match ZdZ x0 with
      | some y3 =>
       some (y3)
      | none=>none
     else
      some (x0)
    | none=>none
 | none=>none
noncomputable def Zkd (x:Turn×Int):Option (Turn):=ZjX x.1 x.2
noncomputable def Zjf (x0:Int):Option (Int) :=
 match ZbH (Said.mk (2:Int) x0) with
 | some y1 =>
  some (y1)
 | none=>none
noncomputable def ZiV (x:Int):Option (Int):=Zjf x
noncomputable def Zih (x0:Turn):Option (Turn) :=
 match ZdZ { x0 with th:={ x0.th with stop:=x0.th.node } } with
 | some y1 =>
  some (y1)
 | none=>none
noncomputable def ZhV (x:Turn):Option (Turn):=Zih x
noncomputable def ZjK (x0:Turn):Option (Turn×Bool) :=
 match Zee (x0.c,x0.th.item,x0.th.node) with
 | some y1 =>
  match ZeO x0.t with
  | some y2 =>
   bif x0.th.phase == (4:Int) then
    match ZbO (x0.m,y1) with
    | some y3 =>
     bif y3.snd != (0:Int) then
      some ((x0,true))
     else
      match Zkd (x0,y3.fst) with
      | some y4 =>
       some ((y4,true))
      | none=>none
    | none=>none
   else
    bif x0.th.phase == (6:Int) then
     match ZiV x0.t with
     | some y3 =>
      match ZcH (x0.m,y1,x0.th.x,y3) with
      | some y4 =>
       bif y4.snd.snd != (0:Int) then
        some ((x0,true))
       else
        bif y4.snd.fst then
         match ZhV { x0 with m:=y4.fst,th:={ x0.th with phase:=(4:Int) } } with
         | some y5 =>
          some ((y5,true))
         | none=>none
        else
         some (({ x0 with m:=y4.fst,th:={ x0.th with phase:=(4:Int) } },true))
      | none=>none
     | none=>none
    else
     bif x0.th.phase == (5:Int) then
      match ZcH (x0.m,y1,(0:Int),y2) with
      | some y3 =>
       bif y3.snd.snd != (0:Int) then
        some ((x0,true))
       else
        bif y3.snd.fst then
         match Zjk { x0 with m:=y3.fst,th:={ x0.th with phase:=(4:Int) } } with
         | some y4 =>
          some ((y4,true))
         | none=>none
        else
         some (({ x0 with m:=y3.fst,th:={ x0.th with phase:=(4:Int) } },true))
      | none=>none
     else
      some ((x0,false))
  | none=>none
 | none=>none
noncomputable def Zj8 (x:Turn):Option (Turn×Bool):=ZjK x
noncomputable def Zjh (x0:Turn):Option (Int) :=
 bif decide (x0.th.at_<(0:Int)) then
  some ((-1:Int))
 else
  bif decide (x0.th.at_≥(↑x0.th.held.length:Int)) then
   some ((-1:Int))
  else
   bif decide ((0:Int)≤x0.th.at_) then
    bif decide (x0.th.at_<(↑x0.th.held.length:Int)) then
     match Zee (x0.c,x0.th.item,x0.th.held.getD x0.th.at_.toNat (0:Int)) with
     | some y1 =>
      some (y1)
     | none=>none
    else
     none
   else
    none
noncomputable def Zfb (x:Turn):Option (Int):=Zjh x
noncomputable def ZlO (x0:Int):Option (Int) :=
 match ZiN x0 with
 | some y1 =>
  bif decide (y1.kind≥(1:Int)) then
   bif decide (y1.kind≤(3:Int)) then
    some (y1.n)
   else
    some ((-1:Int))
  else
   some ((-1:Int))
 | none=>none
noncomputable def ZlI (x:Int):Option (Int):=ZlO x
noncomputable def Zmy (x0:Turn):Option (Turn) :=
 match Zfb x0 with
 | some y1 =>
  match ZbO (x0.m,y1) with
  | some y2 =>
   bif y2.snd != (0:Int) then
    some (x0)
   else
    match ZeO x0.t with
    | some y3 =>
     bif y2.fst == y3 then
      some ({ x0 with th:={ x0.th with phase:=(8:Int) } })
     else
      match Zgq y2.fst with
      | some y4 =>
       bif y4 == (3:Int) then
        match ZlI y2.fst with
        | some y5 =>
         some ({ x0 with th:={ x0.th with phase:=(9:Int),who:=y5 } })
        | none=>none
       else
        some (x0)
      | none=>none
    | none=>none
  | none=>none
 | none=>none
noncomputable def Zi1 (x:Turn):Option (Turn):=Zmy x
noncomputable def Zi5 (x0:Turn):Option (Turn) :=
 match ZfZ { x0 with th:={ x0.th with at_:=Zad IntKind.i64 (x0.th.at_+(1:Int)) } } with
 | some y1 =>
  some (y1)
 | none=>none
noncomputable def ZgM (x:Turn):Option (Turn):=Zi5 x
noncomputable def Zmz (x0:Turn):Option (Turn) :=
 match Zfb x0 with
 | some y1 =>
  match ZeO x0.t with
  | some y2 =>
   match ZcH (x0.m,y1,y2,(0:Int)) with
   | some y3 =>
    bif !y3.snd.fst then
     bif y3.snd.snd != (0:Int) then
      some (x0)
     else
      some ({ x0 with m:=y3.fst,th:={ x0.th with phase:=(7:Int) } })
    else
     bif y3.snd.snd != (0:Int) then
      some (x0)
     else
      match ZgM { x0 with m:=y3.fst } with
      | some y4 =>
       some (y4)
      | none=>none
   | none=>none
  | none=>none
 | none=>none
noncomputable def Zi0 (x:Turn):Option (Turn):=Zmz x
noncomputable def ZcL (x0:List Entry):Option ((List Entry)) :=
 bif fewB ((0:Nat)+x0.length) then
  some (x0)
 else
  none
noncomputable def Zbd (x:(List Entry)):Option ((List Entry)):=ZcL x
noncomputable def Zca (x0:List (List Entry)) (x1:Int):Option ((List Entry)×Int) :=
 bif decide (x1<(0:Int)) then
  some ((([]:List Entry),(30:Int)))
 else
  bif decide (x1≥(↑x0.length:Int)) then
   some ((([]:List Entry),(30:Int)))
  else
   bif decide ((0:Int)≤x1) then
    bif decide (x1<(↑x0.length:Int)) then
     some ((x0.getD x1.toNat ([]:List Entry),(0:Int)))
    else
     none
   else
    none
noncomputable def Zb8 (x:(List (List Entry))×Int):Option ((List Entry)×Int):=Zca x.1 x.2
noncomputable def Zhv (x0:Memo) (x1:Int):Option ((List Entry)×Int) :=
 match Zb8 (x0.boxes,x1) with
 | some y1 =>
  match Zbd y1.fst with
  | some y2 =>
   some ((y2,y1.snd))
  | none=>none
 | none=>none
noncomputable def ZhA (x:Memo×Int):Option ((List Entry)×Int):=Zhv x.1 x.2
noncomputable def Zed (x0:Unit) (x1:Int):Option ((List Kid)) :=
 bif decide (x1<(0:Int)) then
  none
 else
  bif decide (Zad IntKind.i64 (x1-Zad IntKind.i64 ((0:Int)-(0:Int)))>(0:Int)) then
   bif decide ((0:Int)≤Zad IntKind.i64 (x1-Zad IntKind.i64 ((0:Int)-(0:Int)))) then
    bif decide (Zad IntKind.i64 (x1-Zad IntKind.i64 ((0:Int)-(0:Int)))≤Zbl) then
     some (List.take (Int.toNat (0:Int)) (List.replicate (Zad IntKind.i64 (x1-Zad IntKind.i64 ((0:Int)-(0:Int)))).toNat (Kid.mk (0:Int) (0:Int))))
    else
     none
   else
    none
  else
   some (([]:List Kid))
noncomputable def Zd4 (x:Unit×Int):Option ((List Kid)):=Zed x.1 x.2
noncomputable def Zci (x0:List Kid) (x1:List (List Kid)) (x2:Int) (x3:Int):Option (((List Kid)×(List (List Kid))×Int×Int)⊕(((List Kid)))) :=
 bif decide (x3<x2) then
  bif decide ((0:Int)≤x3) then
   bif decide (x3<(↑x1.length:Int)) then
    bif fewB (x0.length+List.length (x1.getD x3.toNat ([]:List Kid))) then
     some (Sum.inl (x0++x1.getD x3.toNat ([]:List Kid),x1,x2,Zad IntKind.i64 (x3+(1:Int))))
    else
     none
   else
    none
  else
   none
 else
  some (Sum.inr x0)
noncomputable def Zbx (x:(List Kid)×(List (List Kid))×Int×Int):Option (((List Kid)×(List (List Kid))×Int×Int)⊕(((List Kid)))):=Zci x.1 x.2.1 x.2.2.1 x.2.2.2
noncomputable def Zc4 (x:(List Kid)×(List (List Kid))×Int×Int):Option (((List Kid))):=ZaH Zbx x
noncomputable def Zcs (x0:List (List Kid)) (x1:Int) (x2:List (List Kid)) (x3:Int) (x4:Int):Option (((List (List Kid))×Int×(List (List Kid))×Int×Int)⊕(((List (List Kid))×Int))) :=
 bif decide (x4<x3) then
  bif decide ((0:Int)≤x4) then
   bif decide (x4<(↑x2.length:Int)) then
    bif decide (Zad IntKind.i64 (x1+(↑(List.length (x2.getD x4.toNat ([]:List Kid))):Int))<(0:Int)) then
     none
    else
     some (Sum.inl (x0,Zad IntKind.i64 (x1+(↑(List.length (x2.getD x4.toNat ([]:List Kid))):Int)),x2,x3,Zad IntKind.i64 (x4+(1:Int))))
   else
    none
  else
   none
 else
  some (Sum.inr (x0,x1))
noncomputable def ZbD (x:(List (List Kid))×Int×(List (List Kid))×Int×Int):Option (((List (List Kid))×Int×(List (List Kid))×Int×Int)⊕(((List (List Kid))×Int))):=Zcs x.1 x.2.1 x.2.2.1 x.2.2.2.1 x.2.2.2.2
noncomputable def Zc7 (x:(List (List Kid))×Int×(List (List Kid))×Int×Int):Option (((List (List Kid))×Int)):=ZaH ZbD x
noncomputable def ZdI (x0:List (List Kid)):Option ((List Kid)) :=
 match Zc7 (x0,(0:Int),x0,(↑x0.length:Int),(0:Int)) with
 | some y1 =>
  match Zd4 ((),y1.snd) with
  | some y2 =>
   match Zc4 (y2,y1.fst,(↑(List.length y1.fst):Int),(0:Int)) with
   | some y3 =>
    some (y3)
   | none=>none
  | none=>none
 | none=>none
noncomputable def ZdF (x:(List (List Kid))):Option ((List Kid)):=ZdI x
noncomputable def ZdR (x0:Unit) (x1:Int):Option ((List Entry)) :=
 bif decide (x1<(0:Int)) then
  none
 else
  bif decide (Zad IntKind.i64 (x1-Zad IntKind.i64 ((0:Int)-(0:Int)))>(0:Int)) then
   bif decide ((0:Int)≤Zad IntKind.i64 (x1-Zad IntKind.i64 ((0:Int)-(0:Int)))) then
    bif decide (Zad IntKind.i64 (x1-Zad IntKind.i64 ((0:Int)-(0:Int)))≤Zbl) then
     some (List.take (Int.toNat (0:Int)) (List.replicate (Zad IntKind.i64 (x1-Zad IntKind.i64 ((0:Int)-(0:Int)))).toNat (Entry.mk (0:Int) (Op.mk (0:Int) (0:Int)))))
    else
     none
   else
    none
  else
   some (([]:List Entry))
noncomputable def ZdU (x:Unit×Int):Option ((List Entry)):=ZdR x.1 x.2
noncomputable def Zcd (x0:List Entry) (x1:List (List Entry)) (x2:Int) (x3:Int):Option (((List Entry)×(List (List Entry))×Int×Int)⊕(((List Entry)))) :=
 bif decide (x3<x2) then
  bif decide ((0:Int)≤x3) then
   bif decide (x3<(↑x1.length:Int)) then
    bif fewB (x0.length+List.length (x1.getD x3.toNat ([]:List Entry))) then
     some (Sum.inl (x0++x1.getD x3.toNat ([]:List Entry),x1,x2,Zad IntKind.i64 (x3+(1:Int))))
    else
     none
   else
    none
  else
   none
 else
  some (Sum.inr x0)
noncomputable def Zbp (x:(List Entry)×(List (List Entry))×Int×Int):Option (((List Entry)×(List (List Entry))×Int×Int)⊕(((List Entry)))):=Zcd x.1 x.2.1 x.2.2.1 x.2.2.2
noncomputable def ZcZ (x:(List Entry)×(List (List Entry))×Int×Int):Option (((List Entry))):=ZaH Zbp x
noncomputable def Zck (x0:List (List Entry)) (x1:Int) (x2:List (List Entry)) (x3:Int) (x4:Int):Option (((List (List Entry))×Int×(List (List Entry))×Int×Int)⊕(((List (List Entry))×Int))) :=
 bif decide (x4<x3) then
  bif decide ((0:Int)≤x4) then
   bif decide (x4<(↑x2.length:Int)) then
    bif decide (Zad IntKind.i64 (x1+(↑(List.length (x2.getD x4.toNat ([]:List Entry))):Int))<(0:Int)) then
     none
    else
     some (Sum.inl (x0,Zad IntKind.i64 (x1+(↑(List.length (x2.getD x4.toNat ([]:List Entry))):Int)),x2,x3,Zad IntKind.i64 (x4+(1:Int))))
   else
    none
  else
   none
 else
  some (Sum.inr (x0,x1))
noncomputable def Zbv (x:(List (List Entry))×Int×(List (List Entry))×Int×Int):Option (((List (List Entry))×Int×(List (List Entry))×Int×Int)⊕(((List (List Entry))×Int))):=Zck x.1 x.2.1 x.2.2.1 x.2.2.2.1 x.2.2.2.2
noncomputable def Zc5 (x:(List (List Entry))×Int×(List (List Entry))×Int×Int):Option (((List (List Entry))×Int)):=ZaH Zbv x
noncomputable def Zdt (x0:List (List Entry)):Option ((List Entry)) :=
 match Zc5 (x0,(0:Int),x0,(↑x0.length:Int),(0:Int)) with
 | some y1 =>
  match ZdU ((),y1.snd) with
  | some y2 =>
   match ZcZ (y2,y1.fst,(↑(List.length y1.fst):Int),(0:Int)) with
   | some y3 =>
    some (y3)
   | none=>none
  | none=>none
 | none=>none
noncomputable def Zdl (x:(List (List Entry))):Option ((List Entry)):=Zdt x
noncomputable def ZmY (x0:List (List Entry)):Option ((List Entry)) :=
 match Zdl x0 with
 | some y1 =>
  some (y1)
 | none=>none
noncomputable def Zkf (x:(List (List Entry))):Option ((List Entry)):=ZmY x
noncomputable def Zi8 (x0:Turn) (x1:Int) (x2:List Entry):Option (Turn) :=
 match ZdF (x0.th.kids::(Kid.mk x1 (↑x0.th.batch.length:Int)::([]:List Kid))::([]:List (List Kid))) with
 | some y1 =>
  match Zkf (x0.th.batch::x2::([]:List (List Entry))) with
  | some y2 =>
   some ({ x0 with th:={ x0.th with batch:=y2,kids:=y1 } })
  | none=>none
 | none=>none
noncomputable def Zfe (x:Turn×Int×(List Entry)):Option (Turn):=Zi8 x.1 x.2.1 x.2.2
noncomputable def Zko (x0:Turn):Option (Turn) :=
 match ZhA (x0.m,x0.th.who) with
 | some y1 =>
  bif y1.snd != (0:Int) then
   some (x0)
  else
   match Zfe (x0,x0.th.who,y1.fst) with
   | some y2 =>
    some ({ y2 with th:={ y2.th with phase:=(10:Int) } })
   | none=>none
 | none=>none
noncomputable def ZgO (x:Turn):Option (Turn):=Zko x
noncomputable def Zmi (x0:Turn):Option (Turn) :=
 match Zfb x0 with
 | some y1 =>
  match ZbZ (x0.m,y1,(0:Int)) with
  | some y2 =>
   bif y2.snd != (0:Int) then
    some (x0)
   else
    match ZgM { x0 with m:=y2.fst } with
    | some y3 =>
     some (y3)
    | none=>none
  | none=>none
 | none=>none
noncomputable def Zi2 (x:Turn):Option (Turn):=Zmi x
noncomputable def Zdp (x0:List (List Entry)):Option ((List (List Entry))) :=
 bif fewB ((0:Nat)+x0.length) then
  some (x0)
 else
  none
noncomputable def Zdk (x:(List (List Entry))):Option ((List (List Entry))):=Zdp x
noncomputable def Zmf (x0:Memo) (x1:Int) (x2:List Entry):Option (Memo×Int) :=
 match Zb8 (x0.boxes,x1) with
 | some y1 =>
  bif y1.snd != (0:Int) then
   some ((x0,y1.snd))
  else
   match Zdk x0.boxes with
   | some y2 =>
    match Zbd x2 with
    | some y3 =>
     bif decide ((0:Int)≤x1) then
      bif decide (x1<(↑(List.length y2):Int)) then
       some (({ x0 with boxes:=List.set y2 x1.toNat y3 },(0:Int)))
      else
       none
     else
      none
    | none=>none
   | none=>none
 | none=>none
noncomputable def Zhe (x:Memo×Int×(List Entry)):Option (Memo×Int):=Zmf x.1 x.2.1 x.2.2
noncomputable def Zkg (x0:Turn):Option (Turn) :=
 match Zhe (x0.m,x0.t,x0.th.batch) with
 | some y1 =>
  bif y1.snd != (0:Int) then
   some (x0)
  else
   some ({ x0 with m:=y1.fst,th:={ x0.th with phase:=(12:Int) } })
 | none=>none
noncomputable def Zg0 (x:Turn):Option (Turn):=Zkg x
noncomputable def ZgR (x0:Int):Option (Int) :=
 match ZbH (Said.mk (3:Int) x0) with
 | some y1 =>
  some (y1)
 | none=>none
noncomputable def ZgQ (x:Int):Option (Int):=ZgR x
noncomputable def Zkp (x0:Turn):Option (Turn) :=
 match Zee (x0.c,x0.th.item,x0.th.stop) with
 | some y1 =>
  match ZgQ x0.t with
  | some y2 =>
   match ZbZ (x0.m,y1,y2) with
   | some y3 =>
    bif y3.snd != (0:Int) then
     some (x0)
    else
     some ({ x0 with m:=y3.fst,th:={ x0.th with phase:=(13:Int) } })
   | none=>none
  | none=>none
 | none=>none
noncomputable def ZgX (x:Turn):Option (Turn):=Zkp x
noncomputable def Zje (x0:Turn):Option (Turn×Bool) :=
 bif x0.th.phase == (7:Int) then
  match Zi1 x0 with
  | some y1 =>
   some ((y1,true))
  | none=>none
 else
  bif x0.th.phase == (8:Int) then
   match Zi0 x0 with
   | some y1 =>
    some ((y1,true))
   | none=>none
  else
   bif x0.th.phase == (9:Int) then
    match ZgO x0 with
    | some y1 =>
     some ((y1,true))
    | none=>none
   else
    bif x0.th.phase == (10:Int) then
     match Zi2 x0 with
     | some y1 =>
      some ((y1,true))
     | none=>none
    else
     bif x0.th.phase == (11:Int) then
      match Zg0 x0 with
      | some y1 =>
       some ((y1,true))
      | none=>none
     else
      bif x0.th.phase == (12:Int) then
       match ZgX x0 with
       | some y1 =>
        some ((y1,true))
       | none=>none
      else
       some ((x0,false))
noncomputable def Zi6 (x:Turn):Option (Turn×Bool):=Zje x
noncomputable def ZhG (x0:Turn):Option (Turn) :=
 bif decide (x0.th.layer<x0.c.layers) then
  match ZdL { x0 with th:={ x0.th with phase:=(2:Int) } } with
  | some y1 =>
   bif !y1 then
    some ({ x0 with th:={ x0.th with phase:=(17:Int),layer:=Zad IntKind.i64 (x0.th.layer+(1:Int)) } })
   else
    some ({ x0 with th:={ x0.th with phase:=(2:Int) } })
  | none=>none
 else
  some ({ x0 with th:={ x0.th with phase:=(2:Int) } })
noncomputable def Zcg (x:Turn):Option (Turn):=ZhG x
noncomputable def Ziz (x0:Int) (x1:Int):Option (Int) :=
 match ZbH (Said.mk (4:Int) (Zad IntKind.i64 (Zad IntKind.i64 (x0*(2:Int) ^ min (Int.toNat (4:Int)) IntKind.i64.bits)+x1))) with
 | some y1 =>
  some (y1)
 | none=>none
noncomputable def Ziv (x:Int×Int):Option (Int):=Ziz x.1 x.2
noncomputable def Zho (x0:Turn×Int) (x1:Int):Option (Int) :=
 match Zc0 (x0.fst.c,x1) with
 | some y1 =>
  some (y1)
 | none=>none
noncomputable def ZbT (x:(Turn×Int)×Int):Option (Int):=Zho x.1 x.2
noncomputable def ZnY:Option (Int) :=
 match ZbH (Said.mk (5:Int) (-1:Int)) with
 | some y1 =>
  some (y1)
 | none=>none
noncomputable def Zgz (x:Unit):Option (Int):=ZnY
noncomputable def Zik (x0:Config) (x1:Int):Option (Int) :=
 bif decide (x1<(0:Int)) then
  some ((-1:Int))
 else
  bif decide (x1≥x0.threads) then
   some ((-1:Int))
  else
   match Zcf x0 with
   | some y1 =>
    some (Zad IntKind.i64 (Zad IntKind.i64 (y1.lines+Zad IntKind.i64 ((2:Int)*x1))+(1:Int)))
   | none=>none
noncomputable def ZeP (x:Config×Int):Option (Int):=Zik x.1 x.2
noncomputable def ZhZ (x0:Turn):Option (Turn) :=
 bif decide (x0.th.at_<(0:Int)) then
  some ({ x0 with th:={ x0.th with phase:=(0:Int) },done:=true })
 else
  bif decide (x0.th.at_≥(↑x0.th.kids.length:Int)) then
   some ({ x0 with th:={ x0.th with phase:=(0:Int) },done:=true })
  else
   bif decide ((0:Int)≤x0.th.at_) then
    bif decide (x0.th.at_<(↑x0.th.kids.length:Int)) then
     some ({ x0 with th:={ x0.th with phase:=(15:Int) } })
    else
     none
   else
    none
noncomputable def Zde (x:Turn):Option (Turn):=ZhZ x
noncomputable def Zkq (x0:List Entry) (x1:Int):Option ((List Entry)) :=
 bif decide ((0:Int)≤if (if (↑x0.length:Int)<x1 then (↑x0.length:Int) else x1)>(0:Int) then if (↑x0.length:Int)<x1 then (↑x0.length:Int) else x1 else (0:Int)) then
  bif decide ((if (if (↑x0.length:Int)<x1 then (↑x0.length:Int) else x1)>(0:Int) then if (↑x0.length:Int)<x1 then (↑x0.length:Int) else x1 else (0:Int))≤(↑x0.length:Int)) then
   match Zbd (List.drop (Int.toNat (0:Int)) (List.take (if (if (↑x0.length:Int)<x1 then (↑x0.length:Int) else x1)>(0:Int) then if (↑x0.length:Int)<x1 then (↑x0.length:Int) else x1 else (0:Int)).toNat x0)) with
   | some y1 =>
    some (y1)
   | none=>none
  else
   none
 else
  none
noncomputable def ZjT (x:(List Entry)×Int):Option ((List Entry)):=Zkq x.1 x.2
noncomputable def Zgo (x0:Memo) (x1:Int) (x2:Int):Option (Memo×Int×Int) :=
 match Zbs (x0.words,x1) with
 | some y1 =>
  bif y1.snd != (0:Int) then
   some ((x0,(0:Int),y1.snd))
  else
   match Zbm x0.words with
   | some y2 =>
    bif decide ((0:Int)≤x1) then
     bif decide (x1<(↑(List.length y2):Int)) then
      some (({ x0 with words:=List.set y2 x1.toNat x2 },y1))
     else
      none
    else
     none
   | none=>none
 | none=>none
noncomputable def ZkX (x:Memo×Int×Int):Option (Memo×Int×Int):=Zgo x.1 x.2.1 x.2.2
noncomputable def ZjV (x0:Config) (x1:Int) (x2:Int) (x3:Int):Option (Int) :=
 bif decide (x1<(0:Int)) then
  some ((-1:Int))
 else
  bif decide (x1≥x0.items) then
   some ((-1:Int))
  else
   bif decide (x2<(1:Int)) then
    some ((-1:Int))
   else
    bif decide (x2≥Zad IntKind.i64 ((1:Int)+x0.layers)) then
     some ((-1:Int))
    else
     bif decide (x3<(0:Int)) then
      some ((-1:Int))
     else
      bif decide (x3≥x0.width) then
       some ((-1:Int))
      else
       match Zcf x0 with
       | some y1 =>
        match Zcf x0 with
        | some y2 =>
         some (Zad IntKind.i64 (Zad IntKind.i64 (Zad IntKind.i64 (Zad IntKind.i64 (x1*y1.block)+y2.slots)+Zad IntKind.i64 (Zad IntKind.i64 (x2-(1:Int))*x0.width))+x3))
        | none=>none
       | none=>none
noncomputable def ZjR (x:Config×Int×Int×Int):Option (Int):=ZjV x.1 x.2.1 x.2.2.1 x.2.2.2
noncomputable def ZgA (x0:Tape):Option (Int) :=
 bif decide (x0.at_<(0:Int)) then
  some ((0:Int))
 else
  some (if Zad IntKind.i64 ((↑x0.l.length:Int)-x0.at_)>(0:Int) then Zad IntKind.i64 ((↑x0.l.length:Int)-x0.at_) else (0:Int))
noncomputable def Zfp (x:Tape):Option (Int):=ZgA x
end Go.Proofs.Mill
