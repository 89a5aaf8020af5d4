/- What the functions compute. -/
import Derived.Test.YtaopdopnecognaaGreatMillAll3
namespace Go.Proofs.Mill
set_option linter.all false
noncomputable def Zqr (x0:List SEntry) (x1:Int) (x2:Int):Option (((List SEntry)×Int×Int)⊕(((List SEntry)))) :=
 bif decide (x2<x1) then
  bif fewB (x0.length+(SEntry.mk (2:Int) x2 (0:Int) (Op.mk (0:Int) (0:Int))::([]:List SEntry)).length) then
   some (Sum.inl (x0++SEntry.mk (2:Int) x2 (0:Int) (Op.mk (0:Int) (0:Int))::([]:List SEntry),x1,Zad IntKind.i64 (x2+(1:Int))))
  else
   none
 else
  some (Sum.inr x0)
noncomputable def Zh1 (x:(List SEntry)×Int×Int):Option (((List SEntry)×Int×Int)⊕(((List SEntry)))):=Zqr x.1 x.2.1 x.2.2
noncomputable def Zp6 (x:(List SEntry)×Int×Int):Option (((List SEntry))):=ZaH Zh1 x
noncomputable def Zti (x0:Config):Option ((List SEntry)) :=
 match Zp6 (([]:List SEntry),x0.threads,(0:Int)) with
 | some y1 =>
  some (y1)
 | none=>none
noncomputable def Zkb (x:Config):Option ((List SEntry)):=Zti x
noncomputable def ZpA (x0:Int) (x1:List SEntry) (x2:List SEntry) (x3:List SEntry) (x4:Int) (x5:Int):Option ((Int×(List SEntry)×(List SEntry)×(List SEntry)×Int×Int)⊕(((List SEntry))⊕(Int×(List SEntry)×(List SEntry)))) :=
 bif decide (x5<x4) then
  bif decide ((0:Int)≤x5) then
   bif decide (x5<(↑x3.length:Int)) then
    bif decide ((↑x1.length:Int)≥(65536:Int)) then
     some (Sum.inr (Sum.inl x1))
    else
     bif fewB (x1.length+(x3.getD x5.toNat ZaK::([]:List SEntry)).length) then
      some (Sum.inl (x0,x1++x3.getD x5.toNat ZaK::([]:List SEntry),x2,x3,x4,Zad IntKind.i64 (x5+(1:Int))))
     else
      none
   else
    none
  else
   none
 else
  some (Sum.inr (Sum.inr (x0,x1,x2)))
noncomputable def Zhy (x:Int×(List SEntry)×(List SEntry)×(List SEntry)×Int×Int):Option ((Int×(List SEntry)×(List SEntry)×(List SEntry)×Int×Int)⊕(((List SEntry))⊕(Int×(List SEntry)×(List SEntry)))):=ZpA x.1 x.2.1 x.2.2.1 x.2.2.2.1 x.2.2.2.2.1 x.2.2.2.2.2
noncomputable def ZpO (x:Int×(List SEntry)×(List SEntry)×(List SEntry)×Int×Int):Option (((List SEntry))⊕(Int×(List SEntry)×(List SEntry))):=ZaH Zhy x
noncomputable def Zo7 (x0:Int) (x1:List SEntry) (x2:List SEntry):Option ((Int×(List SEntry)×(List SEntry))⊕(((List SEntry)))) :=
 bif decide (x0>(0:Int)) then
  match ZpO (x0,x1,x2,x2,(↑x2.length:Int),(0:Int)) with
  | some (.inl y1) =>
   some (Sum.inr y1)
  | some (.inr y2) =>
   some (Sum.inl (Zad IntKind.i64 (y2.fst-(1:Int)),y2.snd))
  | none=>none
 else
  some (Sum.inr x1)
noncomputable def Zg1 (x:Int×(List SEntry)×(List SEntry)):Option ((Int×(List SEntry)×(List SEntry))⊕(((List SEntry)))):=Zo7 x.1 x.2.1 x.2.2
noncomputable def Zo3 (x:Int×(List SEntry)×(List SEntry)):Option (((List SEntry))):=ZaH Zg1 x
noncomputable def ZrA (x0:Config) (x1:Int):Option ((List SEntry)) :=
 match Zkb x0 with
 | some y1 =>
  match Zo3 (x1,([]:List SEntry),y1) with
  | some y2 =>
   some (y2)
  | none=>none
 | none=>none
noncomputable def Zi6 (x:Config×Int):Option ((List SEntry)):=ZrA x.1 x.2
noncomputable def ZpX (x0:Config):Option (Int) :=
 some (Zad IntKind.i64 (Zad IntKind.i64 ((20:Int)+Zad IntKind.i64 ((8:Int)*x0.depth))+Zad IntKind.i64 (x0.layers*Zad IntKind.i64 ((20:Int)+Zad IntKind.i64 ((2:Int)*x0.spin)))))
noncomputable def Zk8 (x:Config):Option (Int):=ZpX x
noncomputable def Zrj (x0:Config):Option (Int) :=
 match Zk8 x0 with
 | some y1 =>
  some (Zad IntKind.i64 ((20:Int)+Zad IntKind.i64 (Zad IntKind.i64 ((4:Int)*y1)*x0.threads)))
 | none=>none
noncomputable def ZgC (x:Config):Option (Int):=Zrj x
noncomputable def Zpc (x0:Config) (x1:Int) (x2:Int):Option ((Config×Int×Int)⊕((Int))) :=
 bif decide (x2<x0.depth) then
  some (Sum.inl (x0,Zad IntKind.i64 ((2:Int)*x1),Zad IntKind.i64 (x2+(1:Int))))
 else
  some (Sum.inr x1)
noncomputable def Zpu (x:Config×Int×Int):Option ((Config×Int×Int)⊕((Int))):=Zpc x.1 x.2.1 x.2.2
noncomputable def Zo1 (x:Config×Int×Int):Option ((Int)):=ZaH Zpu x
noncomputable def ZrC (x0:Config):Option (Int) :=
 match Zo1 (x0,(1:Int),(0:Int)) with
 | some y1 =>
  some (Zad IntKind.i64 (y1-(1:Int)))
 | none=>none
noncomputable def ZrF (x:Config):Option (Int):=ZrC x
noncomputable def Zri (x0:Config):Option (Int) :=
 match ZrF x0 with
 | some y1 =>
  some (Zad IntKind.i64 (Zad IntKind.i64 ((1:Int)+y1)+Zad IntKind.i64 (x0.layers*x0.width)))
 | none=>none
noncomputable def Zrt (x:Config):Option (Int):=Zri x
noncomputable def ZeZ (x0:Thread):Option (Bool) :=
 some (x0.phase != (0:Int))
noncomputable def Zb7 (x:Thread):Option (Bool):=ZeZ x
noncomputable def Zhf (x0:Int) (x1:Int):Option (Bool) :=
 bif decide ((0:Int)≤x0) then
  some (decide (x0<x1))
 else
  some (false)
noncomputable def Zdx (x:Int×Int):Option (Bool):=Zhf x.1 x.2
noncomputable def ZmL (x0:Int):Option (Bool) :=
 bif decide ((1:Int)≤x0) then
  some (decide (x0≤(9:Int)))
 else
  some (false)
noncomputable def Zj7 (x:Int):Option (Bool):=ZmL x
noncomputable def ZlP (x0:Op) (x1:Bool):Option (Bool) :=
 bif !x1 then
  match Zj7 x0.tag with
  | some y1 =>
   bif y1 then
    some (decide (x0.tag<(8:Int)))
   else
    some (false)
  | none=>none
 else
  bif x0.tag == (9:Int) then
   some (decide (x0.v≥(0:Int)))
  else
   some (x0.tag == (8:Int))
noncomputable def Zjm (x:Op×Bool):Option (Bool):=ZlP x.1 x.2
noncomputable def Zh3 (x0:Config) (x1:SEntry):Option (Int) :=
 bif x1.kind == (1:Int) then
  bif x1.kind == (1:Int) then
   match Zdx (x1.t,x0.threads) with
   | some y1 =>
    bif !y1 then
     some ((91:Int))
    else
     bif x1.kind == (2:Int) then
      some ((0:Int))
     else
      match Zdx (x1.item,x0.items) with
      | some y2 =>
       bif !y2 then
        some ((92:Int))
       else
        match Zjm (x1.op,x0.bounded) with
        | some y3 =>
         bif !y3 then
          some ((93:Int))
         else
          some ((0:Int))
        | none=>none
      | none=>none
   | none=>none
  else
   bif x1.kind == (3:Int) then
    some ((0:Int))
   else
    some ((90:Int))
 else
  bif x1.kind == (2:Int) then
   match Zdx (x1.t,x0.threads) with
   | some y1 =>
    bif !y1 then
     some ((91:Int))
    else
     bif x1.kind == (2:Int) then
      some ((0:Int))
     else
      match Zdx (x1.item,x0.items) with
      | some y2 =>
       bif !y2 then
        some ((92:Int))
       else
        match Zjm (x1.op,x0.bounded) with
        | some y3 =>
         bif !y3 then
          some ((93:Int))
         else
          some ((0:Int))
        | none=>none
      | none=>none
   | none=>none
  else
   bif x1.kind == (3:Int) then
    some ((0:Int))
   else
    some ((90:Int))
noncomputable def ZhY (x:Config×SEntry):Option (Int):=Zh3 x.1 x.2
noncomputable def Zia (x0:List Thread):Option ((List Thread)) :=
 bif fewB ((0:Nat)+x0.length) then
  some (x0)
 else
  none
noncomputable def Zic (x:(List Thread)):Option ((List Thread)):=Zia x
noncomputable def ZiR (x0:List Mark):Option ((List Mark)) :=
 bif fewB ((0:Nat)+x0.length) then
  some (x0)
 else
  none
noncomputable def Zi3 (x:(List Mark)):Option ((List Mark)):=ZiR x
noncomputable def ZiV (x0:List Event):Option ((List Event)) :=
 bif fewB ((0:Nat)+x0.length) then
  some (x0)
 else
  none
noncomputable def ZiX (x:(List Event)):Option ((List Event)):=ZiV x
noncomputable def Zew (x0:Int) (x1:Int):Option (Int) :=
 bif decide (x0<(1:Int)) then
  some ((0:Int))
 else
  bif decide (Zad IntKind.i64 (x0-(1:Int))<(0:Int)) then
   none
  else
   some (Zad IntKind.i64 (↑(BitVec.ofInt IntKind.i64.bits (Zad IntKind.i64 ((1:Int)*(2:Int) ^ min (Zad IntKind.i64 (x0-(1:Int))).toNat IntKind.i64.bits)) ||| BitVec.ofInt IntKind.i64.bits (Zad IntKind.i64 (↑(BitVec.ofInt IntKind.i64.bits (x1.fdiv ((2:Int) ^ min (Int.toNat (1:Int)) IntKind.i64.bits)) &&& BitVec.ofInt IntKind.i64.bits (Zad IntKind.i64 (Zad IntKind.i64 ((1:Int)*(2:Int) ^ min (Zad IntKind.i64 (x0-(1:Int))).toNat IntKind.i64.bits)-(1:Int)))).toNat:Int))).toNat:Int))
noncomputable def Zj9 (x:Int×Int):Option (Int):=Zew x.1 x.2
noncomputable def ZhP (x0:Config) (x1:Int) (x2:Thread) (x3:Int) (x4:Op) (x5:Int):Option (Thread) :=
 match Zj9 (x0.depth,x1) with
 | some y1 =>
  bif decide (x0.wait>(0:Int)) then
   some (Thread.mk (1:Int) x3 x4 (Entry.mk x1 x4::([]:List Entry)) ([]:List Kid) ([]:List Int) (0:Int) y1 (0:Int) (0:Int) (0:Int) x2.width (0:Int) (0:Int) (0:Int) (Zad IntKind.i64 (x5+x0.wait)))
  else
   some (Thread.mk (1:Int) x3 x4 (Entry.mk x1 x4::([]:List Entry)) ([]:List Kid) ([]:List Int) (0:Int) y1 (0:Int) (0:Int) (0:Int) x2.width (0:Int) (0:Int) (0:Int) (0:Int))
 | none=>none
noncomputable def Zh6 (x:Config×Int×Thread×Int×Op×Int):Option (Thread):=ZhP x.1 x.2.1 x.2.2.1 x.2.2.2.1 x.2.2.2.2.1 x.2.2.2.2.2
noncomputable def ZdE (x0:Config):Option (Int) :=
 bif decide (x0.threads<(1:Int)) then
  some ((50:Int))
 else
  bif decide (x0.threads>(16:Int)) then
   some ((50:Int))
  else
   bif decide (x0.items<(1:Int)) then
    some ((51:Int))
   else
    bif decide (x0.items>(4:Int)) then
     some ((51:Int))
    else
     bif decide (x0.backend<(1:Int)) then
      some ((52:Int))
     else
      bif decide (x0.backend>(3:Int)) then
       some ((52:Int))
      else
       bif decide (x0.depth<(0:Int)) then
        some ((53:Int))
       else
        bif decide (x0.depth>(4:Int)) then
         some ((53:Int))
        else
         bif decide (x0.layers<(0:Int)) then
          some ((54:Int))
         else
          bif decide (x0.layers>(3:Int)) then
           some ((54:Int))
          else
           bif decide (x0.width<(1:Int)) then
            some ((55:Int))
           else
            bif decide (x0.width>(8:Int)) then
             some ((55:Int))
            else
             bif decide (x0.spin<(0:Int)) then
              some ((56:Int))
             else
              bif decide (x0.spin>(20:Int)) then
               some ((56:Int))
              else
               bif decide (x0.wait<(0:Int)) then
                some ((57:Int))
               else
                bif decide (x0.wait>(1000:Int)) then
                 some ((57:Int))
                else
                 bif x0.bounded then
                  bif decide (x0.lo>x0.init) then
                   some ((58:Int))
                  else
                   bif decide (x0.init>x0.hi) then
                    some ((58:Int))
                   else
                    some ((0:Int))
                 else
                  some ((0:Int))
noncomputable def Zml (x:Config):Option (Int):=ZdE x
noncomputable def ZtA (x0:Op) (x1:Bool):Option (Bool) :=
 bif x1 then
  bif x0.tag == (8:Int) then
   some (true)
  else
   bif x0.tag == (9:Int) then
    some (decide (x0.v≥(0:Int)))
   else
    some (false)
 else
  bif decide (x0.tag≥(1:Int)) then
   some (decide (x0.tag≤(7:Int)))
  else
   some (false)
noncomputable def ZtN (x:Op×Bool):Option (Bool):=ZtA x.1 x.2
noncomputable def ZtR (x0:Config):Option (Bool) :=
 match Zml x0 with
 | some y1 =>
  some (y1 == (0:Int))
 | none=>none
noncomputable def ZnR (x:Config):Option (Bool):=ZtR x
noncomputable def Zrh (x0:Config):Option (Int) :=
 some (Zad IntKind.i64 (Zad IntKind.i64 ((20:Int)+Zad IntKind.i64 ((8:Int)*x0.depth))+Zad IntKind.i64 (x0.layers*Zad IntKind.i64 ((20:Int)+Zad IntKind.i64 ((2:Int)*x0.spin)))))
noncomputable def Zmp (x:Config):Option (Int):=Zrh x
noncomputable def Zqt (x0:Config):Option (Int) :=
 match Zmp x0 with
 | some y1 =>
  some (Zad IntKind.i64 (Zad IntKind.i64 (Zad IntKind.i64 ((4:Int)*x0.threads)*y1)+(20:Int)))
 | none=>none
noncomputable def Zk9 (x:Config):Option (Int):=Zqt x
noncomputable def Zqn (x0:List SEntry) (x1:List SEntry) (x2:Int):Option (((List SEntry)×(List SEntry)×Int)⊕((Unit)⊕(Bool))) :=
 bif decide (x2<(↑x0.length:Int)) then
  bif decide ((0:Int)≤x2) then
   bif decide (x2<(↑x0.length:Int)) then
    bif decide ((0:Int)≤x2) then
     bif decide (x2<(↑x1.length:Int)) then
      bif !((x0.getD x2.toNat ZaK).kind == (x1.getD x2.toNat ZaK).kind && ((x0.getD x2.toNat ZaK).t == (x1.getD x2.toNat ZaK).t && ((x0.getD x2.toNat ZaK).item == (x1.getD x2.toNat ZaK).item && ((x0.getD x2.toNat ZaK).op.tag == (x1.getD x2.toNat ZaK).op.tag && ((x0.getD x2.toNat ZaK).op.v == (x1.getD x2.toNat ZaK).op.v && true) && true)))) then
       some (Sum.inr (Sum.inr false))
      else
       some (Sum.inl (x0,x1,Zad IntKind.i64 (x2+(1:Int))))
     else
      none
    else
     none
   else
    none
  else
   none
 else
  some (Sum.inr (Sum.inl ()))
noncomputable def ZhO (x:(List SEntry)×(List SEntry)×Int):Option (((List SEntry)×(List SEntry)×Int)⊕((Unit)⊕(Bool))):=Zqn x.1 x.2.1 x.2.2
noncomputable def Zqa (x:(List SEntry)×(List SEntry)×Int):Option ((Unit)⊕(Bool)):=ZaH ZhO x
noncomputable def Zr8 (x0:List SEntry) (x1:List SEntry):Option (Bool) :=
 bif (↑x0.length:Int) != (↑x1.length:Int) then
  some (false)
 else
  match Zqa (x0,x1,(0:Int)) with
  | some (.inl y1) =>
   some (true)
  | some (.inr y2) =>
   some (y2)
  | none=>none
noncomputable def ZsE (x:(List SEntry)×(List SEntry)):Option (Bool):=Zr8 x.1 x.2
noncomputable def Zru (x0:List SEntry) (x1:List SEntry) (x2:Int):Option (((List SEntry)×(List SEntry)×Int)⊕(((List SEntry)))) :=
 bif decide (x2<(↑x0.length:Int)) then
  bif decide ((0:Int)≤x2) then
   bif decide (x2<(↑x0.length:Int)) then
    bif decide ((0:Int)≤x2) then
     bif decide (x2<(↑x0.length:Int)) then
      bif decide ((0:Int)≤x2) then
       bif decide (x2<(↑x0.length:Int)) then
        bif decide ((0:Int)≤x2) then
         bif decide (x2<(↑x0.length:Int)) then
          bif fewB (x1.length+(x0.getD x2.toNat ZaK::([]:List SEntry)).length) then
           some (Sum.inl (x0,x1++x0.getD x2.toNat ZaK::([]:List SEntry),Zad IntKind.i64 (x2+(1:Int))))
          else
           none
         else
          none
        else
         none
       else
        none
      else
       none
     else
      none
    else
     none
   else
    none
  else
   none
 else
  some (Sum.inr x1)
noncomputable def ZiZ (x:(List SEntry)×(List SEntry)×Int):Option (((List SEntry)×(List SEntry)×Int)⊕(((List SEntry)))):=Zru x.1 x.2.1 x.2.2
noncomputable def Zrm (x:(List SEntry)×(List SEntry)×Int):Option (((List SEntry))):=ZaH ZiZ x
noncomputable def Ztq (x0:List SEntry):Option ((List SEntry)) :=
 match Zrm (x0,([]:List SEntry),(0:Int)) with
 | some y1 =>
  some (y1)
 | none=>none
noncomputable def Zt3 (x:(List SEntry)):Option ((List SEntry)):=Ztq x
noncomputable def Zok (x0:Int) (x1:Config) (x2:List SEntry) (x3:Int) (x4:Int):Option ((Int×Config×(List SEntry)×Int×Int)⊕((Int×Config×(List SEntry)×Int)⊕((List SEntry)))) :=
 bif decide (x4<x1.threads) then
  bif (↑x2.length:Int) == (65536:Int) then
   some (Sum.inr (Sum.inr x2))
  else
   bif fewB (x2.length+(SEntry.mk (2:Int) x4 (0:Int) (Op.mk (0:Int) (0:Int))::([]:List SEntry)).length) then
    some (Sum.inl (x0,x1,x2++SEntry.mk (2:Int) x4 (0:Int) (Op.mk (0:Int) (0:Int))::([]:List SEntry),x3,Zad IntKind.i64 (x4+(1:Int))))
   else
    none
 else
  some (Sum.inr (Sum.inl (x0,x1,x2,x3)))
noncomputable def ZgH (x:Int×Config×(List SEntry)×Int×Int):Option ((Int×Config×(List SEntry)×Int×Int)⊕((Int×Config×(List SEntry)×Int)⊕((List SEntry)))):=Zok x.1 x.2.1 x.2.2.1 x.2.2.2.1 x.2.2.2.2
noncomputable def Zoo (x:Int×Config×(List SEntry)×Int×Int):Option ((Int×Config×(List SEntry)×Int)⊕((List SEntry))):=ZaH ZgH x
noncomputable def Zov (x0:Int) (x1:Config) (x2:List SEntry) (x3:Int):Option ((Int×Config×(List SEntry)×Int)⊕(((List SEntry))⊕((List SEntry)))) :=
 bif decide (x3<x0) then
  match Zoo (x0,x1,x2,x3,(0:Int)) with
  | some (.inl y1) =>
   some (Sum.inl (y1.fst,y1.snd.fst,y1.snd.snd.fst,Zad IntKind.i64 (y1.snd.snd.snd+(1:Int))))
  | some (.inr y2) =>
   some (Sum.inr (Sum.inr y2))
  | none=>none
 else
  some (Sum.inr (Sum.inl x2))
noncomputable def ZgI (x:Int×Config×(List SEntry)×Int):Option ((Int×Config×(List SEntry)×Int)⊕(((List SEntry))⊕((List SEntry)))):=Zov x.1 x.2.1 x.2.2.1 x.2.2.2
noncomputable def Zom (x:Int×Config×(List SEntry)×Int):Option (((List SEntry))⊕((List SEntry))):=ZaH ZgI x
noncomputable def ZpT (x0:Config) (x1:Int):Option ((List SEntry)) :=
 match Zom (x1,x0,([]:List SEntry),(0:Int)) with
 | some (.inl y1) =>
  some (y1)
 | some (.inr y2) =>
  some (y2)
 | none=>none
noncomputable def Zlo (x:Config×Int):Option ((List SEntry)):=ZpT x.1 x.2
noncomputable def Zrl (x0:Config):Option ((List SEntry)) :=
 match Zlo (x0,(1:Int)) with
 | some y1 =>
  some (y1)
 | none=>none
noncomputable def Zrr (x:Config):Option ((List SEntry)):=Zrl x
noncomputable def Zpv (x0:List SEntry) (x1:Int) (x2:Int):Option (((List SEntry)×Int×Int)⊕(((List SEntry))⊕((List SEntry)))) :=
 bif decide (x2<x1) then
  bif decide ((0:Int)≤Zad IntKind.i64 (Zad IntKind.i64 ((↑x0.length:Int)-x2)-(1:Int))) then
   bif decide (Zad IntKind.i64 (Zad IntKind.i64 ((↑x0.length:Int)-x2)-(1:Int))<(↑x0.length:Int)) then
    bif (x0.getD (Zad IntKind.i64 (Zad IntKind.i64 ((↑x0.length:Int)-x2)-(1:Int))).toNat ZaK).kind == (1:Int) then
     bif decide ((0:Int)≤Zad IntKind.i64 ((↑x0.length:Int)-x2)) then
      bif decide (Zad IntKind.i64 ((↑x0.length:Int)-x2)≤(↑x0.length:Int)) then
       bif decide ((↑x0.length:Int)≤(↑x0.length:Int)) then
        some (Sum.inr (Sum.inr (List.drop (Zad IntKind.i64 ((↑x0.length:Int)-x2)).toNat (List.take (↑x0.length:Int).toNat x0))))
       else
        none
      else
       none
     else
      none
    else
     some (Sum.inl (x0,x1,Zad IntKind.i64 (x2+(1:Int))))
   else
    none
  else
   none
 else
  some (Sum.inr (Sum.inl x0))
noncomputable def ZhE (x:(List SEntry)×Int×Int):Option (((List SEntry)×Int×Int)⊕(((List SEntry))⊕((List SEntry)))):=Zpv x.1 x.2.1 x.2.2
noncomputable def ZoI (x:(List SEntry)×Int×Int):Option (((List SEntry))⊕((List SEntry))):=ZaH ZhE x
noncomputable def Zrn (x0:List SEntry):Option ((List SEntry)) :=
 match ZoI (x0,(↑x0.length:Int),(0:Int)) with
 | some (.inl y1) =>
  some (y1)
 | some (.inr y2) =>
  some (y2)
 | none=>none
noncomputable def Zmi (x:(List SEntry)):Option ((List SEntry)):=Zrn x
noncomputable def Zqk (x0:Config) (x1:Int) (x2:Int) (x3:List SEntry) (x4:Int) (x5:Int):Option ((Config×Int×Int×(List SEntry)×Int×Int)⊕((Int))) :=
 bif decide (x5<x4) then
  bif decide ((0:Int)≤x5) then
   bif decide (x5<(↑x3.length:Int)) then
    bif (x3.getD x5.toNat ZaK).kind != (2:Int) then
     some (Sum.inl (x0,x1,x2,x3,x4,Zad IntKind.i64 (x5+(1:Int))))
    else
     bif (x3.getD x5.toNat ZaK).t != x2 then
      some (Sum.inr x1)
     else
      bif Zad IntKind.i64 (x2+(1:Int)) == x0.threads then
       some (Sum.inl (x0,Zad IntKind.i64 (x1+(1:Int)),(0:Int),x3,x4,Zad IntKind.i64 (x5+(1:Int))))
      else
       some (Sum.inl (x0,x1,Zad IntKind.i64 (x2+(1:Int)),x3,x4,Zad IntKind.i64 (x5+(1:Int))))
   else
    none
  else
   none
 else
  some (Sum.inr x1)
noncomputable def Zh4 (x:Config×Int×Int×(List SEntry)×Int×Int):Option ((Config×Int×Int×(List SEntry)×Int×Int)⊕((Int))):=Zqk x.1 x.2.1 x.2.2.1 x.2.2.2.1 x.2.2.2.2.1 x.2.2.2.2.2
noncomputable def Zqo (x:Config×Int×Int×(List SEntry)×Int×Int):Option ((Int)):=ZaH Zh4 x
noncomputable def Zsc (x0:Config) (x1:List SEntry):Option (Int) :=
 match Zmi x1 with
 | some y1 =>
  match Zqo (x0,(0:Int),(0:Int),y1,(↑(List.length y1):Int),(0:Int)) with
  | some y2 =>
   some (y2)
  | none=>none
 | none=>none
noncomputable def ZhB (x:Config×(List SEntry)):Option (Int):=Zsc x.1 x.2
noncomputable def ZoR (x0:List SEntry) (x1:Config) (x2:Int) (x3:Int):Option (((List SEntry)×Config×Int×Int)⊕((Config×Int))) :=
 bif decide (x3<(↑x0.length:Int)) then
  bif decide ((0:Int)≤x3) then
   bif decide (x3<(↑x0.length:Int)) then
    bif (x0.getD x3.toNat ZaK).kind != (2:Int) then
     some (Sum.inl (x0,x1,x2,Zad IntKind.i64 (x3+(1:Int))))
    else
     bif decide ((0:Int)≤x3) then
      bif decide (x3<(↑x0.length:Int)) then
       bif decide (x1.threads=(0:Int)) then
        none
       else
        bif (x0.getD x3.toNat ZaK).t != x2.tmod x1.threads then
         some (Sum.inr (x1,x2))
        else
         some (Sum.inl (x0,x1,Zad IntKind.i64 (x2+(1:Int)),Zad IntKind.i64 (x3+(1:Int))))
      else
       none
     else
      none
   else
    none
  else
   none
 else
  some (Sum.inr (x1,x2))
noncomputable def Zg6 (x:(List SEntry)×Config×Int×Int):Option (((List SEntry)×Config×Int×Int)⊕((Config×Int))):=ZoR x.1 x.2.1 x.2.2.1 x.2.2.2
noncomputable def ZpL (x:(List SEntry)×Config×Int×Int):Option ((Config×Int)):=ZaH Zg6 x
noncomputable def Zpd (x0:List SEntry) (x1:Config) (x2:Int) (x3:Int):Option (((List SEntry)×Config×Int×Int)⊕(((List SEntry)×Config×Int))) :=
 bif decide (x3<(↑x0.length:Int)) then
  bif decide ((0:Int)≤x3) then
   bif decide (x3<(↑x0.length:Int)) then
    bif (x0.getD x3.toNat ZaK).kind == (1:Int) then
     some (Sum.inl (x0,x1,Zad IntKind.i64 (x3+(1:Int)),Zad IntKind.i64 (x3+(1:Int))))
    else
     some (Sum.inl (x0,x1,x2,Zad IntKind.i64 (x3+(1:Int))))
   else
    none
  else
   none
 else
  some (Sum.inr (x0,x1,x2))
noncomputable def Zhq (x:(List SEntry)×Config×Int×Int):Option (((List SEntry)×Config×Int×Int)⊕(((List SEntry)×Config×Int))):=Zpd x.1 x.2.1 x.2.2.1 x.2.2.2
noncomputable def ZoV (x:(List SEntry)×Config×Int×Int):Option (((List SEntry)×Config×Int)):=ZaH Zhq x
noncomputable def Zrx (x0:Config) (x1:List SEntry):Option (Int) :=
 match ZoV (x1,x0,(0:Int),(0:Int)) with
 | some y1 =>
  match ZpL (y1.fst,y1.snd.fst,(0:Int),y1.snd.snd) with
  | some y2 =>
   bif decide (y2.fst.threads=(0:Int)) then
    none
   else
    some (Zad IntKind.i64 (Int.tdiv y2.snd y2.fst.threads))
  | none=>none
 | none=>none
noncomputable def Zmc (x:Config×(List SEntry)):Option (Int):=Zrx x.1 x.2
noncomputable def ZtL (x0:Config) (x1:List SEntry):Option (Bool) :=
 match ZgC x0 with
 | some y1 =>
  match ZhB (x0,x1) with
  | some y2 =>
   some (decide (y1≤y2))
  | none=>none
 | none=>none
noncomputable def Zfc (x:Config×(List SEntry)):Option (Bool):=ZtL x.1 x.2
noncomputable def Zsj (x0:Config) (x1:List SEntry):Option (Bool) :=
 match Zmc (x0,x1) with
 | some y1 =>
  match Zk9 x0 with
  | some y2 =>
   some (decide (y1≥y2))
  | none=>none
 | none=>none
noncomputable def ZrZ (x:Config×(List SEntry)):Option (Bool):=Zsj x.1 x.2
noncomputable def ZpZ (x0:Int) (x1:List Thread) (x2:Int) (x3:Int):Option ((Int×(List Thread)×Int×Int)⊕((Int))) :=
 bif decide (x3<x2) then
  bif decide ((0:Int)≤x3) then
   bif decide (x3<(↑x1.length:Int)) then
    match Zb7 (x1.getD x3.toNat Zax) with
    | some y1 =>
     bif y1 then
      some (Sum.inl (Zad IntKind.i64 (x0+(1:Int)),x1,x2,Zad IntKind.i64 (x3+(1:Int))))
     else
      some (Sum.inl (x0,x1,x2,Zad IntKind.i64 (x3+(1:Int))))
    | none=>none
   else
    none
  else
   none
 else
  some (Sum.inr x0)
noncomputable def Zh5 (x:Int×(List Thread)×Int×Int):Option ((Int×(List Thread)×Int×Int)⊕((Int))):=ZpZ x.1 x.2.1 x.2.2.1 x.2.2.2
noncomputable def Zp2 (x:Int×(List Thread)×Int×Int):Option ((Int)):=ZaH Zh5 x
noncomputable def Zso (x0:Wld):Option (Int) :=
 match Zp2 ((0:Int),x0.t,(↑x0.t.length:Int),(0:Int)) with
 | some y1 =>
  some (y1)
 | none=>none
noncomputable def Znj (x:Wld):Option (Int):=Zso x
noncomputable def ZsA (x0:Config) (x1:Int):Option (Int) :=
 bif decide (x1<(0:Int)) then
  some ((-1:Int))
 else
  bif decide (x1≥x0.items) then
   some ((-1:Int))
  else
   match Zrt x0 with
   | some y1 =>
    some (Zad IntKind.i64 (x1*y1))
   | none=>none
noncomputable def ZsS (x:Config×Int):Option (Int):=ZsA x.1 x.2
noncomputable def Zgg (x0:Int) (x1:Int):Option (Int×Bool) :=
 some ((Zad IntKind.i64 (x0+x1),decide (x1≥(0:Int)) == decide (Zad IntKind.i64 (x0+x1)≥x0)))
noncomputable def Zfm (x:Int×Int):Option (Int×Bool):=Zgg x.1 x.2
noncomputable def ZcI (x0:Op) (x1:Int) (x2:Int) (x3:Int):Option (Int×Bool) :=
 bif x0.tag == (1:Int) then
  some ((Zad IntKind.i64 (x1+x0.v),true))
 else
  bif x0.tag == (2:Int) then
   some ((Zad IntKind.i64 (x1-x0.v),true))
  else
   bif x0.tag == (3:Int) then
    some ((Zad IntKind.i64 (↑(BitVec.ofInt IntKind.i64.bits x1 ||| BitVec.ofInt IntKind.i64.bits x0.v).toNat:Int),true))
   else
    bif x0.tag == (4:Int) then
     some ((Zad IntKind.i64 (↑(BitVec.ofInt IntKind.i64.bits x1 &&& BitVec.ofInt IntKind.i64.bits x0.v).toNat:Int),true))
    else
     bif x0.tag == (5:Int) then
      some ((if x0.v>x1 then x0.v else x1,true))
     else
      bif x0.tag == (6:Int) then
       some ((if x0.v<x1 then x0.v else x1,true))
      else
       bif x0.tag == (7:Int) then
        some ((x0.v,true))
       else
        bif x0.tag == (8:Int) then
         match Zfm (x1,x0.v) with
         | some y1 =>
          bif !y1.snd then
           some ((x1,false))
          else
           bif decide (y1.fst<x2) then
            some ((x1,false))
           else
            bif decide (y1.fst>x3) then
             some ((x1,false))
            else
             some ((y1.fst,true))
         | none=>none
        else
         bif x0.tag == (9:Int) then
          bif decide (x0.v<(0:Int)) then
           some ((x1,false))
          else
           bif decide (x1<x2) then
            some ((x1,false))
           else
            bif decide (IntKind.u64.wrap x0.v≥Zad IntKind.u64 (IntKind.u64.wrap x1-IntKind.u64.wrap x2)) then
             some ((x2,true))
            else
             some ((Zad IntKind.i64 (x1-x0.v),true))
         else
          some ((x1,false))
noncomputable def Zi7 (x:Op×Int×Int×Int):Option (Int×Bool):=ZcI x.1 x.2.1 x.2.2.1 x.2.2.2
noncomputable def Zou (x0:Config) (x1:Int×Int×Int×Int×Int×Int×Int×Int×Int×Int×Int×Int×Int×Int×Int×Int×Int×Int×Int×Int×Int×Int×Int×Int) (x2:Int):Option ((Config×(Int×Int×Int×Int×Int×Int×Int×Int×Int×Int×Int×Int×Int×Int×Int×Int×Int×Int×Int×Int×Int×Int×Int×Int)×Int)⊕((Config)⊕(Int))) :=
 bif decide (x2<(8:Int)) then
  bif decide ((0:Int)≤x2) then
   bif decide (x2<(↑(8:Nat):Int)) then
    bif decide (x2=(↑(0:Nat):Int)) then
     bif decide (x1.fst<x1.snd.fst) then
      some (Sum.inr (Sum.inr (Zad IntKind.i64 ((50:Int)+x2))))
     else
      bif decide (x1.fst>x1.snd.snd.fst) then
       some (Sum.inr (Sum.inr (Zad IntKind.i64 ((50:Int)+x2))))
      else
       some (Sum.inl (x0,x1,Zad IntKind.i64 (x2+(1:Int))))
    else
     bif decide (x2=(↑((0:Nat)+(1:Nat)):Int)) then
      bif decide (x1.snd.snd.snd.fst<x1.snd.snd.snd.snd.fst) then
       some (Sum.inr (Sum.inr (Zad IntKind.i64 ((50:Int)+x2))))
      else
       bif decide (x1.snd.snd.snd.fst>x1.snd.snd.snd.snd.snd.fst) then
        some (Sum.inr (Sum.inr (Zad IntKind.i64 ((50:Int)+x2))))
       else
        some (Sum.inl (x0,x1,Zad IntKind.i64 (x2+(1:Int))))
     else
      bif decide (x2=(↑((0:Nat)+(1:Nat)+(1:Nat)):Int)) then
       bif decide (x1.snd.snd.snd.snd.snd.snd.fst<x1.snd.snd.snd.snd.snd.snd.snd.fst) then
        some (Sum.inr (Sum.inr (Zad IntKind.i64 ((50:Int)+x2))))
       else
        bif decide (x1.snd.snd.snd.snd.snd.snd.fst>x1.snd.snd.snd.snd.snd.snd.snd.snd.fst) then
         some (Sum.inr (Sum.inr (Zad IntKind.i64 ((50:Int)+x2))))
        else
         some (Sum.inl (x0,x1,Zad IntKind.i64 (x2+(1:Int))))
      else
       bif decide (x2=(↑((0:Nat)+(1:Nat)+(1:Nat)+(1:Nat)):Int)) then
        bif decide (x1.snd.snd.snd.snd.snd.snd.snd.snd.snd.fst<x1.snd.snd.snd.snd.snd.snd.snd.snd.snd.snd.fst) then
         some (Sum.inr (Sum.inr (Zad IntKind.i64 ((50:Int)+x2))))
        else
         bif decide (x1.snd.snd.snd.snd.snd.snd.snd.snd.snd.fst>x1.snd.snd.snd.snd.snd.snd.snd.snd.snd.snd.snd.fst) then
          some (Sum.inr (Sum.inr (Zad IntKind.i64 ((50:Int)+x2))))
         else
          some (Sum.inl (x0,x1,Zad IntKind.i64 (x2+(1:Int))))
       else
        bif decide (x2=(↑((0:Nat)+(1:Nat)+(1:Nat)+(1:Nat)+(1:Nat)):Int)) then
         bif decide (x1.snd.snd.snd.snd.snd.snd.snd.snd.snd.snd.snd.snd.fst<x1.snd.snd.snd.snd.snd.snd.snd.snd.snd.snd.snd.snd.snd.fst) then
          some (Sum.inr (Sum.inr (Zad IntKind.i64 ((50:Int)+x2))))
         else
          bif decide (x1.snd.snd.snd.snd.snd.snd.snd.snd.snd.snd.snd.snd.fst>x1.snd.snd.snd.snd.snd.snd.snd.snd.snd.snd.snd.snd.snd.snd.fst) then
           some (Sum.inr (Sum.inr (Zad IntKind.i64 ((50:Int)+x2))))
          else
           some (Sum.inl (x0,x1,Zad IntKind.i64 (x2+(1:Int))))
        else
         bif decide (x2=(↑((0:Nat)+(1:Nat)+(1:Nat)+(1:Nat)+(1:Nat)+(1:Nat)):Int)) then
          bif decide (x1.snd.snd.snd.snd.snd.snd.snd.snd.snd.snd.snd.snd.snd.snd.snd.fst<x1.snd.snd.snd.snd.snd.snd.snd.snd.snd.snd.snd.snd.snd.snd.snd.snd.fst) then
           some (Sum.inr (Sum.inr (Zad IntKind.i64 ((50:Int)+x2))))
          else
           bif decide (x1.snd.snd.snd.snd.snd.snd.snd.snd.snd.snd.snd.snd.snd.snd.snd.fst>x1.snd.snd.snd.snd.snd.snd.snd.snd.snd.snd.snd.snd.snd.snd.snd.snd.snd.fst) then
            some (Sum.inr (Sum.inr (Zad IntKind.i64 ((50:Int)+x2))))
           else
            some (Sum.inl (x0,x1,Zad IntKind.i64 (x2+(1:Int))))
         else
          bif decide (x2=(↑((0:Nat)+(1:Nat)+(1:Nat)+(1:Nat)+(1:Nat)+(1:Nat)+(1:Nat)):Int)) then
           bif decide (x1.snd.snd.snd.snd.snd.snd.snd.snd.snd.snd.snd.snd.snd.snd.snd.snd.snd.snd.fst<x1.snd.snd.snd.snd.snd.snd.snd.snd.snd.snd.snd.snd.snd.snd.snd.snd.snd.snd.snd.fst) then
            some (Sum.inr (Sum.inr (Zad IntKind.i64 ((50:Int)+x2))))
           else
            bif decide (x1.snd.snd.snd.snd.snd.snd.snd.snd.snd.snd.snd.snd.snd.snd.snd.snd.snd.snd.fst>x1.snd.snd.snd.snd.snd.snd.snd.snd.snd.snd.snd.snd.snd.snd.snd.snd.snd.snd.snd.snd.fst) then
             some (Sum.inr (Sum.inr (Zad IntKind.i64 ((50:Int)+x2))))
            else
             some (Sum.inl (x0,x1,Zad IntKind.i64 (x2+(1:Int))))
          else
           bif decide (x2=(↑((0:Nat)+(1:Nat)+(1:Nat)+(1:Nat)+(1:Nat)+(1:Nat)+(1:Nat)+(1:Nat)):Int)) then
            bif decide (x1.snd.snd.snd.snd.snd.snd.snd.snd.snd.snd.snd.snd.snd.snd.snd.snd.snd.snd.snd.snd.snd.fst<x1.snd.snd.snd.snd.snd.snd.snd.snd.snd.snd.snd.snd.snd.snd.snd.snd.snd.snd.snd.snd.snd.snd.fst) then
             some (Sum.inr (Sum.inr (Zad IntKind.i64 ((50:Int)+x2))))
            else
             bif decide (x1.snd.snd.snd.snd.snd.snd.snd.snd.snd.snd.snd.snd.snd.snd.snd.snd.snd.snd.snd.snd.snd.fst>x1.snd.snd.snd.snd.snd.snd.snd.snd.snd.snd.snd.snd.snd.snd.snd.snd.snd.snd.snd.snd.snd.snd.snd) then
              some (Sum.inr (Sum.inr (Zad IntKind.i64 ((50:Int)+x2))))
             else
              some (Sum.inl (x0,x1,Zad IntKind.i64 (x2+(1:Int))))
           else
            none
   else
    none
  else
   none
 else
  some (Sum.inr (Sum.inl x0))
noncomputable def ZdX (x:Config×(Int×Int×Int×Int×Int×Int×Int×Int×Int×Int×Int×Int×Int×Int×Int×Int×Int×Int×Int×Int×Int×Int×Int×Int)×Int):Option ((Config×(Int×Int×Int×Int×Int×Int×Int×Int×Int×Int×Int×Int×Int×Int×Int×Int×Int×Int×Int×Int×Int×Int×Int×Int)×Int)⊕((Config)⊕(Int))):=Zou x.1 x.2.1 x.2.2
noncomputable def ZcM (x:Config×(Int×Int×Int×Int×Int×Int×Int×Int×Int×Int×Int×Int×Int×Int×Int×Int×Int×Int×Int×Int×Int×Int×Int×Int)×Int):Option ((Config)⊕(Int)):=ZaH ZdX x
noncomputable def ZhU (x0:Config):Option (Int) :=
 match ZcM (x0,(x0.threads,(1:Int),(16:Int),x0.items,(1:Int),(4:Int),x0.backend,(1:Int),(3:Int),x0.depth,(0:Int),(4:Int),x0.layers,(0:Int),(3:Int),x0.width,(1:Int),(8:Int),x0.spin,(0:Int),(20:Int),x0.wait,(0:Int),(1000:Int)),(0:Int)) with
 | some (.inl y1) =>
  bif y1.bounded then
   bif decide (y1.init<y1.lo) then
    some ((58:Int))
   else
    bif decide (y1.hi<y1.init) then
     some ((58:Int))
    else
     some ((0:Int))
  else
   some ((0:Int))
 | some (.inr y2) =>
  some (y2)
 | none=>none
noncomputable def Zde (x:Config):Option (Int):=ZhU x
noncomputable def ZeC (x0:Config) (x1:List SEntry) (x2:Int) (x3:Int):Option ((Config×(List SEntry)×Int×Int)⊕((Unit)⊕(Int×Int))) :=
 bif decide (x3<x2) then
  bif decide ((0:Int)≤x3) then
   bif decide (x3<(↑x1.length:Int)) then
    match ZhY (x0,x1.getD x3.toNat ZaK) with
    | some y1 =>
     bif y1 != (0:Int) then
      some (Sum.inr (Sum.inr (x3,y1)))
     else
      some (Sum.inl (x0,x1,x2,Zad IntKind.i64 (x3+(1:Int))))
    | none=>none
   else
    none
  else
   none
 else
  some (Sum.inr (Sum.inl ()))
noncomputable def Zf5 (x:Config×(List SEntry)×Int×Int):Option ((Config×(List SEntry)×Int×Int)⊕((Unit)⊕(Int×Int))):=ZeC x.1 x.2.1 x.2.2.1 x.2.2.2
noncomputable def Zh0 (x:Config×(List SEntry)×Int×Int):Option ((Unit)⊕(Int×Int)):=ZaH Zf5 x
noncomputable def ZjU (x0:Config) (x1:List SEntry):Option (Int×Int) :=
 match Zde x0 with
 | some y1 =>
  bif y1 != (0:Int) then
   some (((0:Int),y1))
  else
   bif decide ((↑x1.length:Int)>(65536:Int)) then
    some (((0:Int),(2:Int)))
   else
    match Zh0 (x0,x1,(↑x1.length:Int),(0:Int)) with
    | some (.inl y2) =>
     some (((0:Int),(0:Int)))
    | some (.inr y3) =>
     some (y3)
    | none=>none
 | none=>none
noncomputable def Zg2 (x:Config×(List SEntry)):Option (Int×Int):=ZjU x.1 x.2
noncomputable def ZiT (x0:Config):Option (Int) :=
 bif decide (x0.depth<(0:Int)) then
  none
 else
  some (Zad IntKind.i64 (Zad IntKind.i64 ((1:Int)*(2:Int) ^ min x0.depth.toNat IntKind.i64.bits)-(1:Int)))
noncomputable def Ze4 (x:Config):Option (Int):=ZiT x
noncomputable def ZlK (x0:Config):Option (Plan) :=
 match Ze4 x0 with
 | some y1 =>
  some (Plan.mk (1:Int) (Zad IntKind.i64 ((1:Int)+y1)) (Zad IntKind.i64 (Zad IntKind.i64 ((1:Int)+y1)+Zad IntKind.i64 (x0.layers*x0.width))) (Zad IntKind.i64 (x0.items*Zad IntKind.i64 (Zad IntKind.i64 ((1:Int)+y1)+Zad IntKind.i64 (x0.layers*x0.width)))))
 | none=>none
noncomputable def Zcf (x:Config):Option (Plan):=ZlK x
noncomputable def ZfN (x0:Config) (x1:Int):Option (Int) :=
 bif decide (x1<(0:Int)) then
  some ((-1:Int))
 else
  bif decide (x1≥x0.items) then
   some ((-1:Int))
  else
   match Zcf x0 with
   | some y1 =>
    some (Zad IntKind.i64 (x1*y1.block))
   | none=>none
noncomputable def ZcA (x:Config×Int):Option (Int):=ZfN x.1 x.2
noncomputable def Zkq (x0:Int):Option ((List Int)) :=
 bif decide (x0<(1:Int)) then
  some (([]:List Int))
 else
  bif decide (x0>(10000:Int)) then
   some (([]:List Int))
  else
   bif x0 == x0 then
    bif decide ((0:Int)≤x0) then
     bif decide (x0≤Zbl) then
      some (List.replicate x0.toNat (0:Int))
     else
      none
    else
     none
   else
    none
noncomputable def Zg9 (x:Int):Option ((List Int)):=Zkq x
noncomputable def ZfP (x0:Int):Option ((List (List Entry))) :=
 bif decide (x0<(1:Int)) then
  some (([]:List (List Entry)))
 else
  bif decide (x0>(10000:Int)) then
   some (([]:List (List Entry)))
  else
   bif x0 == x0 then
    bif decide ((0:Int)≤x0) then
     bif decide (x0≤Zbl) then
      some (List.replicate x0.toNat ([]:List Entry))
     else
      none
    else
     none
   else
    none
noncomputable def ZdU (x:Int):Option ((List (List Entry))):=ZfP x
noncomputable def Zl2 (x0:Int) (x1:Int):Option (Memo) :=
 match Zg9 x0 with
 | some y1 =>
  match ZdU x1 with
  | some y2 =>
   some (Memo.mk y1 y2)
  | none=>none
 | none=>none
noncomputable def ZlE (x:Int×Int):Option (Memo):=Zl2 x.1 x.2
noncomputable def ZjL (x0:Config):Option (Int) :=
 match Zcf x0 with
 | some y1 =>
  some (Zad IntKind.i64 (y1.lines+Zad IntKind.i64 ((2:Int)*x0.threads)))
 | none=>none
noncomputable def Zjx (x:Config):Option (Int):=ZjL x
noncomputable def Zej (x0:Config) (x1:Memo) (x2:Memo) (x3:Int) (x4:Int):Option ((Config×Memo×Memo×Int×Int)⊕((Memo×Memo))) :=
 bif decide (x4<x3) then
  match ZcA (x0,x4) with
  | some y1 =>
   bif decide ((0:Int)≤y1) then
    bif decide (y1<(↑x2.words.length:Int)) then
     some (Sum.inl (x0,x1,{ x2 with words:=x2.words.set (Int.toNat y1) x0.init },x3,Zad IntKind.i64 (x4+(1:Int))))
    else
     none
   else
    none
  | none=>none
 else
  some (Sum.inr (x1,x2))
noncomputable def Zfu (x:Config×Memo×Memo×Int×Int):Option ((Config×Memo×Memo×Int×Int)⊕((Memo×Memo))):=Zej x.1 x.2.1 x.2.2.1 x.2.2.2.1 x.2.2.2.2
noncomputable def Zkr (x:Config×Memo×Memo×Int×Int):Option ((Memo×Memo)):=ZaH Zfu x
noncomputable def Zi5 (x0:Config):Option (Memo) :=
 match Zjx x0 with
 | some y1 =>
  match ZlE (y1,x0.threads) with
  | some y2 =>
   match Zkr (x0,Memo.mk ([]:List Int) ([]:List (List Entry)),y2,x0.items,(0:Int)) with
   | some y3 =>
    some (y3.snd)
   | none=>none
  | none=>none
 | none=>none
noncomputable def ZiN (x:Config):Option (Memo):=Zi5 x
noncomputable def ZsD:Option (Thread) :=
 some (Thread.mk (0:Int) (0:Int) (Op.mk (0:Int) (0:Int)) ([]:List Entry) ([]:List Kid) ([]:List Int) (0:Int) (0:Int) (0:Int) (0:Int) (0:Int) (1:Int) (0:Int) (0:Int) (0:Int) (0:Int))
noncomputable def ZjZ (x:Unit):Option (Thread):=ZsD
noncomputable def Zdm (x0:List Int):Option ((List Int)) :=
 bif fewB ((0:Nat)+x0.length) then
  some (x0)
 else
  none
noncomputable def Zbn (x:(List Int)):Option ((List Int)):=Zdm x
noncomputable def Ze3 (x0:List Int) (x1:Int):Option (Int×Int) :=
 bif decide (x1<(0:Int)) then
  some (((0:Int),(30:Int)))
 else
  bif decide (x1≥(↑x0.length:Int)) then
   some (((0:Int),(30:Int)))
  else
   bif decide ((0:Int)≤x1) then
    bif decide (x1<(↑x0.length:Int)) then
     some ((x0.getD x1.toNat (0:Int),(0:Int)))
    else
     none
   else
    none
noncomputable def Zbs (x:(List Int)×Int):Option (Int×Int):=Ze3 x.1 x.2
noncomputable def Zfe (x0:Memo) (x1:Int):Option (Int×Int) :=
 match Zbs (x0.words,x1) with
 | some y1 =>
  some (y1)
 | none=>none
noncomputable def ZbN (x:Memo×Int):Option (Int×Int):=Zfe x.1 x.2
noncomputable def ZnL (x0:Int) (x1:Int):Option (Int×Int) :=
 some ((Zad IntKind.u64 (Zad IntKind.u64 (Zad IntKind.u64 (x0.fdiv ((2:Int) ^ min (Int.toNat (32:Int)) IntKind.u64.bits)*x1.fdiv ((2:Int) ^ min (Int.toNat (32:Int)) IntKind.u64.bits))+(Zad IntKind.u64 (Zad IntKind.u64 (x0.fdiv ((2:Int) ^ min (Int.toNat (32:Int)) IntKind.u64.bits)*Zad IntKind.u64 (↑(BitVec.ofInt IntKind.u64.bits x1 &&& BitVec.ofInt IntKind.u64.bits (4294967295:Int)).toNat:Int))+(Zad IntKind.u64 (Zad IntKind.u64 (↑(BitVec.ofInt IntKind.u64.bits x0 &&& BitVec.ofInt IntKind.u64.bits (4294967295:Int)).toNat:Int)*Zad IntKind.u64 (↑(BitVec.ofInt IntKind.u64.bits x1 &&& BitVec.ofInt IntKind.u64.bits (4294967295:Int)).toNat:Int))).fdiv ((2:Int) ^ min (Int.toNat (32:Int)) IntKind.u64.bits))).fdiv ((2:Int) ^ min (Int.toNat (32:Int)) IntKind.u64.bits))+(Zad IntKind.u64 (Zad IntKind.u64 (↑(BitVec.ofInt IntKind.u64.bits (Zad IntKind.u64 (Zad IntKind.u64 (x0.fdiv ((2:Int) ^ min (Int.toNat (32:Int)) IntKind.u64.bits)*Zad IntKind.u64 (↑(BitVec.ofInt IntKind.u64.bits x1 &&& BitVec.ofInt IntKind.u64.bits (4294967295:Int)).toNat:Int))+(Zad IntKind.u64 (Zad IntKind.u64 (↑(BitVec.ofInt IntKind.u64.bits x0 &&& BitVec.ofInt IntKind.u64.bits (4294967295:Int)).toNat:Int)*Zad IntKind.u64 (↑(BitVec.ofInt IntKind.u64.bits x1 &&& BitVec.ofInt IntKind.u64.bits (4294967295:Int)).toNat:Int))).fdiv ((2:Int) ^ min (Int.toNat (32:Int)) IntKind.u64.bits))) &&& BitVec.ofInt IntKind.u64.bits (4294967295:Int)).toNat:Int)+Zad IntKind.u64 (Zad IntKind.u64 (↑(BitVec.ofInt IntKind.u64.bits x0 &&& BitVec.ofInt IntKind.u64.bits (4294967295:Int)).toNat:Int)*x1.fdiv ((2:Int) ^ min (Int.toNat (32:Int)) IntKind.u64.bits)))).fdiv ((2:Int) ^ min (Int.toNat (32:Int)) IntKind.u64.bits)),Zad IntKind.u64 (x0*x1)))
noncomputable def Zjg (x:Int×Int):Option (Int×Int):=ZnL x.1 x.2
noncomputable def ZoM (x0:Int) (x1:Int):Option (Int×Int) :=
 match Zjg (x0,x1) with
 | some y1 =>
  some (y1)
 | none=>none
noncomputable def Zdy (x:Int×Int):Option (Int×Int):=ZoM x.1 x.2
noncomputable def Zl9 (x0:Int) (x1:Int) (x2:Int) (x3:Int):Option (Bool) :=
 bif decide (x1≥(0:Int)) then
  bif decide (Zad IntKind.i64 (x0+x1)≥x0) then
   bif decide (Zad IntKind.i64 (x0+x1)<x2) then
    some (true)
   else
    some (decide (Zad IntKind.i64 (x0+x1)>x3))
  else
   bif decide (x1<(0:Int)) then
    bif decide (Zad IntKind.i64 (x0+x1)<x0) then
     bif decide (Zad IntKind.i64 (x0+x1)<x2) then
      some (true)
     else
      some (decide (Zad IntKind.i64 (x0+x1)>x3))
    else
     some (true)
   else
    some (true)
 else
  bif decide (x1<(0:Int)) then
   bif decide (Zad IntKind.i64 (x0+x1)<x0) then
    bif decide (Zad IntKind.i64 (x0+x1)<x2) then
     some (true)
    else
     some (decide (Zad IntKind.i64 (x0+x1)>x3))
   else
    some (true)
  else
   some (true)
noncomputable def Zja (x:Int×Int×Int×Int):Option (Bool):=Zl9 x.1 x.2.1 x.2.2.1 x.2.2.2
noncomputable def Zhe (x0:Op) (x1:Int) (x2:Int) (x3:Int):Option (Int×Bool) :=
 bif x0.tag == (2:Int) then
  some ((Zad IntKind.i64 (x1+Zad IntKind.i64 ((0:Int)-x0.v)),true))
 else
  bif x0.tag == (1:Int) then
   some ((Zad IntKind.i64 (x1+x0.v),true))
  else
   bif x0.tag == (3:Int) then
    some ((Zad IntKind.i64 (↑(BitVec.ofInt IntKind.i64.bits x1 ||| BitVec.ofInt IntKind.i64.bits x0.v).toNat:Int),true))
   else
    bif x0.tag == (4:Int) then
     some ((Zad IntKind.i64 (↑(BitVec.ofInt IntKind.i64.bits x1 &&& BitVec.ofInt IntKind.i64.bits x0.v).toNat:Int),true))
    else
     bif x0.tag == (5:Int) then
      some ((if x1>x0.v then x1 else x0.v,true))
     else
      bif x0.tag == (6:Int) then
       some ((if x1<x0.v then x1 else x0.v,true))
      else
       bif x0.tag == (7:Int) then
        some ((x0.v,true))
       else
        bif x0.tag == (9:Int) then
         bif decide (x0.v<(0:Int)) then
          some ((x1,false))
         else
          bif decide (x1<x2) then
           some ((x1,false))
          else
           bif decide (Zad IntKind.i64 (x1-x0.v)≤x1) then
            bif decide (Zad IntKind.i64 (x1-x0.v)≥x2) then
             some ((Zad IntKind.i64 (x1-x0.v),true))
            else
             some ((x2,true))
           else
            some ((x2,true))
        else
         bif x0.tag == (8:Int) then
          match Zja (x1,x0.v,x2,x3) with
          | some y1 =>
           bif !y1 then
            some ((Zad IntKind.i64 (x1+x0.v),true))
           else
            some ((x1,false))
          | none=>none
         else
          some ((x1,false))
noncomputable def Zb6 (x:Op×Int×Int×Int):Option (Int×Bool):=Zhe x.1 x.2.1 x.2.2.1 x.2.2.2
noncomputable def ZfC (x0:Memo) (x1:Int) (x2:Int):Option (Memo×Int) :=
 match Zbs (x0.words,x1) with
 | some y1 =>
  bif y1.snd != (0:Int) then
   some ((x0,y1.snd))
  else
   match Zbn x0.words with
   | some y2 =>
    bif decide ((0:Int)≤x1) then
     bif decide (x1<(↑(List.length y2):Int)) then
      some (({ x0 with words:=List.set y2 x1.toNat x2 },y1.snd))
     else
      none
    else
     none
   | none=>none
 | none=>none
noncomputable def ZbX (x:Memo×Int×Int):Option (Memo×Int):=ZfC x.1 x.2.1 x.2.2
noncomputable def Zj0 (x0:Config) (x1:Int):Option (Int) :=
 bif decide (x1<(0:Int)) then
  some ((-1:Int))
 else
  bif decide (x1≥x0.threads) then
   some ((-1:Int))
  else
   match Zcf x0 with
   | some y1 =>
    some (Zad IntKind.i64 (y1.lines+Zad IntKind.i64 ((2:Int)*x1)))
   | none=>none
noncomputable def ZcX (x:Config×Int):Option (Int):=Zj0 x.1 x.2
noncomputable def Zhs (x0:Turn):Option (Turn) :=
 bif x0.c.backend == (2:Int) then
  bif decide (x0.c.depth>(0:Int)) then
   some ({ x0 with th:={ x0.th with phase:=(4:Int) } })
  else
   bif x0.c.backend == (3:Int) then
    bif decide (x0.c.layers>(0:Int)) then
     some ({ x0 with th:={ x0.th with phase:=(17:Int),layer:=(1:Int) } })
    else
     some ({ x0 with th:={ x0.th with phase:=(2:Int) } })
   else
    some ({ x0 with th:={ x0.th with phase:=(2:Int) } })
 else
  bif x0.c.backend == (3:Int) then
   bif decide (x0.c.layers>(0:Int)) then
    some ({ x0 with th:={ x0.th with phase:=(17:Int),layer:=(1:Int) } })
   else
    some ({ x0 with th:={ x0.th with phase:=(2:Int) } })
  else
   some ({ x0 with th:={ x0.th with phase:=(2:Int) } })
noncomputable def Zhh (x:Turn):Option (Turn):=Zhs x
noncomputable def Zho (x0:Turn):Option (Turn×Bool) :=
 bif x0.th.phase != (1:Int) then
  some ((x0,false))
 else
  match ZcX (x0.c,x0.t) with
  | some y1 =>
   match ZbX (x0.m,y1,(0:Int)) with
   | some y2 =>
    bif y2.snd != (0:Int) then
     some ((x0,true))
    else
     match Zhh { x0 with m:=y2.fst } with
     | some y3 =>
      some ((y3,true))
     | none=>none
   | none=>none
  | none=>none
noncomputable def Zhd (x:Turn):Option (Turn×Bool):=Zho x
noncomputable def Zke (x0:Config) (x1:Int) (x2:Int):Option (Int) :=
 bif decide (x1<(0:Int)) then
  some ((-1:Int))
 else
  bif decide (x1≥x0.items) then
   some ((-1:Int))
  else
   match Ze4 x0 with
   | some y1 =>
    bif decide (x2<(1:Int)) then
     some ((-1:Int))
    else
     bif decide (x2≥Zad IntKind.i64 ((1:Int)+y1)) then
      some ((-1:Int))
     else
      match Zcf x0 with
      | some y2 =>
       some (Zad IntKind.i64 (Zad IntKind.i64 (x1*y2.block)+x2))
      | none=>none
   | none=>none
noncomputable def Zd3 (x:Config×Int×Int):Option (Int):=Zke x.1 x.2.1 x.2.2
noncomputable def Zdf (x0:Said):Option (Int) :=
 some (Zad IntKind.i64 (Zad IntKind.i64 ((8:Int)*Zad IntKind.i64 (x0.n+(1:Int)))+x0.kind))
noncomputable def ZbG (x:Said):Option (Int):=Zdf x
noncomputable def ZjB (x0:Int):Option (Int) :=
 match ZbG (Said.mk (1:Int) x0) with
 | some y1 =>
  some (y1)
 | none=>none
noncomputable def ZeM (x:Int):Option (Int):=ZjB x
noncomputable def ZkY (x0:Int):Option (Int) :=
 some ((if (0:Int)>x0 then (0:Int) else x0).fdiv ((2:Int) ^ min (Int.toNat (1:Int)) IntKind.i64.bits))
noncomputable def ZhW (x:Int):Option (Int):=ZkY x
noncomputable def ZjG (x0:Turn):Option (Turn) :=
 bif decide (x0.th.stop>(0:Int)) then
  bif decide (x0.th.at_≥(0:Int)) then
   bif decide (x0.th.at_<(↑x0.th.held.length:Int)) then
    some ({ x0 with th:={ x0.th with phase:=(7:Int) } })
   else
    some ({ x0 with th:={ x0.th with phase:=(11:Int) } })
  else
   some ({ x0 with th:={ x0.th with phase:=(11:Int) } })
 else
  bif decide (x0.th.at_≥(0:Int)) then
   bif decide (x0.th.at_<(↑x0.th.held.length:Int)) then
    some ({ x0 with th:={ x0.th with phase:=(7:Int) } })
   else
    some ({ x0 with th:={ x0.th with phase:=(2:Int) } })
  else
   some ({ x0 with th:={ x0.th with phase:=(2:Int) } })
noncomputable def ZfT (x:Turn):Option (Turn):=ZjG x
noncomputable def ZjO (x0:Turn):Option (Turn) :=
 match ZfT { x0 with th:={ x0.th with at_:=(0:Int) } } with
 | some y1 =>
  some (y1)
 | none=>none
noncomputable def ZdW (x:Turn):Option (Turn):=ZjO x
noncomputable def ZiY (x0:Turn):Option (Turn) :=
 match Zbn x0.th.held with
 | some y1 =>
  bif fewB (List.length y1+(x0.th.node::([]:List Int)).length) then
   match ZhW x0.th.node with
   | some y2 =>
    bif decide (y2>(0:Int)) then
     some ({ x0 with th:={ x0.th with held:=y1++x0.th.node::([]:List Int),node:=y2 } })
    else
     match ZdW { x0 with th:={ x0.th with held:=y1++x0.th.node::([]:List Int),node:=y2 } } with
     | some y3 =>
      some (y3)
     | none=>none
   | none=>none
  else
   none
 | none=>none
noncomputable def ZiW (x:Turn):Option (Turn):=ZiY x
noncomputable def Zhl (x0:Memo) (x1:Int) (x2:Int) (x3:Int):Option (Memo×Bool×Int) :=
 match Zbs (x0.words,x1) with
 | some y1 =>
  bif y1.snd != (0:Int) then
   some ((x0,false,y1.snd))
  else
   bif y1.fst == x2 then
    match Zbn x0.words with
    | some y2 =>
     bif decide ((0:Int)≤x1) then
      bif decide (x1<(↑(List.length y2):Int)) then
       some (({ x0 with words:=List.set y2 x1.toNat x3 },y1.fst == x2,y1.snd))
      else
       none
     else
      none
    | none=>none
   else
    some ((x0,y1.fst == x2,y1.snd))
 | none=>none
noncomputable def ZcK (x:Memo×Int×Int×Int):Option (Memo×Bool×Int):=Zhl x.1 x.2.1 x.2.2.1 x.2.2.2
noncomputable def ZiL (x0:Turn):Option (Bool) :=
 bif decide ((0:Int)<x0.th.until_) then
  some (decide (x0.th.until_≤x0.now))
 else
  some (false)
noncomputable def ZdA (x:Turn):Option (Bool):=ZiL x
noncomputable def ZmU (x0:Int):Option (Said) :=
 bif Zad IntKind.i64 (↑(BitVec.ofInt IntKind.i64.bits x0 &&& BitVec.ofInt IntKind.i64.bits (7:Int)).toNat:Int) == (5:Int) && (Zad IntKind.i64 (x0.fdiv ((2:Int) ^ min (Int.toNat (3:Int)) IntKind.i64.bits)-(1:Int)) == (-1:Int) && true) then
  some (Said.mk (Zad IntKind.i64 (↑(BitVec.ofInt IntKind.i64.bits x0 &&& BitVec.ofInt IntKind.i64.bits (7:Int)).toNat:Int)) (Zad IntKind.i64 (x0.fdiv ((2:Int) ^ min (Int.toNat (3:Int)) IntKind.i64.bits)-(1:Int))))
 else
  bif decide (Zad IntKind.i64 (↑(BitVec.ofInt IntKind.i64.bits x0 &&& BitVec.ofInt IntKind.i64.bits (7:Int)).toNat:Int)≥(1:Int)) then
   bif decide (Zad IntKind.i64 (↑(BitVec.ofInt IntKind.i64.bits x0 &&& BitVec.ofInt IntKind.i64.bits (7:Int)).toNat:Int)≤(3:Int)) then
    bif decide (Zad IntKind.i64 (x0.fdiv ((2:Int) ^ min (Int.toNat (3:Int)) IntKind.i64.bits)-(1:Int))≥(0:Int)) then
     bif decide (Zad IntKind.i64 (x0.fdiv ((2:Int) ^ min (Int.toNat (3:Int)) IntKind.i64.bits)-(1:Int))<(16:Int)) then
      some (Said.mk (Zad IntKind.i64 (↑(BitVec.ofInt IntKind.i64.bits x0 &&& BitVec.ofInt IntKind.i64.bits (7:Int)).toNat:Int)) (Zad IntKind.i64 (x0.fdiv ((2:Int) ^ min (Int.toNat (3:Int)) IntKind.i64.bits)-(1:Int))))
     else
      bif Zad IntKind.i64 (↑(BitVec.ofInt IntKind.i64.bits x0 &&& BitVec.ofInt IntKind.i64.bits (7:Int)).toNat:Int) == (4:Int) then
       bif decide ((Zad IntKind.i64 (x0.fdiv ((2:Int) ^ min (Int.toNat (3:Int)) IntKind.i64.bits)-(1:Int))).fdiv ((2:Int) ^ min (Int.toNat (4:Int)) IntKind.i64.bits)≥(0:Int)) then
        bif decide ((Zad IntKind.i64 (x0.fdiv ((2:Int) ^ min (Int.toNat (3:Int)) IntKind.i64.bits)-(1:Int))).fdiv ((2:Int) ^ min (Int.toNat (4:Int)) IntKind.i64.bits)<(4:Int)) then
         bif decide (Zad IntKind.i64 (↑(BitVec.ofInt IntKind.i64.bits (Zad IntKind.i64 (x0.fdiv ((2:Int) ^ min (Int.toNat (3:Int)) IntKind.i64.bits)-(1:Int))) &&& BitVec.ofInt IntKind.i64.bits (15:Int)).toNat:Int)≥(1:Int)) then
          bif decide (Zad IntKind.i64 (↑(BitVec.ofInt IntKind.i64.bits (Zad IntKind.i64 (x0.fdiv ((2:Int) ^ min (Int.toNat (3:Int)) IntKind.i64.bits)-(1:Int))) &&& BitVec.ofInt IntKind.i64.bits (15:Int)).toNat:Int)≤(3:Int)) then
           some (Said.mk (Zad IntKind.i64 (↑(BitVec.ofInt IntKind.i64.bits x0 &&& BitVec.ofInt IntKind.i64.bits (7:Int)).toNat:Int)) (Zad IntKind.i64 (x0.fdiv ((2:Int) ^ min (Int.toNat (3:Int)) IntKind.i64.bits)-(1:Int))))
          else
           some (Said.mk (0:Int) (0:Int))
         else
          some (Said.mk (0:Int) (0:Int))
        else
         some (Said.mk (0:Int) (0:Int))
       else
        some (Said.mk (0:Int) (0:Int))
      else
       some (Said.mk (0:Int) (0:Int))
    else
     bif Zad IntKind.i64 (↑(BitVec.ofInt IntKind.i64.bits x0 &&& BitVec.ofInt IntKind.i64.bits (7:Int)).toNat:Int) == (4:Int) then
      bif decide ((Zad IntKind.i64 (x0.fdiv ((2:Int) ^ min (Int.toNat (3:Int)) IntKind.i64.bits)-(1:Int))).fdiv ((2:Int) ^ min (Int.toNat (4:Int)) IntKind.i64.bits)≥(0:Int)) then
       bif decide ((Zad IntKind.i64 (x0.fdiv ((2:Int) ^ min (Int.toNat (3:Int)) IntKind.i64.bits)-(1:Int))).fdiv ((2:Int) ^ min (Int.toNat (4:Int)) IntKind.i64.bits)<(4:Int)) then
        bif decide (Zad IntKind.i64 (↑(BitVec.ofInt IntKind.i64.bits (Zad IntKind.i64 (x0.fdiv ((2:Int) ^ min (Int.toNat (3:Int)) IntKind.i64.bits)-(1:Int))) &&& BitVec.ofInt IntKind.i64.bits (15:Int)).toNat:Int)≥(1:Int)) then
         bif decide (Zad IntKind.i64 (↑(BitVec.ofInt IntKind.i64.bits (Zad IntKind.i64 (x0.fdiv ((2:Int) ^ min (Int.toNat (3:Int)) IntKind.i64.bits)-(1:Int))) &&& BitVec.ofInt IntKind.i64.bits (15:Int)).toNat:Int)≤(3:Int)) then
          some (Said.mk (Zad IntKind.i64 (↑(BitVec.ofInt IntKind.i64.bits x0 &&& BitVec.ofInt IntKind.i64.bits (7:Int)).toNat:Int)) (Zad IntKind.i64 (x0.fdiv ((2:Int) ^ min (Int.toNat (3:Int)) IntKind.i64.bits)-(1:Int))))
         else
          some (Said.mk (0:Int) (0:Int))
        else
         some (Said.mk (0:Int) (0:Int))
       else
        some (Said.mk (0:Int) (0:Int))
      else
       some (Said.mk (0:Int) (0:Int))
     else
      some (Said.mk (0:Int) (0:Int))
   else
    bif Zad IntKind.i64 (↑(BitVec.ofInt IntKind.i64.bits x0 &&& BitVec.ofInt IntKind.i64.bits (7:Int)).toNat:Int) == (4:Int) then
     bif decide ((Zad IntKind.i64 (x0.fdiv ((2:Int) ^ min (Int.toNat (3:Int)) IntKind.i64.bits)-(1:Int))).fdiv ((2:Int) ^ min (Int.toNat (4:Int)) IntKind.i64.bits)≥(0:Int)) then
      bif decide ((Zad IntKind.i64 (x0.fdiv ((2:Int) ^ min (Int.toNat (3:Int)) IntKind.i64.bits)-(1:Int))).fdiv ((2:Int) ^ min (Int.toNat (4:Int)) IntKind.i64.bits)<(4:Int)) then
       bif decide (Zad IntKind.i64 (↑(BitVec.ofInt IntKind.i64.bits (Zad IntKind.i64 (x0.fdiv ((2:Int) ^ min (Int.toNat (3:Int)) IntKind.i64.bits)-(1:Int))) &&& BitVec.ofInt IntKind.i64.bits (15:Int)).toNat:Int)≥(1:Int)) then
        bif decide (Zad IntKind.i64 (↑(BitVec.ofInt IntKind.i64.bits (Zad IntKind.i64 (x0.fdiv ((2:Int) ^ min (Int.toNat (3:Int)) IntKind.i64.bits)-(1:Int))) &&& BitVec.ofInt IntKind.i64.bits (15:Int)).toNat:Int)≤(3:Int)) then
         some (Said.mk (Zad IntKind.i64 (↑(BitVec.ofInt IntKind.i64.bits x0 &&& BitVec.ofInt IntKind.i64.bits (7:Int)).toNat:Int)) (Zad IntKind.i64 (x0.fdiv ((2:Int) ^ min (Int.toNat (3:Int)) IntKind.i64.bits)-(1:Int))))
        else
         some (Said.mk (0:Int) (0:Int))
       else
        some (Said.mk (0:Int) (0:Int))
      else
       some (Said.mk (0:Int) (0:Int))
     else
      some (Said.mk (0:Int) (0:Int))
    else
     some (Said.mk (0:Int) (0:Int))
  else
   bif Zad IntKind.i64 (↑(BitVec.ofInt IntKind.i64.bits x0 &&& BitVec.ofInt IntKind.i64.bits (7:Int)).toNat:Int) == (4:Int) then
    bif decide ((Zad IntKind.i64 (x0.fdiv ((2:Int) ^ min (Int.toNat (3:Int)) IntKind.i64.bits)-(1:Int))).fdiv ((2:Int) ^ min (Int.toNat (4:Int)) IntKind.i64.bits)≥(0:Int)) then
     bif decide ((Zad IntKind.i64 (x0.fdiv ((2:Int) ^ min (Int.toNat (3:Int)) IntKind.i64.bits)-(1:Int))).fdiv ((2:Int) ^ min (Int.toNat (4:Int)) IntKind.i64.bits)<(4:Int)) then
      bif decide (Zad IntKind.i64 (↑(BitVec.ofInt IntKind.i64.bits (Zad IntKind.i64 (x0.fdiv ((2:Int) ^ min (Int.toNat (3:Int)) IntKind.i64.bits)-(1:Int))) &&& BitVec.ofInt IntKind.i64.bits (15:Int)).toNat:Int)≥(1:Int)) then
       bif decide (Zad IntKind.i64 (↑(BitVec.ofInt IntKind.i64.bits (Zad IntKind.i64 (x0.fdiv ((2:Int) ^ min (Int.toNat (3:Int)) IntKind.i64.bits)-(1:Int))) &&& BitVec.ofInt IntKind.i64.bits (15:Int)).toNat:Int)≤(3:Int)) then
        some (Said.mk (Zad IntKind.i64 (↑(BitVec.ofInt IntKind.i64.bits x0 &&& BitVec.ofInt IntKind.i64.bits (7:Int)).toNat:Int)) (Zad IntKind.i64 (x0.fdiv ((2:Int) ^ min (Int.toNat (3:Int)) IntKind.i64.bits)-(1:Int))))
       else
        some (Said.mk (0:Int) (0:Int))
      else
       some (Said.mk (0:Int) (0:Int))
     else
      some (Said.mk (0:Int) (0:Int))
    else
     some (Said.mk (0:Int) (0:Int))
   else
    some (Said.mk (0:Int) (0:Int))
noncomputable def ZiA (x:Int):Option (Said):=ZmU x
noncomputable def ZkO (x0:Int):Option (Int) :=
 match ZiA x0 with
 | some y1 =>
  bif x0 == (0:Int) then
   some (y1.kind)
  else
   bif !(y1.kind == (0:Int) && (y1.n == (0:Int) && true)) then
    some (y1.kind)
   else
    some ((-1:Int))
 | none=>none
noncomputable def Zgk (x:Int):Option (Int):=ZkO x
noncomputable def Zj4 (x0:Turn) (x1:Int):Option (Turn) :=
 match Zgk x1 with
 | some y1 =>
  bif y1 == (1:Int) then
   some ({ x0 with th:={ x0.th with phase:=(6:Int),x:=x1 } })
  else
   bif y1 == (0:Int) then
    some ({ x0 with th:={ x0.th with phase:=(5:Int) } })
   else
    match ZdA x0 with
    | some y2 =>
     bif y2 then
      match ZdW x0 with
      | some y3 =>
       some (y3)
      | none=>none
     else
      some (x0)
    | none=>none
 | none=>none
noncomputable def Zkf (x:Turn×Int):Option (Turn):=Zj4 x.1 x.2
noncomputable def Zi9 (x0:Int):Option (Int) :=
 match ZbG (Said.mk (2:Int) x0) with
 | some y1 =>
  some (y1)
 | none=>none
noncomputable def ZiM (x:Int):Option (Int):=Zi9 x
noncomputable def Zh7 (x0:Turn):Option (Turn) :=
 match ZdW { x0 with th:={ x0.th with stop:=x0.th.node } } with
 | some y1 =>
  some (y1)
 | none=>none
noncomputable def ZhQ (x:Turn):Option (Turn):=Zh7 x
noncomputable def Zkd (x0:Turn):Option (Turn×Bool) :=
 match Zd3 (x0.c,x0.th.item,x0.th.node) with
 | some y1 =>
  match ZeM x0.t with
  | some y2 =>
   bif x0.th.phase == (4:Int) then
    match ZbN (x0.m,y1) with
    | some y3 =>
     bif y3.snd != (0:Int) then
      some ((x0,true))
     else
      match Zkf (x0,y3.fst) with
      | some y4 =>
       some ((y4,true))
      | none=>none
    | none=>none
   else
    bif x0.th.phase == (6:Int) then
     match ZiM x0.t with
     | some y3 =>
      match ZcK (x0.m,y1,x0.th.x,y3) with
      | some y4 =>
       bif y4.snd.snd != (0:Int) then
        some ((x0,true))
       else
        bif y4.snd.fst then
         match ZhQ { x0 with m:=y4.fst,th:={ x0.th with phase:=(4:Int) } } with
         | some y5 =>
          some ((y5,true))
         | none=>none
        else
         some (({ x0 with m:=y4.fst,th:={ x0.th with phase:=(4:Int) } },true))
      | none=>none
     | none=>none
    else
     bif x0.th.phase == (5:Int) then
      match ZcK (x0.m,y1,(0:Int),y2) with
      | some y3 =>
       bif y3.snd.snd != (0:Int) then
        some ((x0,true))
       else
        bif y3.snd.fst then
         match ZiW { x0 with m:=y3.fst,th:={ x0.th with phase:=(4:Int) } } with
         | some y4 =>
          some ((y4,true))
         | none=>none
        else
         some (({ x0 with m:=y3.fst,th:={ x0.th with phase:=(4:Int) } },true))
      | none=>none
     else
      some ((x0,false))
  | none=>none
 | none=>none
noncomputable def ZjT (x:Turn):Option (Turn×Bool):=Zkd x
noncomputable def Zi1 (x0:Turn):Option (Int) :=
 bif decide (x0.th.at_<(0:Int)) then
  some ((-1:Int))
 else
  bif decide (x0.th.at_≥(↑x0.th.held.length:Int)) then
   some ((-1:Int))
  else
   bif decide ((0:Int)≤x0.th.at_) then
    bif decide (x0.th.at_<(↑x0.th.held.length:Int)) then
     match Zd3 (x0.c,x0.th.item,x0.th.held.getD x0.th.at_.toNat (0:Int)) with
     | some y1 =>
      some (y1)
     | none=>none
    else
     none
   else
    none
noncomputable def Ze2 (x:Turn):Option (Int):=Zi1 x
noncomputable def Zlr (x0:Int):Option (Int) :=
 match ZiA x0 with
 | some y1 =>
  bif decide (y1.kind≥(1:Int)) then
   bif decide (y1.kind≤(3:Int)) then
    some (y1.n)
   else
    some ((-1:Int))
  else
   some ((-1:Int))
 | none=>none
noncomputable def ZlC (x:Int):Option (Int):=Zlr x
noncomputable def Zl8 (x0:Turn):Option (Turn) :=
 match Ze2 x0 with
 | some y1 =>
  match ZbN (x0.m,y1) with
  | some y2 =>
   bif y2.snd != (0:Int) then
    some (x0)
   else
    match ZeM x0.t with
    | some y3 =>
     bif y2.fst == y3 then
      some ({ x0 with th:={ x0.th with phase:=(8:Int) } })
     else
      match Zgk y2.fst with
      | some y4 =>
       bif y4 == (3:Int) then
        match ZlC y2.fst with
        | some y5 =>
         some ({ x0 with th:={ x0.th with phase:=(9:Int),who:=y5 } })
        | none=>none
       else
        some (x0)
      | none=>none
    | none=>none
  | none=>none
 | none=>none
noncomputable def ZiP (x:Turn):Option (Turn):=Zl8 x
noncomputable def Zi0 (x0:Turn):Option (Turn) :=
 match ZfT { x0 with th:={ x0.th with at_:=Zad IntKind.i64 (x0.th.at_+(1:Int)) } } with
 | some y1 =>
  some (y1)
 | none=>none
noncomputable def ZgB (x:Turn):Option (Turn):=Zi0 x
noncomputable def Zmo (x0:Turn):Option (Turn) :=
 match Ze2 x0 with
 | some y1 =>
  match ZeM x0.t with
  | some y2 =>
   match ZcK (x0.m,y1,y2,(0:Int)) with
   | some y3 =>
    bif !y3.snd.fst then
     bif y3.snd.snd != (0:Int) then
      some (x0)
     else
      some ({ x0 with m:=y3.fst,th:={ x0.th with phase:=(7:Int) } })
    else
     bif y3.snd.snd != (0:Int) then
      some (x0)
     else
      match ZgB { x0 with m:=y3.fst } with
      | some y4 =>
       some (y4)
      | none=>none
   | none=>none
  | none=>none
 | none=>none
noncomputable def Zjc (x:Turn):Option (Turn):=Zmo x
noncomputable def ZcH (x0:List Entry):Option ((List Entry)) :=
 bif fewB ((0:Nat)+x0.length) then
  some (x0)
 else
  none
noncomputable def Zbg (x:(List Entry)):Option ((List Entry)):=ZcH x
noncomputable def Zb8 (x0:List (List Entry)) (x1:Int):Option ((List Entry)×Int) :=
 bif decide (x1<(0:Int)) then
  some ((([]:List Entry),(30:Int)))
 else
  bif decide (x1≥(↑x0.length:Int)) then
   some ((([]:List Entry),(30:Int)))
  else
   bif decide ((0:Int)≤x1) then
    bif decide (x1<(↑x0.length:Int)) then
     some ((x0.getD x1.toNat ([]:List Entry),(0:Int)))
    else
     none
   else
    none
noncomputable def Zcb (x:(List (List Entry))×Int):Option ((List Entry)×Int):=Zb8 x.1 x.2
noncomputable def ZhF (x0:Memo) (x1:Int):Option ((List Entry)×Int) :=
 match Zcb (x0.boxes,x1) with
 | some y1 =>
  match Zbg y1.fst with
  | some y2 =>
   some ((y2,y1.snd))
  | none=>none
 | none=>none
noncomputable def ZhA (x:Memo×Int):Option ((List Entry)×Int):=ZhF x.1 x.2
noncomputable def ZdZ (x0:Unit) (x1:Int):Option ((List Kid)) :=
 bif decide (x1<(0:Int)) then
  none
 else
  bif decide (Zad IntKind.i64 (x1-Zad IntKind.i64 ((0:Int)-(0:Int)))>(0:Int)) then
   bif decide ((0:Int)≤Zad IntKind.i64 (x1-Zad IntKind.i64 ((0:Int)-(0:Int)))) then
    bif decide (Zad IntKind.i64 (x1-Zad IntKind.i64 ((0:Int)-(0:Int)))≤Zbl) then
     some (List.take (Int.toNat (0:Int)) (List.replicate (Zad IntKind.i64 (x1-Zad IntKind.i64 ((0:Int)-(0:Int)))).toNat (Kid.mk (0:Int) (0:Int))))
    else
     none
   else
    none
  else
   some (([]:List Kid))
noncomputable def Zd5 (x:Unit×Int):Option ((List Kid)):=ZdZ x.1 x.2
noncomputable def Zcj (x0:List Kid) (x1:List (List Kid)) (x2:Int) (x3:Int):Option (((List Kid)×(List (List Kid))×Int×Int)⊕(((List Kid)))) :=
 bif decide (x3<x2) then
  bif decide ((0:Int)≤x3) then
   bif decide (x3<(↑x1.length:Int)) then
    bif fewB (x0.length+List.length (x1.getD x3.toNat ([]:List Kid))) then
     some (Sum.inl (x0++x1.getD x3.toNat ([]:List Kid),x1,x2,Zad IntKind.i64 (x3+(1:Int))))
    else
     none
   else
    none
  else
   none
 else
  some (Sum.inr x0)
noncomputable def Zbx (x:(List Kid)×(List (List Kid))×Int×Int):Option (((List Kid)×(List (List Kid))×Int×Int)⊕(((List Kid)))):=Zcj x.1 x.2.1 x.2.2.1 x.2.2.2
noncomputable def Zc2 (x:(List Kid)×(List (List Kid))×Int×Int):Option (((List Kid))):=ZaH Zbx x
noncomputable def Zcq (x0:List (List Kid)) (x1:Int) (x2:List (List Kid)) (x3:Int) (x4:Int):Option (((List (List Kid))×Int×(List (List Kid))×Int×Int)⊕(((List (List Kid))×Int))) :=
 bif decide (x4<x3) then
  bif decide ((0:Int)≤x4) then
   bif decide (x4<(↑x2.length:Int)) then
    bif decide (Zad IntKind.i64 (x1+(↑(List.length (x2.getD x4.toNat ([]:List Kid))):Int))<(0:Int)) then
     none
    else
     some (Sum.inl (x0,Zad IntKind.i64 (x1+(↑(List.length (x2.getD x4.toNat ([]:List Kid))):Int)),x2,x3,Zad IntKind.i64 (x4+(1:Int))))
   else
    none
  else
   none
 else
  some (Sum.inr (x0,x1))
noncomputable def ZbC (x:(List (List Kid))×Int×(List (List Kid))×Int×Int):Option (((List (List Kid))×Int×(List (List Kid))×Int×Int)⊕(((List (List Kid))×Int))):=Zcq x.1 x.2.1 x.2.2.1 x.2.2.2.1 x.2.2.2.2
noncomputable def Zc6 (x:(List (List Kid))×Int×(List (List Kid))×Int×Int):Option (((List (List Kid))×Int)):=ZaH ZbC x
noncomputable def ZdF (x0:List (List Kid)):Option ((List Kid)) :=
 match Zc6 (x0,(0:Int),x0,(↑x0.length:Int),(0:Int)) with
 | some y1 =>
  match Zd5 ((),y1.snd) with
  | some y2 =>
   match Zc2 (y2,y1.fst,(↑(List.length y1.fst):Int),(0:Int)) with
   | some y3 =>
    some (y3)
   | none=>none
  | none=>none
 | none=>none
noncomputable def ZdB (x:(List (List Kid))):Option ((List Kid)):=ZdF x
noncomputable def ZdM (x0:Unit) (x1:Int):Option ((List Entry)) :=
 bif decide (x1<(0:Int)) then
  none
 else
  bif decide (Zad IntKind.i64 (x1-Zad IntKind.i64 ((0:Int)-(0:Int)))>(0:Int)) then
   bif decide ((0:Int)≤Zad IntKind.i64 (x1-Zad IntKind.i64 ((0:Int)-(0:Int)))) then
    bif decide (Zad IntKind.i64 (x1-Zad IntKind.i64 ((0:Int)-(0:Int)))≤Zbl) then
     some (List.take (Int.toNat (0:Int)) (List.replicate (Zad IntKind.i64 (x1-Zad IntKind.i64 ((0:Int)-(0:Int)))).toNat (Entry.mk (0:Int) (Op.mk (0:Int) (0:Int)))))
    else
     none
   else
    none
  else
   some (([]:List Entry))
noncomputable def ZdN (x:Unit×Int):Option ((List Entry)):=ZdM x.1 x.2
noncomputable def Zce (x0:List Entry) (x1:List (List Entry)) (x2:Int) (x3:Int):Option (((List Entry)×(List (List Entry))×Int×Int)⊕(((List Entry)))) :=
 bif decide (x3<x2) then
  bif decide ((0:Int)≤x3) then
   bif decide (x3<(↑x1.length:Int)) then
    bif fewB (x0.length+List.length (x1.getD x3.toNat ([]:List Entry))) then
     some (Sum.inl (x0++x1.getD x3.toNat ([]:List Entry),x1,x2,Zad IntKind.i64 (x3+(1:Int))))
    else
     none
   else
    none
  else
   none
 else
  some (Sum.inr x0)
noncomputable def Zbq (x:(List Entry)×(List (List Entry))×Int×Int):Option (((List Entry)×(List (List Entry))×Int×Int)⊕(((List Entry)))):=Zce x.1 x.2.1 x.2.2.1 x.2.2.2
noncomputable def ZcZ (x:(List Entry)×(List (List Entry))×Int×Int):Option (((List Entry))):=ZaH Zbq x
noncomputable def Zch (x0:List (List Entry)) (x1:Int) (x2:List (List Entry)) (x3:Int) (x4:Int):Option (((List (List Entry))×Int×(List (List Entry))×Int×Int)⊕(((List (List Entry))×Int))) :=
 bif decide (x4<x3) then
  bif decide ((0:Int)≤x4) then
   bif decide (x4<(↑x2.length:Int)) then
    bif decide (Zad IntKind.i64 (x1+(↑(List.length (x2.getD x4.toNat ([]:List Entry))):Int))<(0:Int)) then
     none
    else
     some (Sum.inl (x0,Zad IntKind.i64 (x1+(↑(List.length (x2.getD x4.toNat ([]:List Entry))):Int)),x2,x3,Zad IntKind.i64 (x4+(1:Int))))
   else
    none
  else
   none
 else
  some (Sum.inr (x0,x1))
noncomputable def Zbw (x:(List (List Entry))×Int×(List (List Entry))×Int×Int):Option (((List (List Entry))×Int×(List (List Entry))×Int×Int)⊕(((List (List Entry))×Int))):=Zch x.1 x.2.1 x.2.2.1 x.2.2.2.1 x.2.2.2.2
noncomputable def Zc3 (x:(List (List Entry))×Int×(List (List Entry))×Int×Int):Option (((List (List Entry))×Int)):=ZaH Zbw x
noncomputable def Zdp (x0:List (List Entry)):Option ((List Entry)) :=
 match Zc3 (x0,(0:Int),x0,(↑x0.length:Int),(0:Int)) with
 | some y1 =>
  match ZdN ((),y1.snd) with
  | some y2 =>
   match ZcZ (y2,y1.fst,(↑(List.length y1.fst):Int),(0:Int)) with
   | some y3 =>
    some (y3)
   | none=>none
  | none=>none
 | none=>none
noncomputable def Zdi (x:(List (List Entry))):Option ((List Entry)):=Zdp x
noncomputable def ZmD (x0:List (List Entry)):Option ((List Entry)) :=
 match Zdi x0 with
 | some y1 =>
  some (y1)
 | none=>none
noncomputable def Zjz (x:(List (List Entry))):Option ((List Entry)):=ZmD x
noncomputable def ZiU (x0:Turn) (x1:Int) (x2:List Entry):Option (Turn) :=
 match ZdB (x0.th.kids::(Kid.mk x1 (↑x0.th.batch.length:Int)::([]:List Kid))::([]:List (List Kid))) with
 | some y1 =>
  match Zjz (x0.th.batch::x2::([]:List (List Entry))) with
  | some y2 =>
   some ({ x0 with th:={ x0.th with batch:=y2,kids:=y1 } })
  | none=>none
 | none=>none
noncomputable def Zfa (x:Turn×Int×(List Entry)):Option (Turn):=ZiU x.1 x.2.1 x.2.2
noncomputable def Zj2 (x0:Turn):Option (Turn) :=
 match ZhA (x0.m,x0.th.who) with
 | some y1 =>
  bif y1.snd != (0:Int) then
   some (x0)
  else
   match Zfa (x0,x0.th.who,y1.fst) with
   | some y2 =>
    some ({ y2 with th:={ y2.th with phase:=(10:Int) } })
   | none=>none
 | none=>none
noncomputable def ZgJ (x:Turn):Option (Turn):=Zj2 x
noncomputable def Zmg (x0:Turn):Option (Turn) :=
 match Ze2 x0 with
 | some y1 =>
  match ZbX (x0.m,y1,(0:Int)) with
  | some y2 =>
   bif y2.snd != (0:Int) then
    some (x0)
   else
    match ZgB { x0 with m:=y2.fst } with
    | some y3 =>
     some (y3)
    | none=>none
  | none=>none
 | none=>none
noncomputable def ZiO (x:Turn):Option (Turn):=Zmg x
noncomputable def Zdr (x0:List (List Entry)):Option ((List (List Entry))) :=
 bif fewB ((0:Nat)+x0.length) then
  some (x0)
 else
  none
noncomputable def Zdl (x:(List (List Entry))):Option ((List (List Entry))):=Zdr x
noncomputable def ZlT (x0:Memo) (x1:Int) (x2:List Entry):Option (Memo×Int) :=
 match Zcb (x0.boxes,x1) with
 | some y1 =>
  bif y1.snd != (0:Int) then
   some ((x0,y1.snd))
  else
   match Zdl x0.boxes with
   | some y2 =>
    match Zbg x2 with
    | some y3 =>
     bif decide ((0:Int)≤x1) then
      bif decide (x1<(↑(List.length y2):Int)) then
       some (({ x0 with boxes:=List.set y2 x1.toNat y3 },(0:Int)))
      else
       none
     else
      none
    | none=>none
   | none=>none
 | none=>none
noncomputable def Zhr (x:Memo×Int×(List Entry)):Option (Memo×Int):=ZlT x.1 x.2.1 x.2.2
noncomputable def ZjE (x0:Turn):Option (Turn) :=
 match Zhr (x0.m,x0.t,x0.th.batch) with
 | some y1 =>
  bif y1.snd != (0:Int) then
   some (x0)
  else
   some ({ x0 with m:=y1.fst,th:={ x0.th with phase:=(12:Int) } })
 | none=>none
noncomputable def ZgP (x:Turn):Option (Turn):=ZjE x
noncomputable def ZgS (x0:Int):Option (Int) :=
 match ZbG (Said.mk (3:Int) x0) with
 | some y1 =>
  some (y1)
 | none=>none
noncomputable def ZgQ (x:Int):Option (Int):=ZgS x
noncomputable def ZjI (x0:Turn):Option (Turn) :=
 match Zd3 (x0.c,x0.th.item,x0.th.stop) with
 | some y1 =>
  match ZgQ x0.t with
  | some y2 =>
   match ZbX (x0.m,y1,y2) with
   | some y3 =>
    bif y3.snd != (0:Int) then
     some (x0)
    else
     some ({ x0 with m:=y3.fst,th:={ x0.th with phase:=(13:Int) } })
   | none=>none
  | none=>none
 | none=>none
noncomputable def ZgR (x:Turn):Option (Turn):=ZjI x
noncomputable def Zjb (x0:Turn):Option (Turn×Bool) :=
 bif x0.th.phase == (7:Int) then
  match ZiP x0 with
  | some y1 =>
   some ((y1,true))
  | none=>none
 else
  bif x0.th.phase == (8:Int) then
   match Zjc x0 with
   | some y1 =>
    some ((y1,true))
   | none=>none
  else
   bif x0.th.phase == (9:Int) then
    match ZgJ x0 with
    | some y1 =>
     some ((y1,true))
    | none=>none
   else
    bif x0.th.phase == (10:Int) then
     match ZiO x0 with
     | some y1 =>
      some ((y1,true))
     | none=>none
    else
     bif x0.th.phase == (11:Int) then
      match ZgP x0 with
      | some y1 =>
       some ((y1,true))
      | none=>none
     else
      bif x0.th.phase == (12:Int) then
       match ZgR x0 with
       | some y1 =>
        some ((y1,true))
       | none=>none
      else
       some ((x0,false))
noncomputable def ZiI (x:Turn):Option (Turn×Bool):=Zjb x
noncomputable def Zhi (x0:Turn):Option (Turn) :=
 bif decide (x0.th.layer<x0.c.layers) then
  match ZdA { x0 with th:={ x0.th with phase:=(2:Int) } } with
  | some y1 =>
   bif !y1 then
    some ({ x0 with th:={ x0.th with phase:=(17:Int),layer:=Zad IntKind.i64 (x0.th.layer+(1:Int)) } })
   else
    some ({ x0 with th:={ x0.th with phase:=(2:Int) } })
  | none=>none
 else
  some ({ x0 with th:={ x0.th with phase:=(2:Int) } })
noncomputable def Zcd (x:Turn):Option (Turn):=Zhi x
noncomputable def Zio (x0:Int) (x1:Int):Option (Int) :=
 match ZbG (Said.mk (4:Int) (Zad IntKind.i64 (Zad IntKind.i64 (x0*(2:Int) ^ min (Int.toNat (4:Int)) IntKind.i64.bits)+x1))) with
 | some y1 =>
  some (y1)
 | none=>none
noncomputable def Zil (x:Int×Int):Option (Int):=Zio x.1 x.2
noncomputable def Zg0 (x0:Turn×Int) (x1:Int):Option (Int) :=
 match ZcX (x0.fst.c,x1) with
 | some y1 =>
  some (y1)
 | none=>none
noncomputable def ZbS (x:(Turn×Int)×Int):Option (Int):=Zg0 x.1 x.2
noncomputable def Zn7:Option (Int) :=
 match ZbG (Said.mk (5:Int) (-1:Int)) with
 | some y1 =>
  some (y1)
 | none=>none
noncomputable def Zgq (x:Unit):Option (Int):=Zn7
noncomputable def ZhV (x0:Config) (x1:Int):Option (Int) :=
 bif decide (x1<(0:Int)) then
  some ((-1:Int))
 else
  bif decide (x1≥x0.threads) then
   some ((-1:Int))
  else
   match Zcf x0 with
   | some y1 =>
    some (Zad IntKind.i64 (Zad IntKind.i64 (y1.lines+Zad IntKind.i64 ((2:Int)*x1))+(1:Int)))
   | none=>none
noncomputable def ZeG (x:Config×Int):Option (Int):=ZhV x.1 x.2
noncomputable def ZhS (x0:Turn):Option (Turn) :=
 bif decide (x0.th.at_<(0:Int)) then
  some ({ x0 with th:={ x0.th with phase:=(0:Int) },done:=true })
 else
  bif decide (x0.th.at_≥(↑x0.th.kids.length:Int)) then
   some ({ x0 with th:={ x0.th with phase:=(0:Int) },done:=true })
  else
   bif decide ((0:Int)≤x0.th.at_) then
    bif decide (x0.th.at_<(↑x0.th.kids.length:Int)) then
     some ({ x0 with th:={ x0.th with phase:=(15:Int) } })
    else
     none
   else
    none
noncomputable def Zc9 (x:Turn):Option (Turn):=ZhS x
noncomputable def Zj8 (x0:List Entry) (x1:Int):Option ((List Entry)) :=
 bif decide ((0:Int)≤if (if (↑x0.length:Int)<x1 then (↑x0.length:Int) else x1)>(0:Int) then if (↑x0.length:Int)<x1 then (↑x0.length:Int) else x1 else (0:Int)) then
  bif decide ((if (if (↑x0.length:Int)<x1 then (↑x0.length:Int) else x1)>(0:Int) then if (↑x0.length:Int)<x1 then (↑x0.length:Int) else x1 else (0:Int))≤(↑x0.length:Int)) then
   match Zbg (List.drop (Int.toNat (0:Int)) (List.take (if (if (↑x0.length:Int)<x1 then (↑x0.length:Int) else x1)>(0:Int) then if (↑x0.length:Int)<x1 then (↑x0.length:Int) else x1 else (0:Int)).toNat x0)) with
   | some y1 =>
    some (y1)
   | none=>none
  else
   none
 else
  none
noncomputable def Zj6 (x:(List Entry)×Int):Option ((List Entry)):=Zj8 x.1 x.2
noncomputable def Zgh (x0:Memo) (x1:Int) (x2:Int):Option (Memo×Int×Int) :=
 match Zbs (x0.words,x1) with
 | some y1 =>
  bif y1.snd != (0:Int) then
   some ((x0,(0:Int),y1.snd))
  else
   match Zbn x0.words with
   | some y2 =>
    bif decide ((0:Int)≤x1) then
     bif decide (x1<(↑(List.length y2):Int)) then
      some (({ x0 with words:=List.set y2 x1.toNat x2 },y1))
     else
      none
    else
     none
   | none=>none
 | none=>none
noncomputable def ZkT (x:Memo×Int×Int):Option (Memo×Int×Int):=Zgh x.1 x.2.1 x.2.2
noncomputable def ZjR (x0:Config) (x1:Int) (x2:Int) (x3:Int):Option (Int) :=
 bif decide (x1<(0:Int)) then
  some ((-1:Int))
 else
  bif decide (x1≥x0.items) then
   some ((-1:Int))
  else
   bif decide (x2<(1:Int)) then
    some ((-1:Int))
   else
    bif decide (x2≥Zad IntKind.i64 ((1:Int)+x0.layers)) then
     some ((-1:Int))
    else
     bif decide (x3<(0:Int)) then
      some ((-1:Int))
     else
      bif decide (x3≥x0.width) then
       some ((-1:Int))
      else
       match Zcf x0 with
       | some y1 =>
        match Zcf x0 with
        | some y2 =>
         some (Zad IntKind.i64 (Zad IntKind.i64 (Zad IntKind.i64 (Zad IntKind.i64 (x1*y1.block)+y2.slots)+Zad IntKind.i64 (Zad IntKind.i64 (x2-(1:Int))*x0.width))+x3))
        | none=>none
       | none=>none
noncomputable def Zjw (x:Config×Int×Int×Int):Option (Int):=ZjR x.1 x.2.1 x.2.2.1 x.2.2.2
noncomputable def Zgj (x0:Tape):Option (Int) :=
 bif decide (x0.at_<(0:Int)) then
  some ((0:Int))
 else
  some (if Zad IntKind.i64 ((↑x0.l.length:Int)-x0.at_)>(0:Int) then Zad IntKind.i64 ((↑x0.l.length:Int)-x0.at_) else (0:Int))
noncomputable def Zfg (x:Tape):Option (Int):=Zgj x
end Go.Proofs.Mill
