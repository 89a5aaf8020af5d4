/- What the functions compute. -/
import Derived.Test.YtaopdopnecognaaGreatMillAll3
namespace Go.Proofs.Mill
set_option linter.all false
noncomputable def Zqm (x0:List SEntry) (x1:Int) (x2:Int):Option (((List SEntry)×Int×Int)⊕(((List SEntry)))) :=
 bif decide (x2<x1) then
  bif fewB (x0.length+(SEntry.mk (2:Int) x2 (0:Int) (Op.mk (0:Int) (0:Int))::([]:List SEntry)).length) then
   some (Sum.inl (x0++SEntry.mk (2:Int) x2 (0:Int) (Op.mk (0:Int) (0:Int))::([]:List SEntry),x1,Zae IntKind.i64 (x2+(1:Int))))
  else
   none
 else
  some (Sum.inr x0)
noncomputable def ZhS (x:(List SEntry)×Int×Int):Option (((List SEntry)×Int×Int)⊕(((List SEntry)))):=Zqm x.1 x.2.1 x.2.2
noncomputable def Zqr (x:(List SEntry)×Int×Int):Option (((List SEntry))):=ZaH ZhS x
noncomputable def Ztf (x0:Config):Option ((List SEntry)) :=
 match Zqr (([]:List SEntry),x0.threads,(0:Int)) with
 | some y1 =>
  some (y1)
 | none=>none
noncomputable def Zkp (x:Config):Option ((List SEntry)):=Ztf x
noncomputable def Zo9 (x0:Int) (x1:List SEntry) (x2:List SEntry) (x3:List SEntry) (x4:Int) (x5:Int):Option ((Int×(List SEntry)×(List SEntry)×(List SEntry)×Int×Int)⊕(((List SEntry))⊕(Int×(List SEntry)×(List SEntry)))) :=
 bif decide (x5<x4) then
  bif decide ((0:Int)≤x5) then
   bif decide (x5<(↑x3.length:Int)) then
    bif decide ((↑x1.length:Int)≥(65536:Int)) then
     some (Sum.inr (Sum.inl x1))
    else
     bif fewB (x1.length+(x3.getD x5.toNat ZaL::([]:List SEntry)).length) then
      some (Sum.inl (x0,x1++x3.getD x5.toNat ZaL::([]:List SEntry),x2,x3,x4,Zae IntKind.i64 (x5+(1:Int))))
     else
      none
   else
    none
  else
   none
 else
  some (Sum.inr (Sum.inr (x0,x1,x2)))
noncomputable def Zhi (x:Int×(List SEntry)×(List SEntry)×(List SEntry)×Int×Int):Option ((Int×(List SEntry)×(List SEntry)×(List SEntry)×Int×Int)⊕(((List SEntry))⊕(Int×(List SEntry)×(List SEntry)))):=Zo9 x.1 x.2.1 x.2.2.1 x.2.2.2.1 x.2.2.2.2.1 x.2.2.2.2.2
noncomputable def ZoV (x:Int×(List SEntry)×(List SEntry)×(List SEntry)×Int×Int):Option (((List SEntry))⊕(Int×(List SEntry)×(List SEntry))):=ZaH Zhi x
noncomputable def ZpU (x0:Int) (x1:List SEntry) (x2:List SEntry):Option ((Int×(List SEntry)×(List SEntry))⊕(((List SEntry)))) :=
 bif decide (x0>(0:Int)) then
  match ZoV (x0,x1,x2,x2,(↑x2.length:Int),(0:Int)) with
  | some (.inl y1) =>
   some (Sum.inr y1)
  | some (.inr y2) =>
   some (Sum.inl (Zae IntKind.i64 (y2.fst-(1:Int)),y2.snd))
  | none=>none
 else
  some (Sum.inr x1)
noncomputable def ZhE (x:Int×(List SEntry)×(List SEntry)):Option ((Int×(List SEntry)×(List SEntry))⊕(((List SEntry)))):=ZpU x.1 x.2.1 x.2.2
noncomputable def Zpj (x:Int×(List SEntry)×(List SEntry)):Option (((List SEntry))):=ZaH ZhE x
noncomputable def ZrJ (x0:Config) (x1:Int):Option ((List SEntry)) :=
 match Zkp x0 with
 | some y1 =>
  match Zpj (x1,([]:List SEntry),y1) with
  | some y2 =>
   some (y2)
  | none=>none
 | none=>none
noncomputable def Zjj (x:Config×Int):Option ((List SEntry)):=ZrJ x.1 x.2
noncomputable def Zqv (x0:Config):Option (Int) :=
 some (Zae IntKind.i64 (Zae IntKind.i64 ((20:Int)+Zae IntKind.i64 ((8:Int)*x0.depth))+Zae IntKind.i64 (x0.layers*Zae IntKind.i64 ((20:Int)+Zae IntKind.i64 ((2:Int)*x0.spin)))))
noncomputable def Zli (x:Config):Option (Int):=Zqv x
noncomputable def ZrA (x0:Config):Option (Int) :=
 match Zli x0 with
 | some y1 =>
  some (Zae IntKind.i64 ((20:Int)+Zae IntKind.i64 (Zae IntKind.i64 ((4:Int)*y1)*x0.threads)))
 | none=>none
noncomputable def ZgG (x:Config):Option (Int):=ZrA x
noncomputable def Zhr (x0:Config) (x1:Int) (x2:Int):Option ((Config×Int×Int)⊕((Int))) :=
 bif decide (x2<x0.depth) then
  some (Sum.inl (x0,Zae IntKind.i64 ((2:Int)*x1),Zae IntKind.i64 (x2+(1:Int))))
 else
  some (Sum.inr x1)
noncomputable def Zet (x:Config×Int×Int):Option ((Config×Int×Int)⊕((Int))):=Zhr x.1 x.2.1 x.2.2
noncomputable def Zkr (x:Config×Int×Int):Option ((Int)):=ZaH Zet x
noncomputable def ZiP (x0:Config):Option (Int) :=
 match Zkr (x0,(1:Int),(0:Int)) with
 | some y1 =>
  some (Zae IntKind.i64 (y1-(1:Int)))
 | none=>none
noncomputable def Zi4 (x:Config):Option (Int):=ZiP x
noncomputable def Zi7 (x0:Config):Option (Int) :=
 match Zi4 x0 with
 | some y1 =>
  some (Zae IntKind.i64 (Zae IntKind.i64 ((1:Int)+y1)+Zae IntKind.i64 (x0.layers*x0.width)))
 | none=>none
noncomputable def Zjk (x:Config):Option (Int):=Zi7 x
noncomputable def Zfb (x0:Thread):Option (Bool) :=
 some (x0.phase != (0:Int))
noncomputable def Zb8 (x:Thread):Option (Bool):=Zfb x
noncomputable def Zhp (x0:Int) (x1:Int):Option (Bool) :=
 bif decide ((0:Int)≤x0) then
  some (decide (x0<x1))
 else
  some (false)
noncomputable def ZdA (x:Int×Int):Option (Bool):=Zhp x.1 x.2
noncomputable def ZmH (x0:Int):Option (Bool) :=
 bif decide ((1:Int)≤x0) then
  some (decide (x0≤(9:Int)))
 else
  some (false)
noncomputable def ZjK (x:Int):Option (Bool):=ZmH x
noncomputable def Zl3 (x0:Op) (x1:Bool):Option (Bool) :=
 bif !x1 then
  match ZjK x0.tag with
  | some y1 =>
   bif y1 then
    some (decide (x0.tag<(8:Int)))
   else
    some (false)
  | none=>none
 else
  bif x0.tag == (9:Int) then
   some (decide (x0.v≥(0:Int)))
  else
   some (x0.tag == (8:Int))
noncomputable def Zjw (x:Op×Bool):Option (Bool):=Zl3 x.1 x.2
noncomputable def ZhT (x0:Config) (x1:SEntry):Option (Int) :=
 bif x1.kind == (1:Int) then
  bif x1.kind == (1:Int) then
   match ZdA (x1.t,x0.threads) with
   | some y1 =>
    bif !y1 then
     some ((91:Int))
    else
     bif x1.kind == (2:Int) then
      some ((0:Int))
     else
      match ZdA (x1.item,x0.items) with
      | some y2 =>
       bif !y2 then
        some ((92:Int))
       else
        match Zjw (x1.op,x0.bounded) with
        | some y3 =>
         bif !y3 then
          some ((93:Int))
         else
          some ((0:Int))
        | none=>none
      | none=>none
   | none=>none
  else
   bif x1.kind == (3:Int) then
    some ((0:Int))
   else
    some ((90:Int))
 else
  bif x1.kind == (2:Int) then
   match ZdA (x1.t,x0.threads) with
   | some y1 =>
    bif !y1 then
     some ((91:Int))
    else
     bif x1.kind == (2:Int) then
      some ((0:Int))
     else
      match ZdA (x1.item,x0.items) with
      | some y2 =>
       bif !y2 then
        some ((92:Int))
       else
        match Zjw (x1.op,x0.bounded) with
        | some y3 =>
         bif !y3 then
          some ((93:Int))
         else
          some ((0:Int))
        | none=>none
      | none=>none
   | none=>none
  else
   bif x1.kind == (3:Int) then
    some ((0:Int))
   else
    some ((90:Int))
noncomputable def Zih (x:Config×SEntry):Option (Int):=ZhT x.1 x.2
noncomputable def Zh5 (x0:List Thread):Option ((List Thread)) :=
 bif fewB ((0:Nat)+x0.length) then
  some (x0)
 else
  none
noncomputable def ZhO (x:(List Thread)):Option ((List Thread)):=Zh5 x
noncomputable def ZiS (x0:List Mark):Option ((List Mark)) :=
 bif fewB ((0:Nat)+x0.length) then
  some (x0)
 else
  none
noncomputable def ZiO (x:(List Mark)):Option ((List Mark)):=ZiS x
noncomputable def Zi6 (x0:List Event):Option ((List Event)) :=
 bif fewB ((0:Nat)+x0.length) then
  some (x0)
 else
  none
noncomputable def Zi9 (x:(List Event)):Option ((List Event)):=Zi6 x
noncomputable def ZeO (x0:Int) (x1:Int):Option (Int) :=
 bif decide (x0<(1:Int)) then
  some ((0:Int))
 else
  bif decide (Zae IntKind.i64 (x0-(1:Int))<(0:Int)) then
   none
  else
   some (Zae IntKind.i64 (↑(BitVec.ofInt IntKind.i64.bits (Zae IntKind.i64 ((1:Int)*(2:Int) ^ min (Zae IntKind.i64 (x0-(1:Int))).toNat IntKind.i64.bits)) ||| BitVec.ofInt IntKind.i64.bits (Zae IntKind.i64 (↑(BitVec.ofInt IntKind.i64.bits (x1.fdiv ((2:Int) ^ min (Int.toNat (1:Int)) IntKind.i64.bits)) &&& BitVec.ofInt IntKind.i64.bits (Zae IntKind.i64 (Zae IntKind.i64 ((1:Int)*(2:Int) ^ min (Zae IntKind.i64 (x0-(1:Int))).toNat IntKind.i64.bits)-(1:Int)))).toNat:Int))).toNat:Int))
noncomputable def ZjM (x:Int×Int):Option (Int):=ZeO x.1 x.2
noncomputable def Zib (x0:Config) (x1:Int) (x2:Thread) (x3:Int) (x4:Op) (x5:Int):Option (Thread) :=
 match ZjM (x0.depth,x1) with
 | some y1 =>
  bif decide (x0.wait>(0:Int)) then
   some (Thread.mk (1:Int) x3 x4 (Entry.mk x1 x4::([]:List Entry)) ([]:List Kid) ([]:List Int) (0:Int) y1 (0:Int) (0:Int) (0:Int) x2.width (0:Int) (0:Int) (0:Int) (Zae IntKind.i64 (x5+x0.wait)))
  else
   some (Thread.mk (1:Int) x3 x4 (Entry.mk x1 x4::([]:List Entry)) ([]:List Kid) ([]:List Int) (0:Int) y1 (0:Int) (0:Int) (0:Int) x2.width (0:Int) (0:Int) (0:Int) (0:Int))
 | none=>none
noncomputable def Zig (x:Config×Int×Thread×Int×Op×Int):Option (Thread):=Zib x.1 x.2.1 x.2.2.1 x.2.2.2.1 x.2.2.2.2.1 x.2.2.2.2.2
noncomputable def ZdH (x0:Config):Option (Int) :=
 bif decide (x0.threads<(1:Int)) then
  some ((50:Int))
 else
  bif decide (x0.threads>(16:Int)) then
   some ((50:Int))
  else
   bif decide (x0.items<(1:Int)) then
    some ((51:Int))
   else
    bif decide (x0.items>(4:Int)) then
     some ((51:Int))
    else
     bif decide (x0.backend<(1:Int)) then
      some ((52:Int))
     else
      bif decide (x0.backend>(3:Int)) then
       some ((52:Int))
      else
       bif decide (x0.depth<(0:Int)) then
        some ((53:Int))
       else
        bif decide (x0.depth>(4:Int)) then
         some ((53:Int))
        else
         bif decide (x0.layers<(0:Int)) then
          some ((54:Int))
         else
          bif decide (x0.layers>(3:Int)) then
           some ((54:Int))
          else
           bif decide (x0.width<(1:Int)) then
            some ((55:Int))
           else
            bif decide (x0.width>(8:Int)) then
             some ((55:Int))
            else
             bif decide (x0.spin<(0:Int)) then
              some ((56:Int))
             else
              bif decide (x0.spin>(20:Int)) then
               some ((56:Int))
              else
               bif decide (x0.wait<(0:Int)) then
                some ((57:Int))
               else
                bif decide (x0.wait>(1000:Int)) then
                 some ((57:Int))
                else
                 bif x0.bounded then
                  bif decide (x0.lo>x0.init) then
                   some ((58:Int))
                  else
                   bif decide (x0.init>x0.hi) then
                    some ((58:Int))
                   else
                    some ((0:Int))
                 else
                  some ((0:Int))
noncomputable def Zmn (x:Config):Option (Int):=ZdH x
noncomputable def ZtR (x0:Op) (x1:Bool):Option (Bool) :=
 bif x1 then
  bif x0.tag == (8:Int) then
   some (true)
  else
   bif x0.tag == (9:Int) then
    some (decide (x0.v≥(0:Int)))
   else
    some (false)
 else
  bif decide (x0.tag≥(1:Int)) then
   some (decide (x0.tag≤(7:Int)))
  else
   some (false)
noncomputable def Zty (x:Op×Bool):Option (Bool):=ZtR x.1 x.2
noncomputable def ZtV (x0:Config):Option (Bool) :=
 match Zmn x0 with
 | some y1 =>
  some (y1 == (0:Int))
 | none=>none
noncomputable def Zn2 (x:Config):Option (Bool):=ZtV x
noncomputable def ZrB (x0:Config):Option (Int) :=
 some (Zae IntKind.i64 (Zae IntKind.i64 ((20:Int)+Zae IntKind.i64 ((8:Int)*x0.depth))+Zae IntKind.i64 (x0.layers*Zae IntKind.i64 ((20:Int)+Zae IntKind.i64 ((2:Int)*x0.spin)))))
noncomputable def Zmk (x:Config):Option (Int):=ZrB x
noncomputable def Zqc (x0:Config):Option (Int) :=
 match Zmk x0 with
 | some y1 =>
  some (Zae IntKind.i64 (Zae IntKind.i64 (Zae IntKind.i64 ((4:Int)*x0.threads)*y1)+(20:Int)))
 | none=>none
noncomputable def Zk9 (x:Config):Option (Int):=Zqc x
noncomputable def Zqf (x0:List SEntry) (x1:List SEntry) (x2:Int):Option (((List SEntry)×(List SEntry)×Int)⊕((Unit)⊕(Bool))) :=
 bif decide (x2<(↑x0.length:Int)) then
  bif decide ((0:Int)≤x2) then
   bif decide (x2<(↑x0.length:Int)) then
    bif decide ((0:Int)≤x2) then
     bif decide (x2<(↑x1.length:Int)) then
      bif !((x0.getD x2.toNat ZaL).kind == (x1.getD x2.toNat ZaL).kind && ((x0.getD x2.toNat ZaL).t == (x1.getD x2.toNat ZaL).t && ((x0.getD x2.toNat ZaL).item == (x1.getD x2.toNat ZaL).item && ((x0.getD x2.toNat ZaL).op.tag == (x1.getD x2.toNat ZaL).op.tag && ((x0.getD x2.toNat ZaL).op.v == (x1.getD x2.toNat ZaL).op.v && true) && true)))) then
       some (Sum.inr (Sum.inr false))
      else
       some (Sum.inl (x0,x1,Zae IntKind.i64 (x2+(1:Int))))
     else
      none
    else
     none
   else
    none
  else
   none
 else
  some (Sum.inr (Sum.inl ()))
noncomputable def ZhN (x:(List SEntry)×(List SEntry)×Int):Option (((List SEntry)×(List SEntry)×Int)⊕((Unit)⊕(Bool))):=Zqf x.1 x.2.1 x.2.2
noncomputable def Zqx (x:(List SEntry)×(List SEntry)×Int):Option ((Unit)⊕(Bool)):=ZaH ZhN x
noncomputable def ZrV (x0:List SEntry) (x1:List SEntry):Option (Bool) :=
 bif (↑x0.length:Int) != (↑x1.length:Int) then
  some (false)
 else
  match Zqx (x0,x1,(0:Int)) with
  | some (.inl y1) =>
   some (true)
  | some (.inr y2) =>
   some (y2)
  | none=>none
noncomputable def ZsJ (x:(List SEntry)×(List SEntry)):Option (Bool):=ZrV x.1 x.2
noncomputable def ZrI (x0:List SEntry) (x1:List SEntry) (x2:Int):Option (((List SEntry)×(List SEntry)×Int)⊕(((List SEntry)))) :=
 bif decide (x2<(↑x0.length:Int)) then
  bif decide ((0:Int)≤x2) then
   bif decide (x2<(↑x0.length:Int)) then
    bif decide ((0:Int)≤x2) then
     bif decide (x2<(↑x0.length:Int)) then
      bif decide ((0:Int)≤x2) then
       bif decide (x2<(↑x0.length:Int)) then
        bif decide ((0:Int)≤x2) then
         bif decide (x2<(↑x0.length:Int)) then
          bif fewB (x1.length+(x0.getD x2.toNat ZaL::([]:List SEntry)).length) then
           some (Sum.inl (x0,x1++x0.getD x2.toNat ZaL::([]:List SEntry),Zae IntKind.i64 (x2+(1:Int))))
          else
           none
         else
          none
        else
         none
       else
        none
      else
       none
     else
      none
    else
     none
   else
    none
  else
   none
 else
  some (Sum.inr x1)
noncomputable def Zjm (x:(List SEntry)×(List SEntry)×Int):Option (((List SEntry)×(List SEntry)×Int)⊕(((List SEntry)))):=ZrI x.1 x.2.1 x.2.2
noncomputable def Zro (x:(List SEntry)×(List SEntry)×Int):Option (((List SEntry))):=ZaH Zjm x
noncomputable def ZtS (x0:List SEntry):Option ((List SEntry)) :=
 match Zro (x0,([]:List SEntry),(0:Int)) with
 | some y1 =>
  some (y1)
 | none=>none
noncomputable def ZtT (x:(List SEntry)):Option ((List SEntry)):=ZtS x
noncomputable def Zoz (x0:Int) (x1:Config) (x2:List SEntry) (x3:Int) (x4:Int):Option ((Int×Config×(List SEntry)×Int×Int)⊕((Int×Config×(List SEntry)×Int)⊕((List SEntry)))) :=
 bif decide (x4<x1.threads) then
  bif (↑x2.length:Int) == (65536:Int) then
   some (Sum.inr (Sum.inr x2))
  else
   bif fewB (x2.length+(SEntry.mk (2:Int) x4 (0:Int) (Op.mk (0:Int) (0:Int))::([]:List SEntry)).length) then
    some (Sum.inl (x0,x1,x2++SEntry.mk (2:Int) x4 (0:Int) (Op.mk (0:Int) (0:Int))::([]:List SEntry),x3,Zae IntKind.i64 (x4+(1:Int))))
   else
    none
 else
  some (Sum.inr (Sum.inl (x0,x1,x2,x3)))
noncomputable def ZgV (x:Int×Config×(List SEntry)×Int×Int):Option ((Int×Config×(List SEntry)×Int×Int)⊕((Int×Config×(List SEntry)×Int)⊕((List SEntry)))):=Zoz x.1 x.2.1 x.2.2.1 x.2.2.2.1 x.2.2.2.2
noncomputable def ZoG (x:Int×Config×(List SEntry)×Int×Int):Option ((Int×Config×(List SEntry)×Int)⊕((List SEntry))):=ZaH ZgV x
noncomputable def ZoE (x0:Int) (x1:Config) (x2:List SEntry) (x3:Int):Option ((Int×Config×(List SEntry)×Int)⊕(((List SEntry))⊕((List SEntry)))) :=
 bif decide (x3<x0) then
  match ZoG (x0,x1,x2,x3,(0:Int)) with
  | some (.inl y1) =>
   some (Sum.inl (y1.fst,y1.snd.fst,y1.snd.snd.fst,Zae IntKind.i64 (y1.snd.snd.snd+(1:Int))))
  | some (.inr y2) =>
   some (Sum.inr (Sum.inr y2))
  | none=>none
 else
  some (Sum.inr (Sum.inl x2))
noncomputable def ZgM (x:Int×Config×(List SEntry)×Int):Option ((Int×Config×(List SEntry)×Int)⊕(((List SEntry))⊕((List SEntry)))):=ZoE x.1 x.2.1 x.2.2.1 x.2.2.2
noncomputable def ZoJ (x:Int×Config×(List SEntry)×Int):Option (((List SEntry))⊕((List SEntry))):=ZaH ZgM x
noncomputable def Zqh (x0:Config) (x1:Int):Option ((List SEntry)) :=
 match ZoJ (x1,x0,([]:List SEntry),(0:Int)) with
 | some (.inl y1) =>
  some (y1)
 | some (.inr y2) =>
  some (y2)
 | none=>none
noncomputable def Zlf (x:Config×Int):Option ((List SEntry)):=Zqh x.1 x.2
noncomputable def Zry (x0:Config):Option ((List SEntry)) :=
 match Zlf (x0,(1:Int)) with
 | some y1 =>
  some (y1)
 | none=>none
noncomputable def ZrD (x:Config):Option ((List SEntry)):=Zry x
noncomputable def Zo3 (x0:List SEntry) (x1:Int) (x2:Int):Option (((List SEntry)×Int×Int)⊕(((List SEntry))⊕((List SEntry)))) :=
 bif decide (x2<x1) then
  bif decide ((0:Int)≤Zae IntKind.i64 (Zae IntKind.i64 ((↑x0.length:Int)-x2)-(1:Int))) then
   bif decide (Zae IntKind.i64 (Zae IntKind.i64 ((↑x0.length:Int)-x2)-(1:Int))<(↑x0.length:Int)) then
    bif (x0.getD (Zae IntKind.i64 (Zae IntKind.i64 ((↑x0.length:Int)-x2)-(1:Int))).toNat ZaL).kind == (1:Int) then
     bif decide ((0:Int)≤Zae IntKind.i64 ((↑x0.length:Int)-x2)) then
      bif decide (Zae IntKind.i64 ((↑x0.length:Int)-x2)≤(↑x0.length:Int)) then
       bif decide ((↑x0.length:Int)≤(↑x0.length:Int)) then
        some (Sum.inr (Sum.inr (List.drop (Zae IntKind.i64 ((↑x0.length:Int)-x2)).toNat (List.take (↑x0.length:Int).toNat x0))))
       else
        none
      else
       none
     else
      none
    else
     some (Sum.inl (x0,x1,Zae IntKind.i64 (x2+(1:Int))))
   else
    none
  else
   none
 else
  some (Sum.inr (Sum.inl x0))
noncomputable def ZhB (x:(List SEntry)×Int×Int):Option (((List SEntry)×Int×Int)⊕(((List SEntry))⊕((List SEntry)))):=Zo3 x.1 x.2.1 x.2.2
noncomputable def Zpc (x:(List SEntry)×Int×Int):Option (((List SEntry))⊕((List SEntry))):=ZaH ZhB x
noncomputable def Zrr (x0:List SEntry):Option ((List SEntry)) :=
 match Zpc (x0,(↑x0.length:Int),(0:Int)) with
 | some (.inl y1) =>
  some (y1)
 | some (.inr y2) =>
  some (y2)
 | none=>none
noncomputable def Zmv (x:(List SEntry)):Option ((List SEntry)):=Zrr x
noncomputable def Zqk (x0:Config) (x1:Int) (x2:Int) (x3:List SEntry) (x4:Int) (x5:Int):Option ((Config×Int×Int×(List SEntry)×Int×Int)⊕((Int))) :=
 bif decide (x5<x4) then
  bif decide ((0:Int)≤x5) then
   bif decide (x5<(↑x3.length:Int)) then
    bif (x3.getD x5.toNat ZaL).kind != (2:Int) then
     some (Sum.inl (x0,x1,x2,x3,x4,Zae IntKind.i64 (x5+(1:Int))))
    else
     bif (x3.getD x5.toNat ZaL).t != x2 then
      some (Sum.inr x1)
     else
      bif Zae IntKind.i64 (x2+(1:Int)) == x0.threads then
       some (Sum.inl (x0,Zae IntKind.i64 (x1+(1:Int)),(0:Int),x3,x4,Zae IntKind.i64 (x5+(1:Int))))
      else
       some (Sum.inl (x0,x1,Zae IntKind.i64 (x2+(1:Int)),x3,x4,Zae IntKind.i64 (x5+(1:Int))))
   else
    none
  else
   none
 else
  some (Sum.inr x1)
noncomputable def ZhV (x:Config×Int×Int×(List SEntry)×Int×Int):Option ((Config×Int×Int×(List SEntry)×Int×Int)⊕((Int))):=Zqk x.1 x.2.1 x.2.2.1 x.2.2.2.1 x.2.2.2.2.1 x.2.2.2.2.2
noncomputable def Zqq (x:Config×Int×Int×(List SEntry)×Int×Int):Option ((Int)):=ZaH ZhV x
noncomputable def Zsi (x0:Config) (x1:List SEntry):Option (Int) :=
 match Zmv x1 with
 | some y1 =>
  match Zqq (x0,(0:Int),(0:Int),y1,(↑(List.length y1):Int),(0:Int)) with
  | some y2 =>
   some (y2)
  | none=>none
 | none=>none
noncomputable def Zhw (x:Config×(List SEntry)):Option (Int):=Zsi x.1 x.2
noncomputable def ZpL (x0:List SEntry) (x1:Config) (x2:Int) (x3:Int):Option (((List SEntry)×Config×Int×Int)⊕((Config×Int))) :=
 bif decide (x3<(↑x0.length:Int)) then
  bif decide ((0:Int)≤x3) then
   bif decide (x3<(↑x0.length:Int)) then
    bif (x0.getD x3.toNat ZaL).kind != (2:Int) then
     some (Sum.inl (x0,x1,x2,Zae IntKind.i64 (x3+(1:Int))))
    else
     bif decide ((0:Int)≤x3) then
      bif decide (x3<(↑x0.length:Int)) then
       bif decide (x1.threads=(0:Int)) then
        none
       else
        bif (x0.getD x3.toNat ZaL).t != x2.tmod x1.threads then
         some (Sum.inr (x1,x2))
        else
         some (Sum.inl (x0,x1,Zae IntKind.i64 (x2+(1:Int)),Zae IntKind.i64 (x3+(1:Int))))
      else
       none
     else
      none
   else
    none
  else
   none
 else
  some (Sum.inr (x1,x2))
noncomputable def ZhI (x:(List SEntry)×Config×Int×Int):Option (((List SEntry)×Config×Int×Int)⊕((Config×Int))):=ZpL x.1 x.2.1 x.2.2.1 x.2.2.2
noncomputable def ZpV (x:(List SEntry)×Config×Int×Int):Option ((Config×Int)):=ZaH ZhI x
noncomputable def Zpa (x0:List SEntry) (x1:Config) (x2:Int) (x3:Int):Option (((List SEntry)×Config×Int×Int)⊕(((List SEntry)×Config×Int))) :=
 bif decide (x3<(↑x0.length:Int)) then
  bif decide ((0:Int)≤x3) then
   bif decide (x3<(↑x0.length:Int)) then
    bif (x0.getD x3.toNat ZaL).kind == (1:Int) then
     some (Sum.inl (x0,x1,Zae IntKind.i64 (x3+(1:Int)),Zae IntKind.i64 (x3+(1:Int))))
    else
     some (Sum.inl (x0,x1,x2,Zae IntKind.i64 (x3+(1:Int))))
   else
    none
  else
   none
 else
  some (Sum.inr (x0,x1,x2))
noncomputable def Zhc (x:(List SEntry)×Config×Int×Int):Option (((List SEntry)×Config×Int×Int)⊕(((List SEntry)×Config×Int))):=Zpa x.1 x.2.1 x.2.2.1 x.2.2.2
noncomputable def ZpP (x:(List SEntry)×Config×Int×Int):Option (((List SEntry)×Config×Int)):=ZaH Zhc x
noncomputable def Zrw (x0:Config) (x1:List SEntry):Option (Int) :=
 match ZpP (x1,x0,(0:Int),(0:Int)) with
 | some y1 =>
  match ZpV (y1.fst,y1.snd.fst,(0:Int),y1.snd.snd) with
  | some y2 =>
   bif decide (y2.fst.threads=(0:Int)) then
    none
   else
    some (Zae IntKind.i64 (Int.tdiv y2.snd y2.fst.threads))
  | none=>none
 | none=>none
noncomputable def ZmB (x:Config×(List SEntry)):Option (Int):=Zrw x.1 x.2
noncomputable def Ztr (x0:Config) (x1:List SEntry):Option (Bool) :=
 match ZgG x0 with
 | some y1 =>
  match Zhw (x0,x1) with
  | some y2 =>
   some (decide (y1≤y2))
  | none=>none
 | none=>none
noncomputable def Zfh (x:Config×(List SEntry)):Option (Bool):=Ztr x.1 x.2
noncomputable def ZsT (x0:Config) (x1:List SEntry):Option (Bool) :=
 match ZmB (x0,x1) with
 | some y1 =>
  match Zk9 x0 with
  | some y2 =>
   some (decide (y1≥y2))
  | none=>none
 | none=>none
noncomputable def ZsO (x:Config×(List SEntry)):Option (Bool):=ZsT x.1 x.2
noncomputable def Zqs (x0:Int) (x1:List Thread) (x2:Int) (x3:Int):Option ((Int×(List Thread)×Int×Int)⊕((Int))) :=
 bif decide (x3<x2) then
  bif decide ((0:Int)≤x3) then
   bif decide (x3<(↑x1.length:Int)) then
    match Zb8 (x1.getD x3.toNat Zax) with
    | some y1 =>
     bif y1 then
      some (Sum.inl (Zae IntKind.i64 (x0+(1:Int)),x1,x2,Zae IntKind.i64 (x3+(1:Int))))
     else
      some (Sum.inl (x0,x1,x2,Zae IntKind.i64 (x3+(1:Int))))
    | none=>none
   else
    none
  else
   none
 else
  some (Sum.inr x0)
noncomputable def Zif (x:Int×(List Thread)×Int×Int):Option ((Int×(List Thread)×Int×Int)⊕((Int))):=Zqs x.1 x.2.1 x.2.2.1 x.2.2.2
noncomputable def Zqd (x:Int×(List Thread)×Int×Int):Option ((Int)):=ZaH Zif x
noncomputable def Zr1 (x0:Wld):Option (Int) :=
 match Zqd ((0:Int),x0.t,(↑x0.t.length:Int),(0:Int)) with
 | some y1 =>
  some (y1)
 | none=>none
noncomputable def Zm2 (x:Wld):Option (Int):=Zr1 x
noncomputable def ZhA (x0:Config) (x1:Int):Option (Int) :=
 bif decide (x1<(0:Int)) then
  some ((-1:Int))
 else
  bif decide (x1≥x0.items) then
   some ((-1:Int))
  else
   match Zjk x0 with
   | some y1 =>
    some (Zae IntKind.i64 (x1*y1))
   | none=>none
noncomputable def ZfK (x:Config×Int):Option (Int):=ZhA x.1 x.2
noncomputable def Zgt (x0:Int) (x1:Int):Option (Int×Bool) :=
 some ((Zae IntKind.i64 (x0+x1),decide (x1≥(0:Int)) == decide (Zae IntKind.i64 (x0+x1)≥x0)))
noncomputable def Zgh (x:Int×Int):Option (Int×Bool):=Zgt x.1 x.2
noncomputable def ZcJ (x0:Op) (x1:Int) (x2:Int) (x3:Int):Option (Int×Bool) :=
 bif x0.tag == (1:Int) then
  some ((Zae IntKind.i64 (x1+x0.v),true))
 else
  bif x0.tag == (2:Int) then
   some ((Zae IntKind.i64 (x1-x0.v),true))
  else
   bif x0.tag == (3:Int) then
    some ((Zae IntKind.i64 (↑(BitVec.ofInt IntKind.i64.bits x1 ||| BitVec.ofInt IntKind.i64.bits x0.v).toNat:Int),true))
   else
    bif x0.tag == (4:Int) then
     some ((Zae IntKind.i64 (↑(BitVec.ofInt IntKind.i64.bits x1 &&& BitVec.ofInt IntKind.i64.bits x0.v).toNat:Int),true))
    else
     bif x0.tag == (5:Int) then
      some ((if x0.v>x1 then x0.v else x1,true))
     else
      bif x0.tag == (6:Int) then
       some ((if x0.v<x1 then x0.v else x1,true))
      else
       bif x0.tag == (7:Int) then
        some ((x0.v,true))
       else
        bif x0.tag == (8:Int) then
         match Zgh (x1,x0.v) with
         | some y1 =>
          bif !y1.snd then
           some ((x1,false))
          else
           bif decide (y1.fst<x2) then
            some ((x1,false))
           else
            bif decide (y1.fst>x3) then
             some ((x1,false))
            else
             some ((y1.fst,true))
         | none=>none
        else
         bif x0.tag == (9:Int) then
          bif decide (x0.v<(0:Int)) then
           some ((x1,false))
          else
           bif decide (x1<x2) then
            some ((x1,false))
           else
            bif decide (IntKind.u64.wrap x0.v≥Zae IntKind.u64 (IntKind.u64.wrap x1-IntKind.u64.wrap x2)) then
             some ((x2,true))
            else
             some ((Zae IntKind.i64 (x1-x0.v),true))
         else
          some ((x1,false))
noncomputable def Zrq (x:Op×Int×Int×Int):Option (Int×Bool):=ZcJ x.1 x.2.1 x.2.2.1 x.2.2.2
noncomputable def ZoA (x0:Config) (x1:Int×Int×Int×Int×Int×Int×Int×Int×Int×Int×Int×Int×Int×Int×Int×Int×Int×Int×Int×Int×Int×Int×Int×Int) (x2:Int):Option ((Config×(Int×Int×Int×Int×Int×Int×Int×Int×Int×Int×Int×Int×Int×Int×Int×Int×Int×Int×Int×Int×Int×Int×Int×Int)×Int)⊕((Config)⊕(Int))) :=
 bif decide (x2<(8:Int)) then
  bif decide ((0:Int)≤x2) then
   bif decide (x2<(↑(8:Nat):Int)) then
    bif decide (x2=(↑(0:Nat):Int)) then
     bif decide (x1.fst<x1.snd.fst) then
      some (Sum.inr (Sum.inr (Zae IntKind.i64 ((50:Int)+x2))))
     else
      bif decide (x1.fst>x1.snd.snd.fst) then
       some (Sum.inr (Sum.inr (Zae IntKind.i64 ((50:Int)+x2))))
      else
       some (Sum.inl (x0,x1,Zae IntKind.i64 (x2+(1:Int))))
    else
     bif decide (x2=(↑((0:Nat)+(1:Nat)):Int)) then
      bif decide (x1.snd.snd.snd.fst<x1.snd.snd.snd.snd.fst) then
       some (Sum.inr (Sum.inr (Zae IntKind.i64 ((50:Int)+x2))))
      else
       bif decide (x1.snd.snd.snd.fst>x1.snd.snd.snd.snd.snd.fst) then
        some (Sum.inr (Sum.inr (Zae IntKind.i64 ((50:Int)+x2))))
       else
        some (Sum.inl (x0,x1,Zae IntKind.i64 (x2+(1:Int))))
     else
      bif decide (x2=(↑((0:Nat)+(1:Nat)+(1:Nat)):Int)) then
       bif decide (x1.snd.snd.snd.snd.snd.snd.fst<x1.snd.snd.snd.snd.snd.snd.snd.fst) then
        some (Sum.inr (Sum.inr (Zae IntKind.i64 ((50:Int)+x2))))
       else
        bif decide (x1.snd.snd.snd.snd.snd.snd.fst>x1.snd.snd.snd.snd.snd.snd.snd.snd.fst) then
         some (Sum.inr (Sum.inr (Zae IntKind.i64 ((50:Int)+x2))))
        else
         some (Sum.inl (x0,x1,Zae IntKind.i64 (x2+(1:Int))))
      else
       bif decide (x2=(↑((0:Nat)+(1:Nat)+(1:Nat)+(1:Nat)):Int)) then
        bif decide (x1.snd.snd.snd.snd.snd.snd.snd.snd.snd.fst<x1.snd.snd.snd.snd.snd.snd.snd.snd.snd.snd.fst) then
         some (Sum.inr (Sum.inr (Zae IntKind.i64 ((50:Int)+x2))))
        else
         bif decide (x1.snd.snd.snd.snd.snd.snd.snd.snd.snd.fst>x1.snd.snd.snd.snd.snd.snd.snd.snd.snd.snd.snd.fst) then
          some (Sum.inr (Sum.inr (Zae IntKind.i64 ((50:Int)+x2))))
         else
          some (Sum.inl (x0,x1,Zae IntKind.i64 (x2+(1:Int))))
       else
        bif decide (x2=(↑((0:Nat)+(1:Nat)+(1:Nat)+(1:Nat)+(1:Nat)):Int)) then
         bif decide (x1.snd.snd.snd.snd.snd.snd.snd.snd.snd.snd.snd.snd.fst<x1.snd.snd.snd.snd.snd.snd.snd.snd.snd.snd.snd.snd.snd.fst) then
          some (Sum.inr (Sum.inr (Zae IntKind.i64 ((50:Int)+x2))))
         else
          bif decide (x1.snd.snd.snd.snd.snd.snd.snd.snd.snd.snd.snd.snd.fst>x1.snd.snd.snd.snd.snd.snd.snd.snd.snd.snd.snd.snd.snd.snd.fst) then
           some (Sum.inr (Sum.inr (Zae IntKind.i64 ((50:Int)+x2))))
          else
           some (Sum.inl (x0,x1,Zae IntKind.i64 (x2+(1:Int))))
        else
         bif decide (x2=(↑((0:Nat)+(1:Nat)+(1:Nat)+(1:Nat)+(1:Nat)+(1:Nat)):Int)) then
          bif decide (x1.snd.snd.snd.snd.snd.snd.snd.snd.snd.snd.snd.snd.snd.snd.snd.fst<x1.snd.snd.snd.snd.snd.snd.snd.snd.snd.snd.snd.snd.snd.snd.snd.snd.fst) then
           some (Sum.inr (Sum.inr (Zae IntKind.i64 ((50:Int)+x2))))
          else
           bif decide (x1.snd.snd.snd.snd.snd.snd.snd.snd.snd.snd.snd.snd.snd.snd.snd.fst>x1.snd.snd.snd.snd.snd.snd.snd.snd.snd.snd.snd.snd.snd.snd.snd.snd.snd.fst) then
            some (Sum.inr (Sum.inr (Zae IntKind.i64 ((50:Int)+x2))))
           else
            some (Sum.inl (x0,x1,Zae IntKind.i64 (x2+(1:Int))))
         else
          bif decide (x2=(↑((0:Nat)+(1:Nat)+(1:Nat)+(1:Nat)+(1:Nat)+(1:Nat)+(1:Nat)):Int)) then
           bif decide (x1.snd.snd.snd.snd.snd.snd.snd.snd.snd.snd.snd.snd.snd.snd.snd.snd.snd.snd.fst<x1.snd.snd.snd.snd.snd.snd.snd.snd.snd.snd.snd.snd.snd.snd.snd.snd.snd.snd.snd.fst) then
            some (Sum.inr (Sum.inr (Zae IntKind.i64 ((50:Int)+x2))))
           else
            bif decide (x1.snd.snd.snd.snd.snd.snd.snd.snd.snd.snd.snd.snd.snd.snd.snd.snd.snd.snd.fst>x1.snd.snd.snd.snd.snd.snd.snd.snd.snd.snd.snd.snd.snd.snd.snd.snd.snd.snd.snd.snd.fst) then
             some (Sum.inr (Sum.inr (Zae IntKind.i64 ((50:Int)+x2))))
            else
             some (Sum.inl (x0,x1,Zae IntKind.i64 (x2+(1:Int))))
          else
           bif decide (x2=(↑((0:Nat)+(1:Nat)+(1:Nat)+(1:Nat)+(1:Nat)+(1:Nat)+(1:Nat)+(1:Nat)):Int)) then
            bif decide (x1.snd.snd.snd.snd.snd.snd.snd.snd.snd.snd.snd.snd.snd.snd.snd.snd.snd.snd.snd.snd.snd.fst<x1.snd.snd.snd.snd.snd.snd.snd.snd.snd.snd.snd.snd.snd.snd.snd.snd.snd.snd.snd.snd.snd.snd.fst) then
             some (Sum.inr (Sum.inr (Zae IntKind.i64 ((50:Int)+x2))))
            else
             bif decide (x1.snd.snd.snd.snd.snd.snd.snd.snd.snd.snd.snd.snd.snd.snd.snd.snd.snd.snd.snd.snd.snd.fst>x1.snd.snd.snd.snd.snd.snd.snd.snd.snd.snd.snd.snd.snd.snd.snd.snd.snd.snd.snd.snd.snd.snd.snd) then
              some (Sum.inr (Sum.inr (Zae IntKind.i64 ((50:Int)+x2))))
             else
              some (Sum.inl (x0,x1,Zae IntKind.i64 (x2+(1:Int))))
           else
            none
   else
    none
  else
   none
 else
  some (Sum.inr (Sum.inl x0))
noncomputable def Zeb (x:Config×(Int×Int×Int×Int×Int×Int×Int×Int×Int×Int×Int×Int×Int×Int×Int×Int×Int×Int×Int×Int×Int×Int×Int×Int)×Int):Option ((Config×(Int×Int×Int×Int×Int×Int×Int×Int×Int×Int×Int×Int×Int×Int×Int×Int×Int×Int×Int×Int×Int×Int×Int×Int)×Int)⊕((Config)⊕(Int))):=ZoA x.1 x.2.1 x.2.2
noncomputable def ZcQ (x:Config×(Int×Int×Int×Int×Int×Int×Int×Int×Int×Int×Int×Int×Int×Int×Int×Int×Int×Int×Int×Int×Int×Int×Int×Int)×Int):Option ((Config)⊕(Int)):=ZaH Zeb x
noncomputable def Zh3 (x0:Config):Option (Int) :=
 match ZcQ (x0,(x0.threads,(1:Int),(16:Int),x0.items,(1:Int),(4:Int),x0.backend,(1:Int),(3:Int),x0.depth,(0:Int),(4:Int),x0.layers,(0:Int),(3:Int),x0.width,(1:Int),(8:Int),x0.spin,(0:Int),(20:Int),x0.wait,(0:Int),(1000:Int)),(0:Int)) with
 | some (.inl y1) =>
  bif y1.bounded then
   bif decide (y1.init<y1.lo) then
    some ((58:Int))
   else
    bif decide (y1.hi<y1.init) then
     some ((58:Int))
    else
     some ((0:Int))
  else
   some ((0:Int))
 | some (.inr y2) =>
  some (y2)
 | none=>none
noncomputable def Zdh (x:Config):Option (Int):=Zh3 x
noncomputable def ZeK (x0:Config) (x1:List SEntry) (x2:Int) (x3:Int):Option ((Config×(List SEntry)×Int×Int)⊕((Unit)⊕(Int×Int))) :=
 bif decide (x3<x2) then
  bif decide ((0:Int)≤x3) then
   bif decide (x3<(↑x1.length:Int)) then
    match Zih (x0,x1.getD x3.toNat ZaL) with
    | some y1 =>
     bif y1 != (0:Int) then
      some (Sum.inr (Sum.inr (x3,y1)))
     else
      some (Sum.inl (x0,x1,x2,Zae IntKind.i64 (x3+(1:Int))))
    | none=>none
   else
    none
  else
   none
 else
  some (Sum.inr (Sum.inl ()))
noncomputable def Zf9 (x:Config×(List SEntry)×Int×Int):Option ((Config×(List SEntry)×Int×Int)⊕((Unit)⊕(Int×Int))):=ZeK x.1 x.2.1 x.2.2.1 x.2.2.2
noncomputable def ZhY (x:Config×(List SEntry)×Int×Int):Option ((Unit)⊕(Int×Int)):=ZaH Zf9 x
noncomputable def Zj3 (x0:Config) (x1:List SEntry):Option (Int×Int) :=
 match Zdh x0 with
 | some y1 =>
  bif y1 != (0:Int) then
   some (((0:Int),y1))
  else
   bif decide ((↑x1.length:Int)>(65536:Int)) then
    some (((0:Int),(2:Int)))
   else
    match ZhY (x0,x1,(↑x1.length:Int),(0:Int)) with
    | some (.inl y2) =>
     some (((0:Int),(0:Int)))
    | some (.inr y3) =>
     some (y3)
    | none=>none
 | none=>none
noncomputable def Zhm (x:Config×(List SEntry)):Option (Int×Int):=Zj3 x.1 x.2
noncomputable def Zjf (x0:Config):Option (Int) :=
 bif decide (x0.depth<(0:Int)) then
  none
 else
  some (Zae IntKind.i64 (Zae IntKind.i64 ((1:Int)*(2:Int) ^ min x0.depth.toNat IntKind.i64.bits)-(1:Int)))
noncomputable def Ze8 (x:Config):Option (Int):=Zjf x
noncomputable def ZlY (x0:Config):Option (Plan) :=
 match Ze8 x0 with
 | some y1 =>
  some (Plan.mk (1:Int) (Zae IntKind.i64 ((1:Int)+y1)) (Zae IntKind.i64 (Zae IntKind.i64 ((1:Int)+y1)+Zae IntKind.i64 (x0.layers*x0.width))) (Zae IntKind.i64 (x0.items*Zae IntKind.i64 (Zae IntKind.i64 ((1:Int)+y1)+Zae IntKind.i64 (x0.layers*x0.width)))))
 | none=>none
noncomputable def Zck (x:Config):Option (Plan):=ZlY x
noncomputable def ZfU (x0:Config) (x1:Int):Option (Int) :=
 bif decide (x1<(0:Int)) then
  some ((-1:Int))
 else
  bif decide (x1≥x0.items) then
   some ((-1:Int))
  else
   match Zck x0 with
   | some y1 =>
    some (Zae IntKind.i64 (x1*y1.block))
   | none=>none
noncomputable def ZcG (x:Config×Int):Option (Int):=ZfU x.1 x.2
noncomputable def ZkE (x0:Int):Option ((List Int)) :=
 bif decide (x0<(1:Int)) then
  some (([]:List Int))
 else
  bif decide (x0>(10000:Int)) then
   some (([]:List Int))
  else
   bif x0 == x0 then
    bif decide ((0:Int)≤x0) then
     bif decide (x0≤Zbm) then
      some (List.replicate x0.toNat (0:Int))
     else
      none
    else
     none
   else
    none
noncomputable def Zg7 (x:Int):Option ((List Int)):=ZkE x
noncomputable def ZfF (x0:Int):Option ((List (List Entry))) :=
 bif decide (x0<(1:Int)) then
  some (([]:List (List Entry)))
 else
  bif decide (x0>(10000:Int)) then
   some (([]:List (List Entry)))
  else
   bif x0 == x0 then
    bif decide ((0:Int)≤x0) then
     bif decide (x0≤Zbm) then
      some (List.replicate x0.toNat ([]:List Entry))
     else
      none
    else
     none
   else
    none
noncomputable def Zea (x:Int):Option ((List (List Entry))):=ZfF x
noncomputable def Zme (x0:Int) (x1:Int):Option (Memo) :=
 match Zg7 x0 with
 | some y1 =>
  match Zea x1 with
  | some y2 =>
   some (Memo.mk y1 y2)
  | none=>none
 | none=>none
noncomputable def ZlZ (x:Int×Int):Option (Memo):=Zme x.1 x.2
noncomputable def ZjP (x0:Config):Option (Int) :=
 match Zck x0 with
 | some y1 =>
  some (Zae IntKind.i64 (y1.lines+Zae IntKind.i64 ((2:Int)*x0.threads)))
 | none=>none
noncomputable def Zj0 (x:Config):Option (Int):=ZjP x
noncomputable def Zeu (x0:Config) (x1:Memo) (x2:Memo) (x3:Int) (x4:Int):Option ((Config×Memo×Memo×Int×Int)⊕((Memo×Memo))) :=
 bif decide (x4<x3) then
  match ZcG (x0,x4) with
  | some y1 =>
   bif decide ((0:Int)≤y1) then
    bif decide (y1<(↑x2.words.length:Int)) then
     some (Sum.inl (x0,x1,{ x2 with words:=x2.words.set (Int.toNat y1) x0.init },x3,Zae IntKind.i64 (x4+(1:Int))))
    else
     none
   else
    none
  | none=>none
 else
  some (Sum.inr (x1,x2))
noncomputable def Zfw (x:Config×Memo×Memo×Int×Int):Option ((Config×Memo×Memo×Int×Int)⊕((Memo×Memo))):=Zeu x.1 x.2.1 x.2.2.1 x.2.2.2.1 x.2.2.2.2
noncomputable def ZkO (x:Config×Memo×Memo×Int×Int):Option ((Memo×Memo)):=ZaH Zfw x
noncomputable def ZiT (x0:Config):Option (Memo) :=
 match Zj0 x0 with
 | some y1 =>
  match ZlZ (y1,x0.threads) with
  | some y2 =>
   match ZkO (x0,Memo.mk ([]:List Int) ([]:List (List Entry)),y2,x0.items,(0:Int)) with
   | some y3 =>
    some (y3.snd)
   | none=>none
  | none=>none
 | none=>none
noncomputable def ZiU (x:Config):Option (Memo):=ZiT x
noncomputable def ZsP:Option (Thread) :=
 some (Thread.mk (0:Int) (0:Int) (Op.mk (0:Int) (0:Int)) ([]:List Entry) ([]:List Kid) ([]:List Int) (0:Int) (0:Int) (0:Int) (0:Int) (0:Int) (1:Int) (0:Int) (0:Int) (0:Int) (0:Int))
noncomputable def ZjQ (x:Unit):Option (Thread):=ZsP
noncomputable def Zdw (x0:List Int):Option ((List Int)) :=
 bif fewB ((0:Nat)+x0.length) then
  some (x0)
 else
  none
noncomputable def Zbo (x:(List Int)):Option ((List Int)):=Zdw x
noncomputable def Ze3 (x0:List Int) (x1:Int):Option (Int×Int) :=
 bif decide (x1<(0:Int)) then
  some (((0:Int),(30:Int)))
 else
  bif decide (x1≥(↑x0.length:Int)) then
   some (((0:Int),(30:Int)))
  else
   bif decide ((0:Int)≤x1) then
    bif decide (x1<(↑x0.length:Int)) then
     some ((x0.getD x1.toNat (0:Int),(0:Int)))
    else
     none
   else
    none
noncomputable def Zbt (x:(List Int)×Int):Option (Int×Int):=Ze3 x.1 x.2
noncomputable def Zfo (x0:Memo) (x1:Int):Option (Int×Int) :=
 match Zbt (x0.words,x1) with
 | some y1 =>
  some (y1)
 | none=>none
noncomputable def ZbQ (x:Memo×Int):Option (Int×Int):=Zfo x.1 x.2
noncomputable def ZnZ (x0:Int) (x1:Int):Option (Int×Int) :=
 some ((Zae IntKind.u64 (Zae IntKind.u64 (Zae IntKind.u64 (x0.fdiv ((2:Int) ^ min (Int.toNat (32:Int)) IntKind.u64.bits)*x1.fdiv ((2:Int) ^ min (Int.toNat (32:Int)) IntKind.u64.bits))+(Zae IntKind.u64 (Zae IntKind.u64 (x0.fdiv ((2:Int) ^ min (Int.toNat (32:Int)) IntKind.u64.bits)*Zae IntKind.u64 (↑(BitVec.ofInt IntKind.u64.bits x1 &&& BitVec.ofInt IntKind.u64.bits (4294967295:Int)).toNat:Int))+(Zae IntKind.u64 (Zae IntKind.u64 (↑(BitVec.ofInt IntKind.u64.bits x0 &&& BitVec.ofInt IntKind.u64.bits (4294967295:Int)).toNat:Int)*Zae IntKind.u64 (↑(BitVec.ofInt IntKind.u64.bits x1 &&& BitVec.ofInt IntKind.u64.bits (4294967295:Int)).toNat:Int))).fdiv ((2:Int) ^ min (Int.toNat (32:Int)) IntKind.u64.bits))).fdiv ((2:Int) ^ min (Int.toNat (32:Int)) IntKind.u64.bits))+(Zae IntKind.u64 (Zae IntKind.u64 (↑(BitVec.ofInt IntKind.u64.bits (Zae IntKind.u64 (Zae IntKind.u64 (x0.fdiv ((2:Int) ^ min (Int.toNat (32:Int)) IntKind.u64.bits)*Zae IntKind.u64 (↑(BitVec.ofInt IntKind.u64.bits x1 &&& BitVec.ofInt IntKind.u64.bits (4294967295:Int)).toNat:Int))+(Zae IntKind.u64 (Zae IntKind.u64 (↑(BitVec.ofInt IntKind.u64.bits x0 &&& BitVec.ofInt IntKind.u64.bits (4294967295:Int)).toNat:Int)*Zae IntKind.u64 (↑(BitVec.ofInt IntKind.u64.bits x1 &&& BitVec.ofInt IntKind.u64.bits (4294967295:Int)).toNat:Int))).fdiv ((2:Int) ^ min (Int.toNat (32:Int)) IntKind.u64.bits))) &&& BitVec.ofInt IntKind.u64.bits (4294967295:Int)).toNat:Int)+Zae IntKind.u64 (Zae IntKind.u64 (↑(BitVec.ofInt IntKind.u64.bits x0 &&& BitVec.ofInt IntKind.u64.bits (4294967295:Int)).toNat:Int)*x1.fdiv ((2:Int) ^ min (Int.toNat (32:Int)) IntKind.u64.bits)))).fdiv ((2:Int) ^ min (Int.toNat (32:Int)) IntKind.u64.bits)),Zae IntKind.u64 (x0*x1)))
noncomputable def Zjp (x:Int×Int):Option (Int×Int):=ZnZ x.1 x.2
noncomputable def ZpI (x0:Int) (x1:Int):Option (Int×Int) :=
 match Zjp (x0,x1) with
 | some y1 =>
  some (y1)
 | none=>none
noncomputable def ZdB (x:Int×Int):Option (Int×Int):=ZpI x.1 x.2
noncomputable def Zmy (x0:Int) (x1:Int) (x2:Int) (x3:Int):Option (Bool) :=
 bif decide (x1≥(0:Int)) then
  bif decide (Zae IntKind.i64 (x0+x1)≥x0) then
   bif decide (Zae IntKind.i64 (x0+x1)<x2) then
    some (true)
   else
    some (decide (Zae IntKind.i64 (x0+x1)>x3))
  else
   bif decide (x1<(0:Int)) then
    bif decide (Zae IntKind.i64 (x0+x1)<x0) then
     bif decide (Zae IntKind.i64 (x0+x1)<x2) then
      some (true)
     else
      some (decide (Zae IntKind.i64 (x0+x1)>x3))
    else
     some (true)
   else
    some (true)
 else
  bif decide (x1<(0:Int)) then
   bif decide (Zae IntKind.i64 (x0+x1)<x0) then
    bif decide (Zae IntKind.i64 (x0+x1)<x2) then
     some (true)
    else
     some (decide (Zae IntKind.i64 (x0+x1)>x3))
   else
    some (true)
  else
   some (true)
noncomputable def Zi3 (x:Int×Int×Int×Int):Option (Bool):=Zmy x.1 x.2.1 x.2.2.1 x.2.2.2
noncomputable def Zg6 (x0:Op) (x1:Int) (x2:Int) (x3:Int):Option (Int×Bool) :=
 bif x0.tag == (2:Int) then
  some ((Zae IntKind.i64 (x1+Zae IntKind.i64 ((0:Int)-x0.v)),true))
 else
  bif x0.tag == (1:Int) then
   some ((Zae IntKind.i64 (x1+x0.v),true))
  else
   bif x0.tag == (3:Int) then
    some ((Zae IntKind.i64 (↑(BitVec.ofInt IntKind.i64.bits x1 ||| BitVec.ofInt IntKind.i64.bits x0.v).toNat:Int),true))
   else
    bif x0.tag == (4:Int) then
     some ((Zae IntKind.i64 (↑(BitVec.ofInt IntKind.i64.bits x1 &&& BitVec.ofInt IntKind.i64.bits x0.v).toNat:Int),true))
    else
     bif x0.tag == (5:Int) then
      some ((if x1>x0.v then x1 else x0.v,true))
     else
      bif x0.tag == (6:Int) then
       some ((if x1<x0.v then x1 else x0.v,true))
      else
       bif x0.tag == (7:Int) then
        some ((x0.v,true))
       else
        bif x0.tag == (9:Int) then
         bif decide (x0.v<(0:Int)) then
          some ((x1,false))
         else
          bif decide (x1<x2) then
           some ((x1,false))
          else
           bif decide (Zae IntKind.i64 (x1-x0.v)≤x1) then
            bif decide (Zae IntKind.i64 (x1-x0.v)≥x2) then
             some ((Zae IntKind.i64 (x1-x0.v),true))
            else
             some ((x2,true))
           else
            some ((x2,true))
        else
         bif x0.tag == (8:Int) then
          match Zi3 (x1,x0.v,x2,x3) with
          | some y1 =>
           bif !y1 then
            some ((Zae IntKind.i64 (x1+x0.v),true))
           else
            some ((x1,false))
          | none=>none
         else
          some ((x1,false))
noncomputable def Zcb (x:Op×Int×Int×Int):Option (Int×Bool):=Zg6 x.1 x.2.1 x.2.2.1 x.2.2.2
noncomputable def ZfV (x0:Memo) (x1:Int) (x2:Int):Option (Memo×Int) :=
 match Zbt (x0.words,x1) with
 | some y1 =>
  bif y1.snd != (0:Int) then
   some ((x0,y1.snd))
  else
   match Zbo x0.words with
   | some y2 =>
    bif decide ((0:Int)≤x1) then
     bif decide (x1<(↑(List.length y2):Int)) then
      some (({ x0 with words:=List.set y2 x1.toNat x2 },y1.snd))
     else
      none
    else
     none
   | none=>none
 | none=>none
noncomputable def Zb2 (x:Memo×Int×Int):Option (Memo×Int):=ZfV x.1 x.2.1 x.2.2
noncomputable def Zj6 (x0:Config) (x1:Int):Option (Int) :=
 bif decide (x1<(0:Int)) then
  some ((-1:Int))
 else
  bif decide (x1≥x0.threads) then
   some ((-1:Int))
  else
   match Zck x0 with
   | some y1 =>
    some (Zae IntKind.i64 (y1.lines+Zae IntKind.i64 ((2:Int)*x1)))
   | none=>none
noncomputable def Zc5 (x:Config×Int):Option (Int):=Zj6 x.1 x.2
noncomputable def Zhb (x0:Turn):Option (Turn) :=
 bif x0.c.backend == (2:Int) then
  bif decide (x0.c.depth>(0:Int)) then
   some ({ x0 with th:={ x0.th with phase:=(4:Int) } })
  else
   bif x0.c.backend == (3:Int) then
    bif decide (x0.c.layers>(0:Int)) then
     some ({ x0 with th:={ x0.th with phase:=(17:Int),layer:=(1:Int) } })
    else
     some ({ x0 with th:={ x0.th with phase:=(2:Int) } })
   else
    some ({ x0 with th:={ x0.th with phase:=(2:Int) } })
 else
  bif x0.c.backend == (3:Int) then
   bif decide (x0.c.layers>(0:Int)) then
    some ({ x0 with th:={ x0.th with phase:=(17:Int),layer:=(1:Int) } })
   else
    some ({ x0 with th:={ x0.th with phase:=(2:Int) } })
  else
   some ({ x0 with th:={ x0.th with phase:=(2:Int) } })
noncomputable def Zhh (x:Turn):Option (Turn):=Zhb x
noncomputable def Zhq (x0:Turn):Option (Turn×Bool) :=
 bif x0.th.phase != (1:Int) then
  some ((x0,false))
 else
  match Zc5 (x0.c,x0.t) with
  | some y1 =>
   match Zb2 (x0.m,y1,(0:Int)) with
   | some y2 =>
    bif y2.snd != (0:Int) then
     some ((x0,true))
    else
     match Zhh { x0 with m:=y2.fst } with
     | some y3 =>
      some ((y3,true))
     | none=>none
   | none=>none
  | none=>none
noncomputable def Zg8 (x:Turn):Option (Turn×Bool):=Zhq x
noncomputable def Zkc (x0:Config) (x1:Int) (x2:Int):Option (Int) :=
 bif decide (x1<(0:Int)) then
  some ((-1:Int))
 else
  bif decide (x1≥x0.items) then
   some ((-1:Int))
  else
   match Ze8 x0 with
   | some y1 =>
    bif decide (x2<(1:Int)) then
     some ((-1:Int))
    else
     bif decide (x2≥Zae IntKind.i64 ((1:Int)+y1)) then
      some ((-1:Int))
     else
      match Zck x0 with
      | some y2 =>
       some (Zae IntKind.i64 (Zae IntKind.i64 (x1*y2.block)+x2))
      | none=>none
   | none=>none
noncomputable def Zd2 (x:Config×Int×Int):Option (Int):=Zkc x.1 x.2.1 x.2.2
noncomputable def Zdd (x0:Said):Option (Int) :=
 some (Zae IntKind.i64 (Zae IntKind.i64 ((8:Int)*Zae IntKind.i64 (x0.n+(1:Int)))+x0.kind))
noncomputable def ZbK (x:Said):Option (Int):=Zdd x
noncomputable def ZjO (x0:Int):Option (Int) :=
 match ZbK (Said.mk (1:Int) x0) with
 | some y1 =>
  some (y1)
 | none=>none
noncomputable def ZeD (x:Int):Option (Int):=ZjO x
noncomputable def Zly (x0:Int):Option (Int) :=
 some ((if (0:Int)>x0 then (0:Int) else x0).fdiv ((2:Int) ^ min (Int.toNat (1:Int)) IntKind.i64.bits))
noncomputable def ZhU (x:Int):Option (Int):=Zly x
noncomputable def Zj8 (x0:Turn):Option (Turn) :=
 bif decide (x0.th.stop>(0:Int)) then
  bif decide (x0.th.at_≥(0:Int)) then
   bif decide (x0.th.at_<(↑x0.th.held.length:Int)) then
    some ({ x0 with th:={ x0.th with phase:=(7:Int) } })
   else
    some ({ x0 with th:={ x0.th with phase:=(11:Int) } })
  else
   some ({ x0 with th:={ x0.th with phase:=(11:Int) } })
 else
  bif decide (x0.th.at_≥(0:Int)) then
   bif decide (x0.th.at_<(↑x0.th.held.length:Int)) then
    some ({ x0 with th:={ x0.th with phase:=(7:Int) } })
   else
    some ({ x0 with th:={ x0.th with phase:=(2:Int) } })
  else
   some ({ x0 with th:={ x0.th with phase:=(2:Int) } })
noncomputable def ZfJ (x:Turn):Option (Turn):=Zj8 x
noncomputable def ZjT (x0:Turn):Option (Turn) :=
 match ZfJ { x0 with th:={ x0.th with at_:=(0:Int) } } with
 | some y1 =>
  some (y1)
 | none=>none
noncomputable def Zd4 (x:Turn):Option (Turn):=ZjT x
noncomputable def Zi0 (x0:Turn):Option (Turn) :=
 match Zbo x0.th.held with
 | some y1 =>
  bif fewB (List.length y1+(x0.th.node::([]:List Int)).length) then
   match ZhU x0.th.node with
   | some y2 =>
    bif decide (y2>(0:Int)) then
     some ({ x0 with th:={ x0.th with held:=y1++x0.th.node::([]:List Int),node:=y2 } })
    else
     match Zd4 { x0 with th:={ x0.th with held:=y1++x0.th.node::([]:List Int),node:=y2 } } with
     | some y3 =>
      some (y3)
     | none=>none
   | none=>none
  else
   none
 | none=>none
noncomputable def ZiW (x:Turn):Option (Turn):=Zi0 x
noncomputable def Zhj (x0:Memo) (x1:Int) (x2:Int) (x3:Int):Option (Memo×Bool×Int) :=
 match Zbt (x0.words,x1) with
 | some y1 =>
  bif y1.snd != (0:Int) then
   some ((x0,false,y1.snd))
  else
   bif y1.fst == x2 then
    match Zbo x0.words with
    | some y2 =>
     bif decide ((0:Int)≤x1) then
      bif decide (x1<(↑(List.length y2):Int)) then
       some (({ x0 with words:=List.set y2 x1.toNat x3 },y1.fst == x2,y1.snd))
      else
       none
     else
      none
    | none=>none
   else
    some ((x0,y1.fst == x2,y1.snd))
 | none=>none
noncomputable def ZcK (x:Memo×Int×Int×Int):Option (Memo×Bool×Int):=Zhj x.1 x.2.1 x.2.2.1 x.2.2.2
noncomputable def ZiX (x0:Turn):Option (Bool) :=
 bif decide ((0:Int)<x0.th.until_) then
  some (decide (x0.th.until_≤x0.now))
 else
  some (false)
noncomputable def ZdN (x:Turn):Option (Bool):=ZiX x
noncomputable def ZmM (x0:Int):Option (Said) :=
 bif Zae IntKind.i64 (↑(BitVec.ofInt IntKind.i64.bits x0 &&& BitVec.ofInt IntKind.i64.bits (7:Int)).toNat:Int) == (5:Int) && (Zae IntKind.i64 (x0.fdiv ((2:Int) ^ min (Int.toNat (3:Int)) IntKind.i64.bits)-(1:Int)) == (-1:Int) && true) then
  some (Said.mk (Zae IntKind.i64 (↑(BitVec.ofInt IntKind.i64.bits x0 &&& BitVec.ofInt IntKind.i64.bits (7:Int)).toNat:Int)) (Zae IntKind.i64 (x0.fdiv ((2:Int) ^ min (Int.toNat (3:Int)) IntKind.i64.bits)-(1:Int))))
 else
  bif decide (Zae IntKind.i64 (↑(BitVec.ofInt IntKind.i64.bits x0 &&& BitVec.ofInt IntKind.i64.bits (7:Int)).toNat:Int)≥(1:Int)) then
   bif decide (Zae IntKind.i64 (↑(BitVec.ofInt IntKind.i64.bits x0 &&& BitVec.ofInt IntKind.i64.bits (7:Int)).toNat:Int)≤(3:Int)) then
    bif decide (Zae IntKind.i64 (x0.fdiv ((2:Int) ^ min (Int.toNat (3:Int)) IntKind.i64.bits)-(1:Int))≥(0:Int)) then
     bif decide (Zae IntKind.i64 (x0.fdiv ((2:Int) ^ min (Int.toNat (3:Int)) IntKind.i64.bits)-(1:Int))<(16:Int)) then
      some (Said.mk (Zae IntKind.i64 (↑(BitVec.ofInt IntKind.i64.bits x0 &&& BitVec.ofInt IntKind.i64.bits (7:Int)).toNat:Int)) (Zae IntKind.i64 (x0.fdiv ((2:Int) ^ min (Int.toNat (3:Int)) IntKind.i64.bits)-(1:Int))))
     else
      bif Zae IntKind.i64 (↑(BitVec.ofInt IntKind.i64.bits x0 &&& BitVec.ofInt IntKind.i64.bits (7:Int)).toNat:Int) == (4:Int) then
       bif decide ((Zae IntKind.i64 (x0.fdiv ((2:Int) ^ min (Int.toNat (3:Int)) IntKind.i64.bits)-(1:Int))).fdiv ((2:Int) ^ min (Int.toNat (4:Int)) IntKind.i64.bits)≥(0:Int)) then
        bif decide ((Zae IntKind.i64 (x0.fdiv ((2:Int) ^ min (Int.toNat (3:Int)) IntKind.i64.bits)-(1:Int))).fdiv ((2:Int) ^ min (Int.toNat (4:Int)) IntKind.i64.bits)<(4:Int)) then
         bif decide (Zae IntKind.i64 (↑(BitVec.ofInt IntKind.i64.bits (Zae IntKind.i64 (x0.fdiv ((2:Int) ^ min (Int.toNat (3:Int)) IntKind.i64.bits)-(1:Int))) &&& BitVec.ofInt IntKind.i64.bits (15:Int)).toNat:Int)≥(1:Int)) then
          bif decide (Zae IntKind.i64 (↑(BitVec.ofInt IntKind.i64.bits (Zae IntKind.i64 (x0.fdiv ((2:Int) ^ min (Int.toNat (3:Int)) IntKind.i64.bits)-(1:Int))) &&& BitVec.ofInt IntKind.i64.bits (15:Int)).toNat:Int)≤(3:Int)) then
           some (Said.mk (Zae IntKind.i64 (↑(BitVec.ofInt IntKind.i64.bits x0 &&& BitVec.ofInt IntKind.i64.bits (7:Int)).toNat:Int)) (Zae IntKind.i64 (x0.fdiv ((2:Int) ^ min (Int.toNat (3:Int)) IntKind.i64.bits)-(1:Int))))
          else
           some (Said.mk (0:Int) (0:Int))
         else
          some (Said.mk (0:Int) (0:Int))
        else
         some (Said.mk (0:Int) (0:Int))
       else
        some (Said.mk (0:Int) (0:Int))
      else
       some (Said.mk (0:Int) (0:Int))
    else
     bif Zae IntKind.i64 (↑(BitVec.ofInt IntKind.i64.bits x0 &&& BitVec.ofInt IntKind.i64.bits (7:Int)).toNat:Int) == (4:Int) then
      bif decide ((Zae IntKind.i64 (x0.fdiv ((2:Int) ^ min (Int.toNat (3:Int)) IntKind.i64.bits)-(1:Int))).fdiv ((2:Int) ^ min (Int.toNat (4:Int)) IntKind.i64.bits)≥(0:Int)) then
       bif decide ((Zae IntKind.i64 (x0.fdiv ((2:Int) ^ min (Int.toNat (3:Int)) IntKind.i64.bits)-(1:Int))).fdiv ((2:Int) ^ min (Int.toNat (4:Int)) IntKind.i64.bits)<(4:Int)) then
        bif decide (Zae IntKind.i64 (↑(BitVec.ofInt IntKind.i64.bits (Zae IntKind.i64 (x0.fdiv ((2:Int) ^ min (Int.toNat (3:Int)) IntKind.i64.bits)-(1:Int))) &&& BitVec.ofInt IntKind.i64.bits (15:Int)).toNat:Int)≥(1:Int)) then
         bif decide (Zae IntKind.i64 (↑(BitVec.ofInt IntKind.i64.bits (Zae IntKind.i64 (x0.fdiv ((2:Int) ^ min (Int.toNat (3:Int)) IntKind.i64.bits)-(1:Int))) &&& BitVec.ofInt IntKind.i64.bits (15:Int)).toNat:Int)≤(3:Int)) then
          some (Said.mk (Zae IntKind.i64 (↑(BitVec.ofInt IntKind.i64.bits x0 &&& BitVec.ofInt IntKind.i64.bits (7:Int)).toNat:Int)) (Zae IntKind.i64 (x0.fdiv ((2:Int) ^ min (Int.toNat (3:Int)) IntKind.i64.bits)-(1:Int))))
         else
          some (Said.mk (0:Int) (0:Int))
        else
         some (Said.mk (0:Int) (0:Int))
       else
        some (Said.mk (0:Int) (0:Int))
      else
       some (Said.mk (0:Int) (0:Int))
     else
      some (Said.mk (0:Int) (0:Int))
   else
    bif Zae IntKind.i64 (↑(BitVec.ofInt IntKind.i64.bits x0 &&& BitVec.ofInt IntKind.i64.bits (7:Int)).toNat:Int) == (4:Int) then
     bif decide ((Zae IntKind.i64 (x0.fdiv ((2:Int) ^ min (Int.toNat (3:Int)) IntKind.i64.bits)-(1:Int))).fdiv ((2:Int) ^ min (Int.toNat (4:Int)) IntKind.i64.bits)≥(0:Int)) then
      bif decide ((Zae IntKind.i64 (x0.fdiv ((2:Int) ^ min (Int.toNat (3:Int)) IntKind.i64.bits)-(1:Int))).fdiv ((2:Int) ^ min (Int.toNat (4:Int)) IntKind.i64.bits)<(4:Int)) then
       bif decide (Zae IntKind.i64 (↑(BitVec.ofInt IntKind.i64.bits (Zae IntKind.i64 (x0.fdiv ((2:Int) ^ min (Int.toNat (3:Int)) IntKind.i64.bits)-(1:Int))) &&& BitVec.ofInt IntKind.i64.bits (15:Int)).toNat:Int)≥(1:Int)) then
        bif decide (Zae IntKind.i64 (↑(BitVec.ofInt IntKind.i64.bits (Zae IntKind.i64 (x0.fdiv ((2:Int) ^ min (Int.toNat (3:Int)) IntKind.i64.bits)-(1:Int))) &&& BitVec.ofInt IntKind.i64.bits (15:Int)).toNat:Int)≤(3:Int)) then
         some (Said.mk (Zae IntKind.i64 (↑(BitVec.ofInt IntKind.i64.bits x0 &&& BitVec.ofInt IntKind.i64.bits (7:Int)).toNat:Int)) (Zae IntKind.i64 (x0.fdiv ((2:Int) ^ min (Int.toNat (3:Int)) IntKind.i64.bits)-(1:Int))))
        else
         some (Said.mk (0:Int) (0:Int))
       else
        some (Said.mk (0:Int) (0:Int))
      else
       some (Said.mk (0:Int) (0:Int))
     else
      some (Said.mk (0:Int) (0:Int))
    else
     some (Said.mk (0:Int) (0:Int))
  else
   bif Zae IntKind.i64 (↑(BitVec.ofInt IntKind.i64.bits x0 &&& BitVec.ofInt IntKind.i64.bits (7:Int)).toNat:Int) == (4:Int) then
    bif decide ((Zae IntKind.i64 (x0.fdiv ((2:Int) ^ min (Int.toNat (3:Int)) IntKind.i64.bits)-(1:Int))).fdiv ((2:Int) ^ min (Int.toNat (4:Int)) IntKind.i64.bits)≥(0:Int)) then
     bif decide ((Zae IntKind.i64 (x0.fdiv ((2:Int) ^ min (Int.toNat (3:Int)) IntKind.i64.bits)-(1:Int))).fdiv ((2:Int) ^ min (Int.toNat (4:Int)) IntKind.i64.bits)<(4:Int)) then
      bif decide (Zae IntKind.i64 (↑(BitVec.ofInt IntKind.i64.bits (Zae IntKind.i64 (x0.fdiv ((2:Int) ^ min (Int.toNat (3:Int)) IntKind.i64.bits)-(1:Int))) &&& BitVec.ofInt IntKind.i64.bits (15:Int)).toNat:Int)≥(1:Int)) then
       bif decide (Zae IntKind.i64 (↑(BitVec.ofInt IntKind.i64.bits (Zae IntKind.i64 (x0.fdiv ((2:Int) ^ min (Int.toNat (3:Int)) IntKind.i64.bits)-(1:Int))) &&& BitVec.ofInt IntKind.i64.bits (15:Int)).toNat:Int)≤(3:Int)) then
        some (Said.mk (Zae IntKind.i64 (↑(BitVec.ofInt IntKind.i64.bits x0 &&& BitVec.ofInt IntKind.i64.bits (7:Int)).toNat:Int)) (Zae IntKind.i64 (x0.fdiv ((2:Int) ^ min (Int.toNat (3:Int)) IntKind.i64.bits)-(1:Int))))
       else
        some (Said.mk (0:Int) (0:Int))
      else
       some (Said.mk (0:Int) (0:Int))
     else
      some (Said.mk (0:Int) (0:Int))
    else
     some (Said.mk (0:Int) (0:Int))
   else
    some (Said.mk (0:Int) (0:Int))
noncomputable def ZiJ (x:Int):Option (Said):=ZmM x
noncomputable def Zk5 (x0:Int):Option (Int) :=
 match ZiJ x0 with
 | some y1 =>
  bif x0 == (0:Int) then
   some (y1.kind)
  else
   bif !(y1.kind == (0:Int) && (y1.n == (0:Int) && true)) then
    some (y1.kind)
   else
    some ((-1:Int))
 | none=>none
noncomputable def Zgq (x:Int):Option (Int):=Zk5 x
noncomputable def ZjU (x0:Turn) (x1:Int):Option (Turn) :=
 match Zgq x1 with
 | some y1 =>
  bif y1 == (1:Int) then
   some ({ x0 with th:={ x0.th with phase:=(6:Int),x:=x1 } })
  else
   bif y1 == (0:Int) then
    some ({ x0 with th:={ x0.th with phase:=(5:Int) } })
   else
    match ZdN x0 with
    | some y2 =>
     bif y2 then
      match Zd4 x0 with
      | some y3 =>
       some (y3)
      | none=>none
     else
      some (x0)
    | none=>none
 | none=>none
noncomputable def Zke (x:Turn×Int):Option (Turn):=ZjU x.1 x.2
noncomputable def Zi2 (x0:Int):Option (Int) :=
 match ZbK (Said.mk (2:Int) x0) with
 | some y1 =>
  some (y1)
 | none=>none
noncomputable def ZiR (x:Int):Option (Int):=Zi2 x
noncomputable def Zic (x0:Turn):Option (Turn) :=
 match Zd4 { x0 with th:={ x0.th with stop:=x0.th.node } } with
 | some y1 =>
  some (y1)
 | none=>none
noncomputable def Zh7 (x:Turn):Option (Turn):=Zic x
noncomputable def Zj2 (x0:Turn):Option (Turn×Bool) :=
 match Zd2 (x0.c,x0.th.item,x0.th.node) with
 | some y1 =>
  match ZeD x0.t with
  | some y2 =>
   bif x0.th.phase == (4:Int) then
    match ZbQ (x0.m,y1) with
    | some y3 =>
     bif y3.snd != (0:Int) then
      some ((x0,true))
     else
      match Zke (x0,y3.fst) with
      | some y4 =>
       some ((y4,true))
      | none=>none
    | none=>none
   else
    bif x0.th.phase == (6:Int) then
     match ZiR x0.t with
     | some y3 =>
      match ZcK (x0.m,y1,x0.th.x,y3) with
      | some y4 =>
       bif y4.snd.snd != (0:Int) then
        some ((x0,true))
       else
        bif y4.snd.fst then
         match Zh7 { x0 with m:=y4.fst,th:={ x0.th with phase:=(4:Int) } } with
         | some y5 =>
          some ((y5,true))
         | none=>none
        else
         some (({ x0 with m:=y4.fst,th:={ x0.th with phase:=(4:Int) } },true))
      | none=>none
     | none=>none
    else
     bif x0.th.phase == (5:Int) then
      match ZcK (x0.m,y1,(0:Int),y2) with
      | some y3 =>
       bif y3.snd.snd != (0:Int) then
        some ((x0,true))
       else
        bif y3.snd.fst then
         match ZiW { x0 with m:=y3.fst,th:={ x0.th with phase:=(4:Int) } } with
         | some y4 =>
          some ((y4,true))
         | none=>none
        else
         some (({ x0 with m:=y3.fst,th:={ x0.th with phase:=(4:Int) } },true))
      | none=>none
     else
      some ((x0,false))
  | none=>none
 | none=>none
noncomputable def Zkn (x:Turn):Option (Turn×Bool):=Zj2 x
noncomputable def ZiV (x0:Turn):Option (Int) :=
 bif decide (x0.th.at_<(0:Int)) then
  some ((-1:Int))
 else
  bif decide (x0.th.at_≥(↑x0.th.held.length:Int)) then
   some ((-1:Int))
  else
   bif decide ((0:Int)≤x0.th.at_) then
    bif decide (x0.th.at_<(↑x0.th.held.length:Int)) then
     match Zd2 (x0.c,x0.th.item,x0.th.held.getD x0.th.at_.toNat (0:Int)) with
     | some y1 =>
      some (y1)
     | none=>none
    else
     none
   else
    none
noncomputable def Ze4 (x:Turn):Option (Int):=ZiV x
noncomputable def ZlX (x0:Int):Option (Int) :=
 match ZiJ x0 with
 | some y1 =>
  bif decide (y1.kind≥(1:Int)) then
   bif decide (y1.kind≤(3:Int)) then
    some (y1.n)
   else
    some ((-1:Int))
  else
   some ((-1:Int))
 | none=>none
noncomputable def ZlU (x:Int):Option (Int):=ZlX x
noncomputable def Zmi (x0:Turn):Option (Turn) :=
 match Ze4 x0 with
 | some y1 =>
  match ZbQ (x0.m,y1) with
  | some y2 =>
   bif y2.snd != (0:Int) then
    some (x0)
   else
    match ZeD x0.t with
    | some y3 =>
     bif y2.fst == y3 then
      some ({ x0 with th:={ x0.th with phase:=(8:Int) } })
     else
      match Zgq y2.fst with
      | some y4 =>
       bif y4 == (3:Int) then
        match ZlU y2.fst with
        | some y5 =>
         some ({ x0 with th:={ x0.th with phase:=(9:Int),who:=y5 } })
        | none=>none
       else
        some (x0)
      | none=>none
    | none=>none
  | none=>none
 | none=>none
noncomputable def Zjl (x:Turn):Option (Turn):=Zmi x
noncomputable def Zjd (x0:Turn):Option (Turn) :=
 match ZfJ { x0 with th:={ x0.th with at_:=Zae IntKind.i64 (x0.th.at_+(1:Int)) } } with
 | some y1 =>
  some (y1)
 | none=>none
noncomputable def ZgF (x:Turn):Option (Turn):=Zjd x
noncomputable def Zmu (x0:Turn):Option (Turn) :=
 match Ze4 x0 with
 | some y1 =>
  match ZeD x0.t with
  | some y2 =>
   match ZcK (x0.m,y1,y2,(0:Int)) with
   | some y3 =>
    bif !y3.snd.fst then
     bif y3.snd.snd != (0:Int) then
      some (x0)
     else
      some ({ x0 with m:=y3.fst,th:={ x0.th with phase:=(7:Int) } })
    else
     bif y3.snd.snd != (0:Int) then
      some (x0)
     else
      match ZgF { x0 with m:=y3.fst } with
      | some y4 =>
       some (y4)
      | none=>none
   | none=>none
  | none=>none
 | none=>none
noncomputable def Zjg (x:Turn):Option (Turn):=Zmu x
noncomputable def ZcO (x0:List Entry):Option ((List Entry)) :=
 bif fewB ((0:Nat)+x0.length) then
  some (x0)
 else
  none
noncomputable def Zbf (x:(List Entry)):Option ((List Entry)):=ZcO x
noncomputable def Zce (x0:List (List Entry)) (x1:Int):Option ((List Entry)×Int) :=
 bif decide (x1<(0:Int)) then
  some ((([]:List Entry),(30:Int)))
 else
  bif decide (x1≥(↑x0.length:Int)) then
   some ((([]:List Entry),(30:Int)))
  else
   bif decide ((0:Int)≤x1) then
    bif decide (x1<(↑x0.length:Int)) then
     some ((x0.getD x1.toNat ([]:List Entry),(0:Int)))
    else
     none
   else
    none
noncomputable def Zcd (x:(List (List Entry))×Int):Option ((List Entry)×Int):=Zce x.1 x.2
noncomputable def Zho (x0:Memo) (x1:Int):Option ((List Entry)×Int) :=
 match Zcd (x0.boxes,x1) with
 | some y1 =>
  match Zbf y1.fst with
  | some y2 =>
   some ((y2,y1.snd))
  | none=>none
 | none=>none
noncomputable def Zg1 (x:Memo×Int):Option ((List Entry)×Int):=Zho x.1 x.2
noncomputable def Zd5 (x0:Unit) (x1:Int):Option ((List Kid)) :=
 bif decide (x1<(0:Int)) then
  none
 else
  bif decide (Zae IntKind.i64 (x1-Zae IntKind.i64 ((0:Int)-(0:Int)))>(0:Int)) then
   bif decide ((0:Int)≤Zae IntKind.i64 (x1-Zae IntKind.i64 ((0:Int)-(0:Int)))) then
    bif decide (Zae IntKind.i64 (x1-Zae IntKind.i64 ((0:Int)-(0:Int)))≤Zbm) then
     some (List.take (Int.toNat (0:Int)) (List.replicate (Zae IntKind.i64 (x1-Zae IntKind.i64 ((0:Int)-(0:Int)))).toNat (Kid.mk (0:Int) (0:Int))))
    else
     none
   else
    none
  else
   some (([]:List Kid))
noncomputable def Zd6 (x:Unit×Int):Option ((List Kid)):=Zd5 x.1 x.2
noncomputable def Zcn (x0:List Kid) (x1:List (List Kid)) (x2:Int) (x3:Int):Option (((List Kid)×(List (List Kid))×Int×Int)⊕(((List Kid)))) :=
 bif decide (x3<x2) then
  bif decide ((0:Int)≤x3) then
   bif decide (x3<(↑x1.length:Int)) then
    bif fewB (x0.length+List.length (x1.getD x3.toNat ([]:List Kid))) then
     some (Sum.inl (x0++x1.getD x3.toNat ([]:List Kid),x1,x2,Zae IntKind.i64 (x3+(1:Int))))
    else
     none
   else
    none
  else
   none
 else
  some (Sum.inr x0)
noncomputable def Zby (x:(List Kid)×(List (List Kid))×Int×Int):Option (((List Kid)×(List (List Kid))×Int×Int)⊕(((List Kid)))):=Zcn x.1 x.2.1 x.2.2.1 x.2.2.2
noncomputable def Zc9 (x:(List Kid)×(List (List Kid))×Int×Int):Option (((List Kid))):=ZaH Zby x
noncomputable def Zcw (x0:List (List Kid)) (x1:Int) (x2:List (List Kid)) (x3:Int) (x4:Int):Option (((List (List Kid))×Int×(List (List Kid))×Int×Int)⊕(((List (List Kid))×Int))) :=
 bif decide (x4<x3) then
  bif decide ((0:Int)≤x4) then
   bif decide (x4<(↑x2.length:Int)) then
    bif decide (Zae IntKind.i64 (x1+(↑(List.length (x2.getD x4.toNat ([]:List Kid))):Int))<(0:Int)) then
     none
    else
     some (Sum.inl (x0,Zae IntKind.i64 (x1+(↑(List.length (x2.getD x4.toNat ([]:List Kid))):Int)),x2,x3,Zae IntKind.i64 (x4+(1:Int))))
   else
    none
  else
   none
 else
  some (Sum.inr (x0,x1))
noncomputable def ZbE (x:(List (List Kid))×Int×(List (List Kid))×Int×Int):Option (((List (List Kid))×Int×(List (List Kid))×Int×Int)⊕(((List (List Kid))×Int))):=Zcw x.1 x.2.1 x.2.2.1 x.2.2.2.1 x.2.2.2.2
noncomputable def Zdg (x:(List (List Kid))×Int×(List (List Kid))×Int×Int):Option (((List (List Kid))×Int)):=ZaH ZbE x
noncomputable def ZdE (x0:List (List Kid)):Option ((List Kid)) :=
 match Zdg (x0,(0:Int),x0,(↑x0.length:Int),(0:Int)) with
 | some y1 =>
  match Zd6 ((),y1.snd) with
  | some y2 =>
   match Zc9 (y2,y1.fst,(↑(List.length y1.fst):Int),(0:Int)) with
   | some y3 =>
    some (y3)
   | none=>none
  | none=>none
 | none=>none
noncomputable def ZdJ (x:(List (List Kid))):Option ((List Kid)):=ZdE x
noncomputable def ZdT (x0:Unit) (x1:Int):Option ((List Entry)) :=
 bif decide (x1<(0:Int)) then
  none
 else
  bif decide (Zae IntKind.i64 (x1-Zae IntKind.i64 ((0:Int)-(0:Int)))>(0:Int)) then
   bif decide ((0:Int)≤Zae IntKind.i64 (x1-Zae IntKind.i64 ((0:Int)-(0:Int)))) then
    bif decide (Zae IntKind.i64 (x1-Zae IntKind.i64 ((0:Int)-(0:Int)))≤Zbm) then
     some (List.take (Int.toNat (0:Int)) (List.replicate (Zae IntKind.i64 (x1-Zae IntKind.i64 ((0:Int)-(0:Int)))).toNat (Entry.mk (0:Int) (Op.mk (0:Int) (0:Int)))))
    else
     none
   else
    none
  else
   some (([]:List Entry))
noncomputable def ZdS (x:Unit×Int):Option ((List Entry)):=ZdT x.1 x.2
noncomputable def Zci (x0:List Entry) (x1:List (List Entry)) (x2:Int) (x3:Int):Option (((List Entry)×(List (List Entry))×Int×Int)⊕(((List Entry)))) :=
 bif decide (x3<x2) then
  bif decide ((0:Int)≤x3) then
   bif decide (x3<(↑x1.length:Int)) then
    bif fewB (x0.length+List.length (x1.getD x3.toNat ([]:List Entry))) then
     some (Sum.inl (x0++x1.getD x3.toNat ([]:List Entry),x1,x2,Zae IntKind.i64 (x3+(1:Int))))
    else
     none
   else
    none
  else
   none
 else
  some (Sum.inr x0)
noncomputable def Zbq (x:(List Entry)×(List (List Entry))×Int×Int):Option (((List Entry)×(List (List Entry))×Int×Int)⊕(((List Entry)))):=Zci x.1 x.2.1 x.2.2.1 x.2.2.2
noncomputable def Zc6 (x:(List Entry)×(List (List Entry))×Int×Int):Option (((List Entry))):=ZaH Zbq x
noncomputable def Zcm (x0:List (List Entry)) (x1:Int) (x2:List (List Entry)) (x3:Int) (x4:Int):Option (((List (List Entry))×Int×(List (List Entry))×Int×Int)⊕(((List (List Entry))×Int))) :=
 bif decide (x4<x3) then
  bif decide ((0:Int)≤x4) then
   bif decide (x4<(↑x2.length:Int)) then
    bif decide (Zae IntKind.i64 (x1+(↑(List.length (x2.getD x4.toNat ([]:List Entry))):Int))<(0:Int)) then
     none
    else
     some (Sum.inl (x0,Zae IntKind.i64 (x1+(↑(List.length (x2.getD x4.toNat ([]:List Entry))):Int)),x2,x3,Zae IntKind.i64 (x4+(1:Int))))
   else
    none
  else
   none
 else
  some (Sum.inr (x0,x1))
noncomputable def Zbw (x:(List (List Entry))×Int×(List (List Entry))×Int×Int):Option (((List (List Entry))×Int×(List (List Entry))×Int×Int)⊕(((List (List Entry))×Int))):=Zcm x.1 x.2.1 x.2.2.1 x.2.2.2.1 x.2.2.2.2
noncomputable def Zda (x:(List (List Entry))×Int×(List (List Entry))×Int×Int):Option (((List (List Entry))×Int)):=ZaH Zbw x
noncomputable def Zdo (x0:List (List Entry)):Option ((List Entry)) :=
 match Zda (x0,(0:Int),x0,(↑x0.length:Int),(0:Int)) with
 | some y1 =>
  match ZdS ((),y1.snd) with
  | some y2 =>
   match Zc6 (y2,y1.fst,(↑(List.length y1.fst):Int),(0:Int)) with
   | some y3 =>
    some (y3)
   | none=>none
  | none=>none
 | none=>none
noncomputable def Zdu (x:(List (List Entry))):Option ((List Entry)):=Zdo x
noncomputable def Zm1 (x0:List (List Entry)):Option ((List Entry)) :=
 match Zdu x0 with
 | some y1 =>
  some (y1)
 | none=>none
noncomputable def Zj7 (x:(List (List Entry))):Option ((List Entry)):=Zm1 x
noncomputable def Zji (x0:Turn) (x1:Int) (x2:List Entry):Option (Turn) :=
 match ZdJ (x0.th.kids::(Kid.mk x1 (↑x0.th.batch.length:Int)::([]:List Kid))::([]:List (List Kid))) with
 | some y1 =>
  match Zj7 (x0.th.batch::x2::([]:List (List Entry))) with
  | some y2 =>
   some ({ x0 with th:={ x0.th with batch:=y2,kids:=y1 } })
  | none=>none
 | none=>none
noncomputable def Zfc (x:Turn×Int×(List Entry)):Option (Turn):=Zji x.1 x.2.1 x.2.2
noncomputable def ZjV (x0:Turn):Option (Turn) :=
 match Zg1 (x0.m,x0.th.who) with
 | some y1 =>
  bif y1.snd != (0:Int) then
   some (x0)
  else
   match Zfc (x0,x0.th.who,y1.fst) with
   | some y2 =>
    some ({ y2 with th:={ y2.th with phase:=(10:Int) } })
   | none=>none
 | none=>none
noncomputable def ZgN (x:Turn):Option (Turn):=ZjV x
noncomputable def Zmj (x0:Turn):Option (Turn) :=
 match Ze4 x0 with
 | some y1 =>
  match Zb2 (x0.m,y1,(0:Int)) with
  | some y2 =>
   bif y2.snd != (0:Int) then
    some (x0)
   else
    match ZgF { x0 with m:=y2.fst } with
    | some y3 =>
     some (y3)
    | none=>none
  | none=>none
 | none=>none
noncomputable def ZiQ (x:Turn):Option (Turn):=Zmj x
noncomputable def Zdp (x0:List (List Entry)):Option ((List (List Entry))) :=
 bif fewB ((0:Nat)+x0.length) then
  some (x0)
 else
  none
noncomputable def Zds (x:(List (List Entry))):Option ((List (List Entry))):=Zdp x
noncomputable def Zmg (x0:Memo) (x1:Int) (x2:List Entry):Option (Memo×Int) :=
 match Zcd (x0.boxes,x1) with
 | some y1 =>
  bif y1.snd != (0:Int) then
   some ((x0,y1.snd))
  else
   match Zds x0.boxes with
   | some y2 =>
    match Zbf x2 with
    | some y3 =>
     bif decide ((0:Int)≤x1) then
      bif decide (x1<(↑(List.length y2):Int)) then
       some (({ x0 with boxes:=List.set y2 x1.toNat y3 },(0:Int)))
      else
       none
     else
      none
    | none=>none
   | none=>none
 | none=>none
noncomputable def Zhf (x:Memo×Int×(List Entry)):Option (Memo×Int):=Zmg x.1 x.2.1 x.2.2
noncomputable def ZjW (x0:Turn):Option (Turn) :=
 match Zhf (x0.m,x0.t,x0.th.batch) with
 | some y1 =>
  bif y1.snd != (0:Int) then
   some (x0)
  else
   some ({ x0 with m:=y1.fst,th:={ x0.th with phase:=(12:Int) } })
 | none=>none
noncomputable def ZgO (x:Turn):Option (Turn):=ZjW x
noncomputable def ZgR (x0:Int):Option (Int) :=
 match ZbK (Said.mk (3:Int) x0) with
 | some y1 =>
  some (y1)
 | none=>none
noncomputable def ZgL (x:Int):Option (Int):=ZgR x
noncomputable def ZjS (x0:Turn):Option (Turn) :=
 match Zd2 (x0.c,x0.th.item,x0.th.stop) with
 | some y1 =>
  match ZgL x0.t with
  | some y2 =>
   match Zb2 (x0.m,y1,y2) with
   | some y3 =>
    bif y3.snd != (0:Int) then
     some (x0)
    else
     some ({ x0 with m:=y3.fst,th:={ x0.th with phase:=(13:Int) } })
   | none=>none
  | none=>none
 | none=>none
noncomputable def ZgI (x:Turn):Option (Turn):=ZjS x
noncomputable def Zje (x0:Turn):Option (Turn×Bool) :=
 bif x0.th.phase == (7:Int) then
  match Zjl x0 with
  | some y1 =>
   some ((y1,true))
  | none=>none
 else
  bif x0.th.phase == (8:Int) then
   match Zjg x0 with
   | some y1 =>
    some ((y1,true))
   | none=>none
  else
   bif x0.th.phase == (9:Int) then
    match ZgN x0 with
    | some y1 =>
     some ((y1,true))
    | none=>none
   else
    bif x0.th.phase == (10:Int) then
     match ZiQ x0 with
     | some y1 =>
      some ((y1,true))
     | none=>none
    else
     bif x0.th.phase == (11:Int) then
      match ZgO x0 with
      | some y1 =>
       some ((y1,true))
      | none=>none
     else
      bif x0.th.phase == (12:Int) then
       match ZgI x0 with
       | some y1 =>
        some ((y1,true))
       | none=>none
      else
       some ((x0,false))
noncomputable def Zi1 (x:Turn):Option (Turn×Bool):=Zje x
noncomputable def Zhd (x0:Turn):Option (Turn) :=
 bif decide (x0.th.layer<x0.c.layers) then
  match ZdN { x0 with th:={ x0.th with phase:=(2:Int) } } with
  | some y1 =>
   bif !y1 then
    some ({ x0 with th:={ x0.th with phase:=(17:Int),layer:=Zae IntKind.i64 (x0.th.layer+(1:Int)) } })
   else
    some ({ x0 with th:={ x0.th with phase:=(2:Int) } })
  | none=>none
 else
  some ({ x0 with th:={ x0.th with phase:=(2:Int) } })
noncomputable def Zcj (x:Turn):Option (Turn):=Zhd x
noncomputable def Zir (x0:Int) (x1:Int):Option (Int) :=
 match ZbK (Said.mk (4:Int) (Zae IntKind.i64 (Zae IntKind.i64 (x0*(2:Int) ^ min (Int.toNat (4:Int)) IntKind.i64.bits)+x1))) with
 | some y1 =>
  some (y1)
 | none=>none
noncomputable def Zim (x:Int×Int):Option (Int):=Zir x.1 x.2
noncomputable def ZhH (x0:Turn×Int) (x1:Int):Option (Int) :=
 match Zc5 (x0.fst.c,x1) with
 | some y1 =>
  some (y1)
 | none=>none
noncomputable def ZbV (x:(Turn×Int)×Int):Option (Int):=ZhH x.1 x.2
noncomputable def Zoj:Option (Int) :=
 match ZbK (Said.mk (5:Int) (-1:Int)) with
 | some y1 =>
  some (y1)
 | none=>none
noncomputable def Zgk (x:Unit):Option (Int):=Zoj
noncomputable def Zh4 (x0:Config) (x1:Int):Option (Int) :=
 bif decide (x1<(0:Int)) then
  some ((-1:Int))
 else
  bif decide (x1≥x0.threads) then
   some ((-1:Int))
  else
   match Zck x0 with
   | some y1 =>
    some (Zae IntKind.i64 (Zae IntKind.i64 (y1.lines+Zae IntKind.i64 ((2:Int)*x1))+(1:Int)))
   | none=>none
noncomputable def ZeP (x:Config×Int):Option (Int):=Zh4 x.1 x.2
noncomputable def ZhP (x0:Turn):Option (Turn) :=
 bif decide (x0.th.at_<(0:Int)) then
  some ({ x0 with th:={ x0.th with phase:=(0:Int) },done:=true })
 else
  bif decide (x0.th.at_≥(↑x0.th.kids.length:Int)) then
   some ({ x0 with th:={ x0.th with phase:=(0:Int) },done:=true })
  else
   bif decide ((0:Int)≤x0.th.at_) then
    bif decide (x0.th.at_<(↑x0.th.kids.length:Int)) then
     some ({ x0 with th:={ x0.th with phase:=(15:Int) } })
    else
     none
   else
    none
noncomputable def Zdi (x:Turn):Option (Turn):=ZhP x
noncomputable def ZjI (x0:List Entry) (x1:Int):Option ((List Entry)) :=
 bif decide ((0:Int)≤if (if (↑x0.length:Int)<x1 then (↑x0.length:Int) else x1)>(0:Int) then if (↑x0.length:Int)<x1 then (↑x0.length:Int) else x1 else (0:Int)) then
  bif decide ((if (if (↑x0.length:Int)<x1 then (↑x0.length:Int) else x1)>(0:Int) then if (↑x0.length:Int)<x1 then (↑x0.length:Int) else x1 else (0:Int))≤(↑x0.length:Int)) then
   match Zbf (List.drop (Int.toNat (0:Int)) (List.take (if (if (↑x0.length:Int)<x1 then (↑x0.length:Int) else x1)>(0:Int) then if (↑x0.length:Int)<x1 then (↑x0.length:Int) else x1 else (0:Int)).toNat x0)) with
   | some y1 =>
    some (y1)
   | none=>none
  else
   none
 else
  none
noncomputable def Zka (x:(List Entry)×Int):Option ((List Entry)):=ZjI x.1 x.2
noncomputable def Zgv (x0:Memo) (x1:Int) (x2:Int):Option (Memo×Int×Int) :=
 match Zbt (x0.words,x1) with
 | some y1 =>
  bif y1.snd != (0:Int) then
   some ((x0,(0:Int),y1.snd))
  else
   match Zbo x0.words with
   | some y2 =>
    bif decide ((0:Int)≤x1) then
     bif decide (x1<(↑(List.length y2):Int)) then
      some (({ x0 with words:=List.set y2 x1.toNat x2 },y1))
     else
      none
    else
     none
   | none=>none
 | none=>none
noncomputable def ZkS (x:Memo×Int×Int):Option (Memo×Int×Int):=Zgv x.1 x.2.1 x.2.2
noncomputable def ZjJ (x0:Config) (x1:Int) (x2:Int) (x3:Int):Option (Int) :=
 bif decide (x1<(0:Int)) then
  some ((-1:Int))
 else
  bif decide (x1≥x0.items) then
   some ((-1:Int))
  else
   bif decide (x2<(1:Int)) then
    some ((-1:Int))
   else
    bif decide (x2≥Zae IntKind.i64 ((1:Int)+x0.layers)) then
     some ((-1:Int))
    else
     bif decide (x3<(0:Int)) then
      some ((-1:Int))
     else
      bif decide (x3≥x0.width) then
       some ((-1:Int))
      else
       match Zck x0 with
       | some y1 =>
        match Zck x0 with
        | some y2 =>
         some (Zae IntKind.i64 (Zae IntKind.i64 (Zae IntKind.i64 (Zae IntKind.i64 (x1*y1.block)+y2.slots)+Zae IntKind.i64 (Zae IntKind.i64 (x2-(1:Int))*x0.width))+x3))
        | none=>none
       | none=>none
noncomputable def Zkh (x:Config×Int×Int×Int):Option (Int):=ZjJ x.1 x.2.1 x.2.2.1 x.2.2.2
noncomputable def Zgp (x0:Tape):Option (Int) :=
 bif decide (x0.at_<(0:Int)) then
  some ((0:Int))
 else
  some (if Zae IntKind.i64 ((↑x0.l.length:Int)-x0.at_)>(0:Int) then Zae IntKind.i64 ((↑x0.l.length:Int)-x0.at_) else (0:Int))
noncomputable def Zfn (x:Tape):Option (Int):=Zgp x
end Go.Proofs.Mill
