/- What the functions compute. -/
import Derived.Test.YtaopdopnecognaaGreatMillAll3
set_option linter.all false
noncomputable section
namespace Go.Proofs.Mill
def Ze4 (x0:List SEntry) (x1:Int) (x2:Int):Option (((List SEntry)×Int×Int)⊕(((List SEntry)))) := bif decide (x2<x1) then bif fewB (x0.length+(SEntry.mk 2 x2 0 (Op.mk 0 0)::[]).length) then some (Sum.inl (x0++SEntry.mk 2 x2 0 (Op.mk 0 0)::[],x1,Zac .i64 (x2+1))) else none else some (Sum.inr x0)
def ZgL (x:(List SEntry)×Int×Int):Option (((List SEntry)×Int×Int)⊕(((List SEntry)))):=Ze4 x.1 x.2.1 x.2.2
def Zmp (x:(List SEntry)×Int×Int):Option (((List SEntry))):=ZaA ZgL x
def ZkI (x0:Config):Option (List SEntry) := match Zmp (([]:List SEntry),x0.threads,0) with
 | some y1 => some y1
 | none=>none
def ZhL (x:Config):Option (List SEntry):=ZkI x
def Zdd (x0:Int) (x1:List SEntry) (x2:List SEntry) (x3:List SEntry) (x4:Int) (x5:Int):Option ((Int×(List SEntry)×(List SEntry)×(List SEntry)×Int×Int)⊕(((List SEntry))⊕(Int×(List SEntry)×(List SEntry)))) := bif decide (x5<x4) then bif decide (0<=x5) then bif decide (x5<(↑x3.length:Int)) then bif decide ((↑x1.length:Int)>=65536) then some (Sum.inr (Sum.inl x1)) else bif fewB (x1.length+(x3.getD x5.toNat ZaE::[]).length) then some (Sum.inl (x0,x1++x3.getD x5.toNat ZaE::[],x2,x3,x4,Zac .i64 (x5+1))) else none else none else none else some (Sum.inr (Sum.inr (x0,x1,x2)))
def ZdU (x:Int×(List SEntry)×(List SEntry)×(List SEntry)×Int×Int):Option ((Int×(List SEntry)×(List SEntry)×(List SEntry)×Int×Int)⊕(((List SEntry))⊕(Int×(List SEntry)×(List SEntry)))):=Zdd x.1 x.2.1 x.2.2.1 x.2.2.2.1 x.2.2.2.2.1 x.2.2.2.2.2
def Zly (x:Int×(List SEntry)×(List SEntry)×(List SEntry)×Int×Int):Option (((List SEntry))⊕(Int×(List SEntry)×(List SEntry))):=ZaA ZdU x
def ZeI (x0:Int) (x1:List SEntry) (x2:List SEntry):Option ((Int×(List SEntry)×(List SEntry))⊕(((List SEntry)))) := bif decide (x0>0) then match Zly (x0,x1,x2,x2,(↑x2.length:Int),0) with
 | some (.inl y1) => some (Sum.inr y1)
 | some (.inr y2) => some (Sum.inl (Zac .i64 (y2.fst-1),y2.snd))
 | none=>none else some (Sum.inr x1)
def ZdS (x:Int×(List SEntry)×(List SEntry)):Option ((Int×(List SEntry)×(List SEntry))⊕(((List SEntry)))):=ZeI x.1 x.2.1 x.2.2
def Zc9 (x:Int×(List SEntry)×(List SEntry)):Option (((List SEntry))):=ZaA ZdS x
def Zhi (x0:Config) (x1:Int):Option (List SEntry) := match ZhL x0 with
 | some y1 => match Zc9 (x1,([]:List SEntry),y1) with
  | some y2 => some y2
  | none=>none
 | none=>none
def ZdW (x:Config×Int):Option (List SEntry):=Zhi x.1 x.2
def ZiS (x0:Config):Option Int :=
 some (Zac .i64 (Zac .i64 (20+Zac .i64 (8*x0.depth))+Zac .i64 (x0.layers*Zac .i64 (20+Zac .i64 (2*x0.spin)))))
def ZiX (x:Config):Option Int:=ZiS x
def ZjN (x0:Config):Option Int := match ZiX x0 with
 | some y1 => some (Zac .i64 (20+Zac .i64 (Zac .i64 (4*y1)*x0.threads)))
 | none=>none
def Zdh (x:Config):Option Int:=ZjN x
def Zrh (x0:Config) (x1:Int) (x2:Int):Option ((Config×Int×Int)⊕((Int))) := bif decide (x2<x0.depth) then some (Sum.inl (x0,Zac .i64 (2*x1),Zac .i64 (x2+1))) else some (Sum.inr x1)
def ZhT (x:Config×Int×Int):Option ((Config×Int×Int)⊕((Int))):=Zrh x.1 x.2.1 x.2.2
def Zqx (x:Config×Int×Int):Option Int:=ZaA ZhT x
def ZsP (x0:Config):Option Int := match Zqx (x0,1,0) with
 | some y1 => some (Zac .i64 (y1-1))
 | none=>none
def Zhl (x:Config):Option Int:=ZsP x
def ZsV (x0:Config):Option Int := match Zhl x0 with
 | some y1 => some (Zac .i64 (Zac .i64 (1+y1)+Zac .i64 (x0.layers*x0.width)))
 | none=>none
def Zfy (x:Config):Option Int:=ZsV x
def Zui (x0:Config):Option Int := match Zfy x0 with
 | some y1 => some (Zac .i64 (Zac .i64 (x0.items*y1)+Zac .i64 (2*x0.threads)))
 | none=>none
def Zoy (x:Config):Option Int:=Zui x
def Zut (x0:Config) (x1:Int) (x2:Int):Option Int := bif decide (x1<0) then some ((-1:Int)) else bif decide (x1>=x0.items) then some ((-1:Int)) else bif decide (x2<1) then some ((-1:Int)) else match Zhl x0 with
 | some y1 => bif decide (x2>y1) then some ((-1:Int)) else match Zfy x0 with
  | some y2 => some (Zac .i64 (Zac .i64 (x1*y2)+x2))
  | none=>none
 | none=>none
def ZnK (x:Config×Int×Int):Option Int:=Zut x.1 x.2.1 x.2.2
def ZtJ (x0:Config) (x1:Int):Option Int := bif decide (x1<0) then some ((-1:Int)) else bif decide (x1>=x0.threads) then some ((-1:Int)) else match Zfy x0 with
 | some y1 => some (Zac .i64 (Zac .i64 (x0.items*y1)+Zac .i64 (2*x1)))
 | none=>none
def Zn2 (x:Config×Int):Option Int:=ZtJ x.1 x.2
def ZeD (x0:Thread):Option Bool :=
 some (x0.phase != 0)
def ZbE (x:Thread):Option Bool:=ZeD x
def Zh7 (x0:Int) (x1:Int):Option Bool := bif decide (0<=x0) then some (decide (x0<x1)) else some (false)
def ZdR (x:Int×Int):Option Bool:=Zh7 x.1 x.2
def ZnE (x0:Int):Option Bool := bif decide (1<=x0) then some (decide (x0<=9)) else some (false)
def Zlb (x:Int):Option Bool:=ZnE x
def Zm6 (x0:Op) (x1:Bool):Option Bool := bif !x1 then match Zlb x0.tag with
 | some y1 => bif y1 then some (decide (x0.tag<8)) else some (false)
 | none=>none else bif x0.tag == 9 then some (decide (x0.v>=0)) else some (x0.tag == 8)
def Zkf (x:Op×Bool):Option Bool:=Zm6 x.1 x.2
def ZiL (x0:Config) (x1:SEntry):Option Int := bif x1.kind == 1 then bif x1.kind == 1 then match ZdR (x1.t,x0.threads) with
 | some y1 => bif !y1 then some (91) else bif x1.kind == 2 then some (0) else match ZdR (x1.item,x0.items) with
  | some y2 => bif !y2 then some (92) else match Zkf (x1.op,x0.bounded) with
   | some y3 => bif !y3 then some (93) else some (0)
   | none=>none
  | none=>none
 | none=>none else bif x1.kind == 3 then some (0) else some (90) else bif x1.kind == 2 then match ZdR (x1.t,x0.threads) with
 | some y1 => bif !y1 then some (91) else bif x1.kind == 2 then some (0) else match ZdR (x1.item,x0.items) with
  | some y2 => bif !y2 then some (92) else match Zkf (x1.op,x0.bounded) with
   | some y3 => bif !y3 then some (93) else some (0)
   | none=>none
  | none=>none
 | none=>none else bif x1.kind == 3 then some (0) else some (90)
def ZgS (x:Config×SEntry):Option Int:=ZiL x.1 x.2
def ZiE (x0:List Thread):Option (List Thread) := bif fewB ((0:Nat)+x0.length) then some (x0) else none
def ZeY (x:(List Thread)):Option (List Thread):=ZiE x
def ZjA (x0:List Mark):Option (List Mark) := bif fewB ((0:Nat)+x0.length) then some (x0) else none
def ZfI (x:(List Mark)):Option (List Mark):=ZjA x
def ZjJ (x0:List Event):Option (List Event) := bif fewB ((0:Nat)+x0.length) then some (x0) else none
def ZfO (x:(List Event)):Option (List Event):=ZjJ x
def Ze8 (x0:Int) (x1:Int):Option Int := bif decide (x0<1) then some (0) else bif decide (Zac .i64 (x0-1)<0) then none else some (Zac .i64 (↑(BitVec.ofInt IntKind.i64.bits (Zac .i64 (1*2 ^ min (Zac .i64 (x0-1)).toNat IntKind.i64.bits)) ||| BitVec.ofInt IntKind.i64.bits (Zac .i64 (↑(BitVec.ofInt IntKind.i64.bits (x1.fdiv (2 ^ min (Int.toNat 1) IntKind.i64.bits)) &&& BitVec.ofInt IntKind.i64.bits (Zac .i64 (Zac .i64 (1*2 ^ min (Zac .i64 (x0-1)).toNat IntKind.i64.bits)-1))).toNat:Int))).toNat:Int))
def ZkA (x:Int×Int):Option Int:=Ze8 x.1 x.2
def ZiH (x0:Config) (x1:Int) (x2:Thread) (x3:Int) (x4:Op) (x5:Int):Option Thread := match ZkA (x0.depth,x1) with
 | some y1 => bif decide (x0.wait>0) then some (Thread.mk 1 x3 x4 (Entry.mk x1 x4::[]) ([]:List Kid) ([]:List Int) 0 y1 0 0 0 x2.width 0 0 0 (Zac .i64 (x5+x0.wait))) else some (Thread.mk 1 x3 x4 (Entry.mk x1 x4::[]) ([]:List Kid) ([]:List Int) 0 y1 0 0 0 x2.width 0 0 0 0)
 | none=>none
def ZgI (x:Config×Int×Thread×Int×Op×Int):Option Thread:=ZiH x.1 x.2.1 x.2.2.1 x.2.2.2.1 x.2.2.2.2.1 x.2.2.2.2.2
def ZdZ (x0:Config):Option Int := bif decide (x0.threads<1) then some (50) else bif decide (x0.threads>16) then some (50) else bif decide (x0.items<1) then some (51) else bif decide (x0.items>4) then some (51) else bif decide (x0.backend<1) then some (52) else bif decide (x0.backend>3) then some (52) else bif decide (x0.depth<0) then some (53) else bif decide (x0.depth>4) then some (53) else bif decide (x0.layers<0) then some (54) else bif decide (x0.layers>3) then some (54) else bif decide (x0.width<1) then some (55) else bif decide (x0.width>8) then some (55) else bif decide (x0.spin<0) then some (56) else bif decide (x0.spin>20) then some (56) else bif decide (x0.wait<0) then some (57) else bif decide (x0.wait>1000) then some (57) else bif x0.bounded then bif decide (x0.lo>x0.init) then some (58) else bif decide (x0.init>x0.hi) then some (58) else some (0) else some (0)
def ZfM (x:Config):Option Int:=ZdZ x
def ZlE (x0:Op) (x1:Bool):Option Bool := bif x1 then bif x0.tag == 8 then some (true) else bif x0.tag == 9 then some (decide (x0.v>=0)) else some (false) else bif decide (x0.tag>=1) then some (decide (x0.tag<=7)) else some (false)
def ZlW (x:Op×Bool):Option Bool:=ZlE x.1 x.2
def ZjT (x0:Config) (x1:SEntry):Option Int := bif decide (x1.kind<1) then some (90) else bif decide (x1.kind>3) then some (90) else bif x1.kind == 3 then some (0) else bif decide (x1.t<0) then some (91) else bif decide (x1.t>=x0.threads) then some (91) else bif x1.kind == 2 then some (0) else bif decide (x1.item<0) then some (92) else bif decide (x1.item>=x0.items) then some (92) else match ZlW (x1.op,x0.bounded) with
 | some y1 => bif !y1 then some (93) else some (0)
 | none=>none
def Zj6 (x:Config×SEntry):Option Int:=ZjT x.1 x.2
def ZfH (x0:List SEntry) (x1:Config) (x2:Int):Option (((List SEntry)×Config×Int)⊕((Unit)⊕(Int×Int))) := bif decide (x2<(↑x0.length:Int)) then bif decide (0<=x2) then bif decide (x2<(↑x0.length:Int)) then match Zj6 (x1,x0.getD x2.toNat ZaE) with
 | some y1 => bif y1 != 0 then some (Sum.inr (Sum.inr (x2,y1))) else some (Sum.inl (x0,x1,Zac .i64 (x2+1)))
 | none=>none else none else none else some (Sum.inr (Sum.inl ()))
def Zhh (x:(List SEntry)×Config×Int):Option (((List SEntry)×Config×Int)⊕((Unit)⊕(Int×Int))):=ZfH x.1 x.2.1 x.2.2
def ZjC (x:(List SEntry)×Config×Int):Option ((Unit)⊕(Int×Int)):=ZaA Zhh x
def Zlz (x0:Config) (x1:List SEntry):Option (Int×Int) := match ZfM x0 with
 | some y1 => bif y1 != 0 then some ((0,y1)) else bif decide ((↑x1.length:Int)>65536) then some ((0,2)) else match ZjC (x1,x0,0) with
  | some (.inl y2) => some ((0,0))
  | some (.inr y3) => some y3
  | none=>none
 | none=>none
def ZlL (x:Config×(List SEntry)):Option (Int×Int):=Zlz x.1 x.2
def Zvd (x0:Config):Option Bool := match ZfM x0 with
 | some y1 => some (y1 == 0)
 | none=>none
def ZpA (x:Config):Option Bool:=Zvd x
def Zs0 (x0:Config):Option Int :=
 some (Zac .i64 (Zac .i64 (20+Zac .i64 (8*x0.depth))+Zac .i64 (x0.layers*Zac .i64 (20+Zac .i64 (2*x0.spin)))))
def Znr (x:Config):Option Int:=Zs0 x
def ZrS (x0:Config):Option Int := match Znr x0 with
 | some y1 => some (Zac .i64 (Zac .i64 (Zac .i64 (4*x0.threads)*y1)+20))
 | none=>none
def Zmm (x:Config):Option Int:=ZrS x
def ZrB (x0:List SEntry) (x1:List SEntry) (x2:Int):Option (((List SEntry)×(List SEntry)×Int)⊕((Unit)⊕(Bool))) := bif decide (x2<(↑x0.length:Int)) then bif decide (0<=x2) then bif decide (x2<(↑x0.length:Int)) then bif decide (0<=x2) then bif decide (x2<(↑x1.length:Int)) then bif !((x0.getD x2.toNat ZaE).kind == (x1.getD x2.toNat ZaE).kind && ((x0.getD x2.toNat ZaE).t == (x1.getD x2.toNat ZaE).t && ((x0.getD x2.toNat ZaE).item == (x1.getD x2.toNat ZaE).item && ((x0.getD x2.toNat ZaE).op.tag == (x1.getD x2.toNat ZaE).op.tag && ((x0.getD x2.toNat ZaE).op.v == (x1.getD x2.toNat ZaE).op.v && true) && true)))) then some (Sum.inr (Sum.inr false)) else some (Sum.inl (x0,x1,Zac .i64 (x2+1))) else none else none else none else none else some (Sum.inr (Sum.inl ()))
def ZiI (x:(List SEntry)×(List SEntry)×Int):Option (((List SEntry)×(List SEntry)×Int)⊕((Unit)⊕(Bool))):=ZrB x.1 x.2.1 x.2.2
def ZrT (x:(List SEntry)×(List SEntry)×Int):Option ((Unit)⊕(Bool)):=ZaA ZiI x
def ZuV (x0:List SEntry) (x1:List SEntry):Option Bool := bif (↑x0.length:Int) != (↑x1.length:Int) then some (false) else match ZrT (x0,x1,0) with
 | some (.inl y1) => some (true)
 | some (.inr y2) => some y2
 | none=>none
def Zum (x:(List SEntry)×(List SEntry)):Option Bool:=ZuV x.1 x.2
def Zta (x0:List SEntry) (x1:List SEntry) (x2:Int):Option (((List SEntry)×(List SEntry)×Int)⊕(((List SEntry)))) := bif decide (x2<(↑x0.length:Int)) then bif decide (0<=x2) then bif decide (x2<(↑x0.length:Int)) then bif decide (0<=x2) then bif decide (x2<(↑x0.length:Int)) then bif decide (0<=x2) then bif decide (x2<(↑x0.length:Int)) then bif decide (0<=x2) then bif decide (x2<(↑x0.length:Int)) then bif fewB (x1.length+(x0.getD x2.toNat ZaE::[]).length) then some (Sum.inl (x0,x1++x0.getD x2.toNat ZaE::[],Zac .i64 (x2+1))) else none else none else none else none else none else none else none else none else none else some (Sum.inr x1)
def ZjM (x:(List SEntry)×(List SEntry)×Int):Option (((List SEntry)×(List SEntry)×Int)⊕(((List SEntry)))):=Zta x.1 x.2.1 x.2.2
def Zs8 (x:(List SEntry)×(List SEntry)×Int):Option (((List SEntry))):=ZaA ZjM x
def ZvJ (x0:List SEntry):Option (List SEntry) := match Zs8 (x0,([]:List SEntry),0) with
 | some y1 => some y1
 | none=>none
def ZvI (x:(List SEntry)):Option (List SEntry):=ZvJ x
def ZpJ (x0:Int) (x1:Config) (x2:List SEntry) (x3:Int) (x4:Int):Option ((Int×Config×(List SEntry)×Int×Int)⊕((Int×Config×(List SEntry)×Int)⊕((List SEntry)))) := bif decide (x4<x1.threads) then bif (↑x2.length:Int) == 65536 then some (Sum.inr (Sum.inr x2)) else bif fewB (x2.length+(SEntry.mk 2 x4 0 (Op.mk 0 0)::[]).length) then some (Sum.inl (x0,x1,x2++SEntry.mk 2 x4 0 (Op.mk 0 0)::[],x3,Zac .i64 (x4+1))) else none else some (Sum.inr (Sum.inl (x0,x1,x2,x3)))
def Zhp (x:Int×Config×(List SEntry)×Int×Int):Option ((Int×Config×(List SEntry)×Int×Int)⊕((Int×Config×(List SEntry)×Int)⊕((List SEntry)))):=ZpJ x.1 x.2.1 x.2.2.1 x.2.2.2.1 x.2.2.2.2
def ZpS (x:Int×Config×(List SEntry)×Int×Int):Option ((Int×Config×(List SEntry)×Int)⊕((List SEntry))):=ZaA Zhp x
def Zp1 (x0:Int) (x1:Config) (x2:List SEntry) (x3:Int):Option ((Int×Config×(List SEntry)×Int)⊕(((List SEntry))⊕((List SEntry)))) := bif decide (x3<x0) then match ZpS (x0,x1,x2,x3,0) with
 | some (.inl y1) => some (Sum.inl (y1.fst,y1.snd.fst,y1.snd.snd.fst,Zac .i64 (y1.snd.snd.snd+1)))
 | some (.inr y2) => some (Sum.inr (Sum.inr y2))
 | none=>none else some (Sum.inr (Sum.inl x2))
def ZhD (x:Int×Config×(List SEntry)×Int):Option ((Int×Config×(List SEntry)×Int)⊕(((List SEntry))⊕((List SEntry)))):=Zp1 x.1 x.2.1 x.2.2.1 x.2.2.2
def ZpT (x:Int×Config×(List SEntry)×Int):Option (((List SEntry))⊕((List SEntry))):=ZaA ZhD x
def Zrz (x0:Config) (x1:Int):Option (List SEntry) := match ZpT (x1,x0,([]:List SEntry),0) with
 | some (.inl y1) => some y1
 | some (.inr y2) => some y2
 | none=>none
def Zmj (x:Config×Int):Option (List SEntry):=Zrz x.1 x.2
def Zs4 (x0:Config):Option (List SEntry) := match Zmj (x0,1) with
 | some y1 => some y1
 | none=>none
def Ztc (x:Config):Option (List SEntry):=Zs4 x
def ZqD (x0:List SEntry) (x1:Int) (x2:Int):Option (((List SEntry)×Int×Int)⊕(((List SEntry))⊕((List SEntry)))) := bif decide (x2<x1) then bif decide (0<=Zac .i64 (Zac .i64 ((↑x0.length:Int)-x2)-1)) then bif decide (Zac .i64 (Zac .i64 ((↑x0.length:Int)-x2)-1)<(↑x0.length:Int)) then bif (x0.getD (Zac .i64 (Zac .i64 ((↑x0.length:Int)-x2)-1)).toNat ZaE).kind == 1 then bif decide (0<=Zac .i64 ((↑x0.length:Int)-x2)) then bif decide (Zac .i64 ((↑x0.length:Int)-x2)<=(↑x0.length:Int)) then bif decide ((↑x0.length:Int)<=(↑x0.length:Int)) then some (Sum.inr (Sum.inr (List.drop (Zac .i64 ((↑x0.length:Int)-x2)).toNat (List.take (↑x0.length:Int).toNat x0)))) else none else none else none else some (Sum.inl (x0,x1,Zac .i64 (x2+1))) else none else none else some (Sum.inr (Sum.inl x0))
def Zip (x:(List SEntry)×Int×Int):Option (((List SEntry)×Int×Int)⊕(((List SEntry))⊕((List SEntry)))):=ZqD x.1 x.2.1 x.2.2
def Zqg (x:(List SEntry)×Int×Int):Option (((List SEntry))⊕((List SEntry))):=ZaA Zip x
def ZsY (x0:List SEntry):Option (List SEntry) := match Zqg (x0,(↑x0.length:Int),0) with
 | some (.inl y1) => some y1
 | some (.inr y2) => some y2
 | none=>none
def Znh (x:(List SEntry)):Option (List SEntry):=ZsY x
def ZrJ (x0:Config) (x1:Int) (x2:Int) (x3:List SEntry) (x4:Int) (x5:Int):Option ((Config×Int×Int×(List SEntry)×Int×Int)⊕((Int))) := bif decide (x5<x4) then bif decide (0<=x5) then bif decide (x5<(↑x3.length:Int)) then bif (x3.getD x5.toNat ZaE).kind != 2 then some (Sum.inl (x0,x1,x2,x3,x4,Zac .i64 (x5+1))) else bif (x3.getD x5.toNat ZaE).t != x2 then some (Sum.inr x1) else bif Zac .i64 (x2+1) == x0.threads then some (Sum.inl (x0,Zac .i64 (x1+1),0,x3,x4,Zac .i64 (x5+1))) else some (Sum.inl (x0,x1,Zac .i64 (x2+1),x3,x4,Zac .i64 (x5+1))) else none else none else some (Sum.inr x1)
def Zix (x:Config×Int×Int×(List SEntry)×Int×Int):Option ((Config×Int×Int×(List SEntry)×Int×Int)⊕((Int))):=ZrJ x.1 x.2.1 x.2.2.1 x.2.2.2.1 x.2.2.2.2.1 x.2.2.2.2.2
def ZrK (x:Config×Int×Int×(List SEntry)×Int×Int):Option Int:=ZaA Zix x
def Zto (x0:Config) (x1:List SEntry):Option Int := match Znh x1 with
 | some y1 => match ZrK (x0,0,0,y1,(↑(List.length y1):Int),0) with
  | some y2 => some y2
  | none=>none
 | none=>none
def ZhN (x:Config×(List SEntry)):Option Int:=Zto x.1 x.2
def Zqo (x0:List SEntry) (x1:Config) (x2:Int) (x3:Int):Option (((List SEntry)×Config×Int×Int)⊕((Config×Int))) := bif decide (x3<(↑x0.length:Int)) then bif decide (0<=x3) then bif decide (x3<(↑x0.length:Int)) then bif (x0.getD x3.toNat ZaE).kind != 2 then some (Sum.inl (x0,x1,x2,Zac .i64 (x3+1))) else bif decide (0<=x3) then bif decide (x3<(↑x0.length:Int)) then bif decide (x1.threads=0) then none else bif (x0.getD x3.toNat ZaE).t != x2.tmod x1.threads then some (Sum.inr (x1,x2)) else some (Sum.inl (x0,x1,Zac .i64 (x2+1),Zac .i64 (x3+1))) else none else none else none else none else some (Sum.inr (x1,x2))
def Zh9 (x:(List SEntry)×Config×Int×Int):Option (((List SEntry)×Config×Int×Int)⊕((Config×Int))):=Zqo x.1 x.2.1 x.2.2.1 x.2.2.2
def Zqk (x:(List SEntry)×Config×Int×Int):Option (Config×Int):=ZaA Zh9 x
def ZqY (x0:List SEntry) (x1:Config) (x2:Int) (x3:Int):Option (((List SEntry)×Config×Int×Int)⊕(((List SEntry)×Config×Int))) := bif decide (x3<(↑x0.length:Int)) then bif decide (0<=x3) then bif decide (x3<(↑x0.length:Int)) then bif (x0.getD x3.toNat ZaE).kind == 1 then some (Sum.inl (x0,x1,Zac .i64 (x3+1),Zac .i64 (x3+1))) else some (Sum.inl (x0,x1,x2,Zac .i64 (x3+1))) else none else none else some (Sum.inr (x0,x1,x2))
def ZhZ (x:(List SEntry)×Config×Int×Int):Option (((List SEntry)×Config×Int×Int)⊕(((List SEntry)×Config×Int))):=ZqY x.1 x.2.1 x.2.2.1 x.2.2.2
def ZqR (x:(List SEntry)×Config×Int×Int):Option (((List SEntry)×Config×Int)):=ZaA ZhZ x
def ZsZ (x0:Config) (x1:List SEntry):Option Int := match ZqR (x1,x0,0,0) with
 | some y1 => match Zqk (y1.fst,y1.snd.fst,0,y1.snd.snd) with
  | some y2 => bif decide (y2.fst.threads=0) then none else some (Zac .i64 (Int.tdiv y2.snd y2.fst.threads))
  | none=>none
 | none=>none
def Znd (x:Config×(List SEntry)):Option Int:=ZsZ x.1 x.2
def Zvu (x0:Config) (x1:List SEntry):Option Bool := match Zdh x0 with
 | some y1 => match ZhN (x0,x1) with
  | some y2 => some (decide (y1<=y2))
  | none=>none
 | none=>none
def ZfY (x:Config×(List SEntry)):Option Bool:=Zvu x.1 x.2
def Zug (x0:Config) (x1:List SEntry):Option Bool := match Znd (x0,x1) with
 | some y1 => match Zmm x0 with
  | some y2 => some (decide (y1>=y2))
  | none=>none
 | none=>none
def Zux (x:Config×(List SEntry)):Option Bool:=Zug x.1 x.2
def Zfa (x0:Int) (x1:List Thread) (x2:Int) (x3:Int):Option ((Int×(List Thread)×Int×Int)⊕((Int))) := bif decide (x3<x2) then bif decide (0<=x3) then bif decide (x3<(↑x1.length:Int)) then match ZbE (x1.getD x3.toNat Zaw) with
 | some y1 => bif y1 then some (Sum.inl (Zac .i64 (x0+1),x1,x2,Zac .i64 (x3+1))) else some (Sum.inl (x0,x1,x2,Zac .i64 (x3+1)))
 | none=>none else none else none else some (Sum.inr x0)
def ZgW (x:Int×(List Thread)×Int×Int):Option ((Int×(List Thread)×Int×Int)⊕((Int))):=Zfa x.1 x.2.1 x.2.2.1 x.2.2.2
def ZiZ (x:Int×(List Thread)×Int×Int):Option Int:=ZaA ZgW x
def ZkO (x0:Wld):Option Int := match ZiZ (0,x0.t,(↑x0.t.length:Int),0) with
 | some y1 => some y1
 | none=>none
def Ze1 (x:Wld):Option Int:=ZkO x
def ZuJ (x0:Config) (x1:Int):Option Int := bif decide (x1<0) then some ((-1:Int)) else bif decide (x1>=x0.items) then some ((-1:Int)) else match Zfy x0 with
 | some y1 => some (Zac .i64 (x1*y1))
 | none=>none
def Zuh (x:Config×Int):Option Int:=ZuJ x.1 x.2
def Zg6 (x0:Int) (x1:Int):Option (Int×Bool) :=
 some ((Zac .i64 (x0+x1),decide (x1>=0) == decide (Zac .i64 (x0+x1)>=x0)))
def Zg8 (x:Int×Int):Option (Int×Bool):=Zg6 x.1 x.2
def ZcQ (x0:Op) (x1:Int) (x2:Int) (x3:Int):Option (Int×Bool) := bif x0.tag == 1 then some ((Zac .i64 (x1+x0.v),true)) else bif x0.tag == 2 then some ((Zac .i64 (x1-x0.v),true)) else bif x0.tag == 3 then some ((Zac .i64 (↑(BitVec.ofInt IntKind.i64.bits x1 ||| BitVec.ofInt IntKind.i64.bits x0.v).toNat:Int),true)) else bif x0.tag == 4 then some ((Zac .i64 (↑(BitVec.ofInt IntKind.i64.bits x1 &&& BitVec.ofInt IntKind.i64.bits x0.v).toNat:Int),true)) else bif x0.tag == 5 then some ((if x0.v>x1 then x0.v else x1,true)) else bif x0.tag == 6 then some ((if x0.v<x1 then x0.v else x1,true)) else bif x0.tag == 7 then some ((x0.v,true)) else bif x0.tag == 8 then match Zg8 (x1,x0.v) with
 | some y1 => bif !y1.snd then some ((x1,false)) else bif decide (y1.fst<x2) then some ((x1,false)) else bif decide (y1.fst>x3) then some ((x1,false)) else some ((y1.fst,true))
 | none=>none else bif x0.tag == 9 then bif decide (x0.v<0) then some ((x1,false)) else bif decide (x1<x2) then some ((x1,false)) else bif decide (IntKind.u64.wrap x0.v>=Zac IntKind.u64 (IntKind.u64.wrap x1-IntKind.u64.wrap x2)) then some ((x2,true)) else some ((Zac .i64 (x1-x0.v),true)) else some ((x1,false))
def ZsX (x:Op×Int×Int×Int):Option (Int×Bool):=ZcQ x.1 x.2.1 x.2.2.1 x.2.2.2
def ZpO (x0:Config) (x1:Int×Int×Int×Int×Int×Int×Int×Int×Int×Int×Int×Int×Int×Int×Int×Int×Int×Int×Int×Int×Int×Int×Int×Int) (x2:Int):Option ((Config×(Int×Int×Int×Int×Int×Int×Int×Int×Int×Int×Int×Int×Int×Int×Int×Int×Int×Int×Int×Int×Int×Int×Int×Int)×Int)⊕((Config)⊕(Int))) := bif decide (x2<8) then bif decide (0<=x2) then bif decide (x2<(↑(8:Nat):Int)) then bif decide (x2=(↑(0:Nat):Int)) then bif decide (x1.fst<x1.snd.fst) then some (Sum.inr (Sum.inr (Zac .i64 (50+x2)))) else bif decide (x1.fst>x1.snd.snd.fst) then some (Sum.inr (Sum.inr (Zac .i64 (50+x2)))) else some (Sum.inl (x0,x1,Zac .i64 (x2+1))) else bif decide (x2=(↑((0:Nat)+(1:Nat)):Int)) then bif decide (x1.snd.snd.snd.fst<x1.snd.snd.snd.snd.fst) then some (Sum.inr (Sum.inr (Zac .i64 (50+x2)))) else bif decide (x1.snd.snd.snd.fst>x1.snd.snd.snd.snd.snd.fst) then some (Sum.inr (Sum.inr (Zac .i64 (50+x2)))) else some (Sum.inl (x0,x1,Zac .i64 (x2+1))) else bif decide (x2=(↑((0:Nat)+(1:Nat)+(1:Nat)):Int)) then bif decide (x1.snd.snd.snd.snd.snd.snd.fst<x1.snd.snd.snd.snd.snd.snd.snd.fst) then some (Sum.inr (Sum.inr (Zac .i64 (50+x2)))) else bif decide (x1.snd.snd.snd.snd.snd.snd.fst>x1.snd.snd.snd.snd.snd.snd.snd.snd.fst) then some (Sum.inr (Sum.inr (Zac .i64 (50+x2)))) else some (Sum.inl (x0,x1,Zac .i64 (x2+1))) else bif decide (x2=(↑((0:Nat)+(1:Nat)+(1:Nat)+(1:Nat)):Int)) then bif decide (x1.snd.snd.snd.snd.snd.snd.snd.snd.snd.fst<x1.snd.snd.snd.snd.snd.snd.snd.snd.snd.snd.fst) then some (Sum.inr (Sum.inr (Zac .i64 (50+x2)))) else bif decide (x1.snd.snd.snd.snd.snd.snd.snd.snd.snd.fst>x1.snd.snd.snd.snd.snd.snd.snd.snd.snd.snd.snd.fst) then some (Sum.inr (Sum.inr (Zac .i64 (50+x2)))) else some (Sum.inl (x0,x1,Zac .i64 (x2+1))) else bif decide (x2=(↑((0:Nat)+(1:Nat)+(1:Nat)+(1:Nat)+(1:Nat)):Int)) then bif decide (x1.snd.snd.snd.snd.snd.snd.snd.snd.snd.snd.snd.snd.fst<x1.snd.snd.snd.snd.snd.snd.snd.snd.snd.snd.snd.snd.snd.fst) then some (Sum.inr (Sum.inr (Zac .i64 (50+x2)))) else bif decide (x1.snd.snd.snd.snd.snd.snd.snd.snd.snd.snd.snd.snd.fst>x1.snd.snd.snd.snd.snd.snd.snd.snd.snd.snd.snd.snd.snd.snd.fst) then some (Sum.inr (Sum.inr (Zac .i64 (50+x2)))) else some (Sum.inl (x0,x1,Zac .i64 (x2+1))) else bif decide (x2=(↑((0:Nat)+(1:Nat)+(1:Nat)+(1:Nat)+(1:Nat)+(1:Nat)):Int)) then bif decide (x1.snd.snd.snd.snd.snd.snd.snd.snd.snd.snd.snd.snd.snd.snd.snd.fst<x1.snd.snd.snd.snd.snd.snd.snd.snd.snd.snd.snd.snd.snd.snd.snd.snd.fst) then some (Sum.inr (Sum.inr (Zac .i64 (50+x2)))) else bif decide (x1.snd.snd.snd.snd.snd.snd.snd.snd.snd.snd.snd.snd.snd.snd.snd.fst>x1.snd.snd.snd.snd.snd.snd.snd.snd.snd.snd.snd.snd.snd.snd.snd.snd.snd.fst) then some (Sum.inr (Sum.inr (Zac .i64 (50+x2)))) else some (Sum.inl (x0,x1,Zac .i64 (x2+1))) else bif decide (x2=(↑((0:Nat)+(1:Nat)+(1:Nat)+(1:Nat)+(1:Nat)+(1:Nat)+(1:Nat)):Int)) then bif decide (x1.snd.snd.snd.snd.snd.snd.snd.snd.snd.snd.snd.snd.snd.snd.snd.snd.snd.snd.fst<x1.snd.snd.snd.snd.snd.snd.snd.snd.snd.snd.snd.snd.snd.snd.snd.snd.snd.snd.snd.fst) then some (Sum.inr (Sum.inr (Zac .i64 (50+x2)))) else bif decide (x1.snd.snd.snd.snd.snd.snd.snd.snd.snd.snd.snd.snd.snd.snd.snd.snd.snd.snd.fst>x1.snd.snd.snd.snd.snd.snd.snd.snd.snd.snd.snd.snd.snd.snd.snd.snd.snd.snd.snd.snd.fst) then some (Sum.inr (Sum.inr (Zac .i64 (50+x2)))) else some (Sum.inl (x0,x1,Zac .i64 (x2+1))) else bif decide (x2=(↑((0:Nat)+(1:Nat)+(1:Nat)+(1:Nat)+(1:Nat)+(1:Nat)+(1:Nat)+(1:Nat)):Int)) then bif decide (x1.snd.snd.snd.snd.snd.snd.snd.snd.snd.snd.snd.snd.snd.snd.snd.snd.snd.snd.snd.snd.snd.fst<x1.snd.snd.snd.snd.snd.snd.snd.snd.snd.snd.snd.snd.snd.snd.snd.snd.snd.snd.snd.snd.snd.snd.fst) then some (Sum.inr (Sum.inr (Zac .i64 (50+x2)))) else bif decide (x1.snd.snd.snd.snd.snd.snd.snd.snd.snd.snd.snd.snd.snd.snd.snd.snd.snd.snd.snd.snd.snd.fst>x1.snd.snd.snd.snd.snd.snd.snd.snd.snd.snd.snd.snd.snd.snd.snd.snd.snd.snd.snd.snd.snd.snd.snd) then some (Sum.inr (Sum.inr (Zac .i64 (50+x2)))) else some (Sum.inl (x0,x1,Zac .i64 (x2+1))) else none else none else none else some (Sum.inr (Sum.inl x0))
def Zeu (x:Config×(Int×Int×Int×Int×Int×Int×Int×Int×Int×Int×Int×Int×Int×Int×Int×Int×Int×Int×Int×Int×Int×Int×Int×Int)×Int):Option ((Config×(Int×Int×Int×Int×Int×Int×Int×Int×Int×Int×Int×Int×Int×Int×Int×Int×Int×Int×Int×Int×Int×Int×Int×Int)×Int)⊕((Config)⊕(Int))):=ZpO x.1 x.2.1 x.2.2
def ZcY (x:Config×(Int×Int×Int×Int×Int×Int×Int×Int×Int×Int×Int×Int×Int×Int×Int×Int×Int×Int×Int×Int×Int×Int×Int×Int)×Int):Option ((Config)⊕(Int)):=ZaA Zeu x
def Ziw (x0:Config):Option Int := match ZcY (x0,(x0.threads,1,16,x0.items,1,4,x0.backend,1,3,x0.depth,0,4,x0.layers,0,3,x0.width,1,8,x0.spin,0,20,x0.wait,0,1000),0) with
 | some (.inl y1) => bif y1.bounded then bif decide (y1.init<y1.lo) then some (58) else bif decide (y1.hi<y1.init) then some (58) else some (0) else some (0)
 | some (.inr y2) => some y2
 | none=>none
def Zdo (x:Config):Option Int:=Ziw x
def Ze7 (x0:Config) (x1:List SEntry) (x2:Int) (x3:Int):Option ((Config×(List SEntry)×Int×Int)⊕((Unit)⊕(Int×Int))) := bif decide (x3<x2) then bif decide (0<=x3) then bif decide (x3<(↑x1.length:Int)) then match ZgS (x0,x1.getD x3.toNat ZaE) with
 | some y1 => bif y1 != 0 then some (Sum.inr (Sum.inr (x3,y1))) else some (Sum.inl (x0,x1,x2,Zac .i64 (x3+1)))
 | none=>none else none else none else some (Sum.inr (Sum.inl ()))
def ZgQ (x:Config×(List SEntry)×Int×Int):Option ((Config×(List SEntry)×Int×Int)⊕((Unit)⊕(Int×Int))):=Ze7 x.1 x.2.1 x.2.2.1 x.2.2.2
def ZiU (x:Config×(List SEntry)×Int×Int):Option ((Unit)⊕(Int×Int)):=ZaA ZgQ x
def ZkL (x0:Config) (x1:List SEntry):Option (Int×Int) := match Zdo x0 with
 | some y1 => bif y1 != 0 then some ((0,y1)) else bif decide ((↑x1.length:Int)>65536) then some ((0,2)) else match ZiU (x0,x1,(↑x1.length:Int),0) with
  | some (.inl y2) => some ((0,0))
  | some (.inr y3) => some y3
  | none=>none
 | none=>none
def Zgc (x:Config×(List SEntry)):Option (Int×Int):=ZkL x.1 x.2
def ZjS (x0:Config):Option Int := bif decide (x0.depth<0) then none else some (Zac .i64 (Zac .i64 (1*2 ^ min x0.depth.toNat IntKind.i64.bits)-1))
def ZfA (x:Config):Option Int:=ZjS x
def Zmx (x0:Config):Option Plan := match ZfA x0 with
 | some y1 => some (Plan.mk 1 (Zac .i64 (1+y1)) (Zac .i64 (Zac .i64 (1+y1)+Zac .i64 (x0.layers*x0.width))) (Zac .i64 (x0.items*Zac .i64 (Zac .i64 (1+y1)+Zac .i64 (x0.layers*x0.width)))))
 | none=>none
def Zcl (x:Config):Option Plan:=Zmx x
def Zgj (x0:Config) (x1:Int):Option Int := bif decide (x1<0) then some ((-1:Int)) else bif decide (x1>=x0.items) then some ((-1:Int)) else match Zcl x0 with
 | some y1 => some (Zac .i64 (x1*y1.block))
 | none=>none
def ZcM (x:Config×Int):Option Int:=Zgj x.1 x.2
def Zlg (x0:Int):Option (List Int) := bif decide (x0<1) then some (([]:List Int)) else bif decide (x0>10000) then some (([]:List Int)) else bif x0 == x0 then bif decide (0<=x0) then bif decide (x0<=Zbt) then some (List.replicate x0.toNat 0) else none else none else none
def ZhM (x:Int):Option (List Int):=Zlg x
def Zgd (x0:Int):Option ((List (List Entry))) := bif decide (x0<1) then some (([]:List (List Entry))) else bif decide (x0>10000) then some (([]:List (List Entry))) else bif x0 == x0 then bif decide (0<=x0) then bif decide (x0<=Zbt) then some (List.replicate x0.toNat ([]:List Entry)) else none else none else none
def Zem (x:Int):Option ((List (List Entry))):=Zgd x
def ZmZ (x0:Int) (x1:Int):Option Memo := match ZhM x0 with
 | some y1 => match Zem x1 with
  | some y2 => some (Memo.mk y1 y2)
  | none=>none
 | none=>none
def ZmO (x:Int×Int):Option Memo:=ZmZ x.1 x.2
def Zkx (x0:Config):Option Int := match Zcl x0 with
 | some y1 => some (Zac .i64 (y1.lines+Zac .i64 (2*x0.threads)))
 | none=>none
def ZkD (x:Config):Option Int:=Zkx x
def ZeH (x0:Config) (x1:Memo) (x2:Memo) (x3:Int) (x4:Int):Option ((Config×Memo×Memo×Int×Int)⊕((Memo×Memo))) := bif decide (x4<x3) then match ZcM (x0,x4) with
 | some y1 => bif decide (0<=y1) then bif decide (y1<(↑x2.words.length:Int)) then some (Sum.inl (x0,x1,{ x2 with words:=x2.words.set (Int.toNat y1) x0.init },x3,Zac .i64 (x4+1))) else none else none
 | none=>none else some (Sum.inr (x1,x2))
def Zf3 (x:Config×Memo×Memo×Int×Int):Option ((Config×Memo×Memo×Int×Int)⊕((Memo×Memo))):=ZeH x.1 x.2.1 x.2.2.1 x.2.2.2.1 x.2.2.2.2
def Zld (x:Config×Memo×Memo×Int×Int):Option (Memo×Memo):=ZaA Zf3 x
def ZjV (x0:Config):Option Memo := match ZkD x0 with
 | some y1 => match ZmO (y1,x0.threads) with
  | some y2 => match Zld (x0,Memo.mk ([]:List Int) ([]:List (List Entry)),y2,x0.items,0) with
   | some y3 => some (y3.snd)
   | none=>none
  | none=>none
 | none=>none
def Zj3 (x:Config):Option Memo:=ZjV x
def Ztw:Option Thread :=
 some (Thread.mk 0 0 (Op.mk 0 0) ([]:List Entry) ([]:List Kid) ([]:List Int) 0 0 0 0 0 1 0 0 0 0)
def Zky (x:Unit):Option Thread:=Ztw
def ZdF (x0:List Int):Option (List Int) := bif fewB ((0:Nat)+x0.length) then some (x0) else none
def Zbs (x:(List Int)):Option (List Int):=ZdF x
def Zs7 (x0:Int):Option Int := bif x0 == 1 then some (12) else bif x0 == 2 then some (2) else some (1)
def ZjL (x:Int):Option Int:=Zs7 x
def ZfK (x0:List Int) (x1:Int):Option (Int×Int) := bif decide (x1<0) then some ((0,30)) else bif decide (x1>=(↑x0.length:Int)) then some ((0,30)) else bif decide (0<=x1) then bif decide (x1<(↑x0.length:Int)) then some ((x0.getD x1.toNat 0,0)) else none else none
def ZbD (x:(List Int)×Int):Option (Int×Int):=ZfK x.1 x.2
def ZfV (x0:Memo) (x1:Int):Option (Int×Int) := match ZbD (x0.words,x1) with
 | some y1 => some y1
 | none=>none
def ZbX (x:Memo×Int):Option (Int×Int):=ZfV x.1 x.2
def Zo9 (x0:Int) (x1:Int):Option (Int×Int) :=
 some ((Zac IntKind.u64 (Zac IntKind.u64 (Zac IntKind.u64 (x0.fdiv (2 ^ min (Int.toNat 32) IntKind.u64.bits)*x1.fdiv (2 ^ min (Int.toNat 32) IntKind.u64.bits))+(Zac IntKind.u64 (Zac IntKind.u64 (x0.fdiv (2 ^ min (Int.toNat 32) IntKind.u64.bits)*Zac IntKind.u64 (↑(BitVec.ofInt IntKind.u64.bits x1 &&& BitVec.ofInt IntKind.u64.bits 4294967295).toNat:Int))+(Zac IntKind.u64 (Zac IntKind.u64 (↑(BitVec.ofInt IntKind.u64.bits x0 &&& BitVec.ofInt IntKind.u64.bits 4294967295).toNat:Int)*Zac IntKind.u64 (↑(BitVec.ofInt IntKind.u64.bits x1 &&& BitVec.ofInt IntKind.u64.bits 4294967295).toNat:Int))).fdiv (2 ^ min (Int.toNat 32) IntKind.u64.bits))).fdiv (2 ^ min (Int.toNat 32) IntKind.u64.bits))+(Zac IntKind.u64 (Zac IntKind.u64 (↑(BitVec.ofInt IntKind.u64.bits (Zac IntKind.u64 (Zac IntKind.u64 (x0.fdiv (2 ^ min (Int.toNat 32) IntKind.u64.bits)*Zac IntKind.u64 (↑(BitVec.ofInt IntKind.u64.bits x1 &&& BitVec.ofInt IntKind.u64.bits 4294967295).toNat:Int))+(Zac IntKind.u64 (Zac IntKind.u64 (↑(BitVec.ofInt IntKind.u64.bits x0 &&& BitVec.ofInt IntKind.u64.bits 4294967295).toNat:Int)*Zac IntKind.u64 (↑(BitVec.ofInt IntKind.u64.bits x1 &&& BitVec.ofInt IntKind.u64.bits 4294967295).toNat:Int))).fdiv (2 ^ min (Int.toNat 32) IntKind.u64.bits))) &&& BitVec.ofInt IntKind.u64.bits 4294967295).toNat:Int)+Zac IntKind.u64 (Zac IntKind.u64 (↑(BitVec.ofInt IntKind.u64.bits x0 &&& BitVec.ofInt IntKind.u64.bits 4294967295).toNat:Int)*x1.fdiv (2 ^ min (Int.toNat 32) IntKind.u64.bits)))).fdiv (2 ^ min (Int.toNat 32) IntKind.u64.bits)),Zac IntKind.u64 (x0*x1)))
def Zj8 (x:Int×Int):Option (Int×Int):=Zo9 x.1 x.2
def Zq3 (x0:Int) (x1:Int):Option (Int×Int) := match Zj8 (x0,x1) with
 | some y1 => some y1
 | none=>none
def ZdT (x:Int×Int):Option (Int×Int):=Zq3 x.1 x.2
def Zni (x0:Int) (x1:Int) (x2:Int) (x3:Int):Option Bool := bif decide (x1>=0) then bif decide (Zac .i64 (x0+x1)>=x0) then bif decide (Zac .i64 (x0+x1)<x2) then some (true) else some (decide (Zac .i64 (x0+x1)>x3)) else bif decide (x1<0) then bif decide (Zac .i64 (x0+x1)<x0) then bif decide (Zac .i64 (x0+x1)<x2) then some (true) else some (decide (Zac .i64 (x0+x1)>x3)) else some (true) else some (true) else bif decide (x1<0) then bif decide (Zac .i64 (x0+x1)<x0) then bif decide (Zac .i64 (x0+x1)<x2) then some (true) else some (decide (Zac .i64 (x0+x1)>x3)) else some (true) else some (true)
def ZjH (x:Int×Int×Int×Int):Option Bool:=Zni x.1 x.2.1 x.2.2.1 x.2.2.2
def Zim (x0:Op) (x1:Int) (x2:Int) (x3:Int):Option (Int×Bool) := bif x0.tag == 2 then some ((Zac .i64 (x1+Zac .i64 (0-x0.v)),true)) else bif x0.tag == 1 then some ((Zac .i64 (x1+x0.v),true)) else bif x0.tag == 3 then some ((Zac .i64 (↑(BitVec.ofInt IntKind.i64.bits x1 ||| BitVec.ofInt IntKind.i64.bits x0.v).toNat:Int),true)) else bif x0.tag == 4 then some ((Zac .i64 (↑(BitVec.ofInt IntKind.i64.bits x1 &&& BitVec.ofInt IntKind.i64.bits x0.v).toNat:Int),true)) else bif x0.tag == 5 then some ((if x1>x0.v then x1 else x0.v,true)) else bif x0.tag == 6 then some ((if x1<x0.v then x1 else x0.v,true)) else bif x0.tag == 7 then some ((x0.v,true)) else bif x0.tag == 9 then bif decide (x0.v<0) then some ((x1,false)) else bif decide (x1<x2) then some ((x1,false)) else bif decide (Zac .i64 (x1-x0.v)<=x1) then bif decide (Zac .i64 (x1-x0.v)>=x2) then some ((Zac .i64 (x1-x0.v),true)) else some ((x2,true)) else some ((x2,true)) else bif x0.tag == 8 then match ZjH (x1,x0.v,x2,x3) with
 | some y1 => bif !y1 then some ((Zac .i64 (x1+x0.v),true)) else some ((x1,false))
 | none=>none else some ((x1,false))
def Zcf (x:Op×Int×Int×Int):Option (Int×Bool):=Zim x.1 x.2.1 x.2.2.1 x.2.2.2
def Zgo (x0:Memo) (x1:Int) (x2:Int):Option (Memo×Int) := match ZbD (x0.words,x1) with
 | some y1 => bif y1.snd != 0 then some ((x0,y1.snd)) else match Zbs x0.words with
  | some y2 => bif decide (0<=x1) then bif decide (x1<(↑(List.length y2):Int)) then some (({ x0 with words:=List.set y2 x1.toNat x2 },y1.snd)) else none else none
  | none=>none
 | none=>none
def Zb5 (x:Memo×Int×Int):Option (Memo×Int):=Zgo x.1 x.2.1 x.2.2
def Zks (x0:Config) (x1:Int):Option Int := bif decide (x1<0) then some ((-1:Int)) else bif decide (x1>=x0.threads) then some ((-1:Int)) else match Zcl x0 with
 | some y1 => some (Zac .i64 (y1.lines+Zac .i64 (2*x1)))
 | none=>none
def Zc5 (x:Config×Int):Option Int:=Zks x.1 x.2
def ZhK (x0:Turn):Option Turn := bif x0.c.backend == 2 then bif decide (x0.c.depth>0) then some ({ x0 with th:={ x0.th with phase:=4 } }) else bif x0.c.backend == 3 then bif decide (x0.c.layers>0) then some ({ x0 with th:={ x0.th with phase:=17,layer:=1 } }) else some ({ x0 with th:={ x0.th with phase:=2 } }) else some ({ x0 with th:={ x0.th with phase:=2 } }) else bif x0.c.backend == 3 then bif decide (x0.c.layers>0) then some ({ x0 with th:={ x0.th with phase:=17,layer:=1 } }) else some ({ x0 with th:={ x0.th with phase:=2 } }) else some ({ x0 with th:={ x0.th with phase:=2 } })
def Zin (x:Turn):Option Turn:=ZhK x
def ZhX (x0:Turn):Option (Turn×Bool) := bif x0.th.phase != 1 then some ((x0,false)) else match Zc5 (x0.c,x0.t) with
 | some y1 => match Zb5 (x0.m,y1,0) with
  | some y2 => bif y2.snd != 0 then some ((x0,true)) else match Zin { x0 with m:=y2.fst } with
   | some y3 => some ((y3,true))
   | none=>none
  | none=>none
 | none=>none
def ZhY (x:Turn):Option (Turn×Bool):=ZhX x
def Zk1 (x0:Config) (x1:Int) (x2:Int):Option Int := bif decide (x1<0) then some ((-1:Int)) else bif decide (x1>=x0.items) then some ((-1:Int)) else match ZfA x0 with
 | some y1 => bif decide (x2<1) then some ((-1:Int)) else bif decide (x2>=Zac .i64 (1+y1)) then some ((-1:Int)) else match Zcl x0 with
  | some y2 => some (Zac .i64 (Zac .i64 (x1*y2.block)+x2))
  | none=>none
 | none=>none
def Zek (x:Config×Int×Int):Option Int:=Zk1 x.1 x.2.1 x.2.2
def Zdq (x0:Said):Option Int :=
 some (Zac .i64 (Zac .i64 (8*Zac .i64 (x0.n+1))+x0.kind))
def ZbQ (x:Said):Option Int:=Zdq x
def Zk8 (x0:Int):Option Int := match ZbQ (Said.mk 1 x0) with
 | some y1 => some y1
 | none=>none
def Ze9 (x:Int):Option Int:=Zk8 x
def Zl9 (x0:Int):Option Int :=
 some ((if 0>x0 then 0 else x0).fdiv (2 ^ min (Int.toNat 1) IntKind.i64.bits))
def ZiF (x:Int):Option Int:=Zl9 x
def ZkB (x0:Turn):Option Turn := bif decide (x0.th.stop>0) then bif decide (x0.th.at_>=0) then bif decide (x0.th.at_<(↑x0.th.held.length:Int)) then some ({ x0 with th:={ x0.th with phase:=7 } }) else some ({ x0 with th:={ x0.th with phase:=11 } }) else some ({ x0 with th:={ x0.th with phase:=11 } }) else bif decide (x0.th.at_>=0) then bif decide (x0.th.at_<(↑x0.th.held.length:Int)) then some ({ x0 with th:={ x0.th with phase:=7 } }) else some ({ x0 with th:={ x0.th with phase:=2 } }) else some ({ x0 with th:={ x0.th with phase:=2 } })
def Zgi (x:Turn):Option Turn:=ZkB x
def Zkv (x0:Turn):Option Turn := match Zgi { x0 with th:={ x0.th with at_:=0 } } with
 | some y1 => some y1
 | none=>none
def Zeq (x:Turn):Option Turn:=Zkv x
def Zj2 (x0:Turn):Option Turn := match Zbs x0.th.held with
 | some y1 => bif fewB (List.length y1+(x0.th.node::[]).length) then match ZiF x0.th.node with
  | some y2 => bif decide (y2>0) then some ({ x0 with th:={ x0.th with held:=y1++x0.th.node::[],node:=y2 } }) else match Zeq { x0 with th:={ x0.th with held:=y1++x0.th.node::[],node:=y2 } } with
   | some y3 => some y3
   | none=>none
  | none=>none else none
 | none=>none
def Zj7 (x:Turn):Option Turn:=Zj2 x
def Zh3 (x0:Memo) (x1:Int) (x2:Int) (x3:Int):Option (Memo×Bool×Int) := match ZbD (x0.words,x1) with
 | some y1 => bif y1.snd != 0 then some ((x0,false,y1.snd)) else bif y1.fst == x2 then match Zbs x0.words with
  | some y2 => bif decide (0<=x1) then bif decide (x1<(↑(List.length y2):Int)) then some (({ x0 with words:=List.set y2 x1.toNat x3 },y1.fst == x2,y1.snd)) else none else none
  | none=>none else some ((x0,y1.fst == x2,y1.snd))
 | none=>none
def ZcS (x:Memo×Int×Int×Int):Option (Memo×Bool×Int):=Zh3 x.1 x.2.1 x.2.2.1 x.2.2.2
def ZjU (x0:Turn):Option Bool := bif decide (0<x0.th.until_) then some (decide (x0.th.until_<=x0.now)) else some (false)
def ZdY (x:Turn):Option Bool:=ZjU x
def Zok (x0:Int):Option Said := bif Zac .i64 (↑(BitVec.ofInt IntKind.i64.bits x0 &&& BitVec.ofInt IntKind.i64.bits 7).toNat:Int) == 5 && (Zac .i64 (x0.fdiv (2 ^ min (Int.toNat 3) IntKind.i64.bits)-1) == (-1:Int) && true) then some (Said.mk (Zac .i64 (↑(BitVec.ofInt IntKind.i64.bits x0 &&& BitVec.ofInt IntKind.i64.bits 7).toNat:Int)) (Zac .i64 (x0.fdiv (2 ^ min (Int.toNat 3) IntKind.i64.bits)-1))) else bif decide (Zac .i64 (↑(BitVec.ofInt IntKind.i64.bits x0 &&& BitVec.ofInt IntKind.i64.bits 7).toNat:Int)>=1) then bif decide (Zac .i64 (↑(BitVec.ofInt IntKind.i64.bits x0 &&& BitVec.ofInt IntKind.i64.bits 7).toNat:Int)<=3) then bif decide (Zac .i64 (x0.fdiv (2 ^ min (Int.toNat 3) IntKind.i64.bits)-1)>=0) then bif decide (Zac .i64 (x0.fdiv (2 ^ min (Int.toNat 3) IntKind.i64.bits)-1)<16) then some (Said.mk (Zac .i64 (↑(BitVec.ofInt IntKind.i64.bits x0 &&& BitVec.ofInt IntKind.i64.bits 7).toNat:Int)) (Zac .i64 (x0.fdiv (2 ^ min (Int.toNat 3) IntKind.i64.bits)-1))) else bif Zac .i64 (↑(BitVec.ofInt IntKind.i64.bits x0 &&& BitVec.ofInt IntKind.i64.bits 7).toNat:Int) == 4 then bif decide ((Zac .i64 (x0.fdiv (2 ^ min (Int.toNat 3) IntKind.i64.bits)-1)).fdiv (2 ^ min (Int.toNat 4) IntKind.i64.bits)>=0) then bif decide ((Zac .i64 (x0.fdiv (2 ^ min (Int.toNat 3) IntKind.i64.bits)-1)).fdiv (2 ^ min (Int.toNat 4) IntKind.i64.bits)<4) then bif decide (Zac .i64 (↑(BitVec.ofInt IntKind.i64.bits (Zac .i64 (x0.fdiv (2 ^ min (Int.toNat 3) IntKind.i64.bits)-1)) &&& BitVec.ofInt IntKind.i64.bits 15).toNat:Int)>=1) then bif decide (Zac .i64 (↑(BitVec.ofInt IntKind.i64.bits (Zac .i64 (x0.fdiv (2 ^ min (Int.toNat 3) IntKind.i64.bits)-1)) &&& BitVec.ofInt IntKind.i64.bits 15).toNat:Int)<=3) then some (Said.mk (Zac .i64 (↑(BitVec.ofInt IntKind.i64.bits x0 &&& BitVec.ofInt IntKind.i64.bits 7).toNat:Int)) (Zac .i64 (x0.fdiv (2 ^ min (Int.toNat 3) IntKind.i64.bits)-1))) else some (Said.mk 0 0) else some (Said.mk 0 0) else some (Said.mk 0 0) else some (Said.mk 0 0) else some (Said.mk 0 0) else bif Zac .i64 (↑(BitVec.ofInt IntKind.i64.bits x0 &&& BitVec.ofInt IntKind.i64.bits 7).toNat:Int) == 4 then bif decide ((Zac .i64 (x0.fdiv (2 ^ min (Int.toNat 3) IntKind.i64.bits)-1)).fdiv (2 ^ min (Int.toNat 4) IntKind.i64.bits)>=0) then bif decide ((Zac .i64 (x0.fdiv (2 ^ min (Int.toNat 3) IntKind.i64.bits)-1)).fdiv (2 ^ min (Int.toNat 4) IntKind.i64.bits)<4) then bif decide (Zac .i64 (↑(BitVec.ofInt IntKind.i64.bits (Zac .i64 (x0.fdiv (2 ^ min (Int.toNat 3) IntKind.i64.bits)-1)) &&& BitVec.ofInt IntKind.i64.bits 15).toNat:Int)>=1) then bif decide (Zac .i64 (↑(BitVec.ofInt IntKind.i64.bits (Zac .i64 (x0.fdiv (2 ^ min (Int.toNat 3) IntKind.i64.bits)-1)) &&& BitVec.ofInt IntKind.i64.bits 15).toNat:Int)<=3) then some (Said.mk (Zac .i64 (↑(BitVec.ofInt IntKind.i64.bits x0 &&& BitVec.ofInt IntKind.i64.bits 7).toNat:Int)) (Zac .i64 (x0.fdiv (2 ^ min (Int.toNat 3) IntKind.i64.bits)-1))) else some (Said.mk 0 0) else some (Said.mk 0 0) else some (Said.mk 0 0) else some (Said.mk 0 0) else some (Said.mk 0 0) else bif Zac .i64 (↑(BitVec.ofInt IntKind.i64.bits x0 &&& BitVec.ofInt IntKind.i64.bits 7).toNat:Int) == 4 then bif decide ((Zac .i64 (x0.fdiv (2 ^ min (Int.toNat 3) IntKind.i64.bits)-1)).fdiv (2 ^ min (Int.toNat 4) IntKind.i64.bits)>=0) then bif decide ((Zac .i64 (x0.fdiv (2 ^ min (Int.toNat 3) IntKind.i64.bits)-1)).fdiv (2 ^ min (Int.toNat 4) IntKind.i64.bits)<4) then bif decide (Zac .i64 (↑(BitVec.ofInt IntKind.i64.bits (Zac .i64 (x0.fdiv (2 ^ min (Int.toNat 3) IntKind.i64.bits)-1)) &&& BitVec.ofInt IntKind.i64.bits 15).toNat:Int)>=1) then bif decide (Zac .i64 (↑(BitVec.ofInt IntKind.i64.bits (Zac .i64 (x0.fdiv (2 ^ min (Int.toNat 3) IntKind.i64.bits)-1)) &&& BitVec.ofInt IntKind.i64.bits 15).toNat:Int)<=3) then some (Said.mk (Zac .i64 (↑(BitVec.ofInt IntKind.i64.bits x0 &&& BitVec.ofInt IntKind.i64.bits 7).toNat:Int)) (Zac .i64 (x0.fdiv (2 ^ min (Int.toNat 3) IntKind.i64.bits)-1))) else some (Said.mk 0 0) else some (Said.mk 0 0) else some (Said.mk 0 0) else some (Said.mk 0 0) else some (Said.mk 0 0) else bif Zac .i64 (↑(BitVec.ofInt IntKind.i64.bits x0 &&& BitVec.ofInt IntKind.i64.bits 7).toNat:Int) == 4 then bif decide ((Zac .i64 (x0.fdiv (2 ^ min (Int.toNat 3) IntKind.i64.bits)-1)).fdiv (2 ^ min (Int.toNat 4) IntKind.i64.bits)>=0) then bif decide ((Zac .i64 (x0.fdiv (2 ^ min (Int.toNat 3) IntKind.i64.bits)-1)).fdiv (2 ^ min (Int.toNat 4) IntKind.i64.bits)<4) then bif decide (Zac .i64 (↑(BitVec.ofInt IntKind.i64.bits (Zac .i64 (x0.fdiv (2 ^ min (Int.toNat 3) IntKind.i64.bits)-1)) &&& BitVec.ofInt IntKind.i64.bits 15).toNat:Int)>=1) then bif decide (Zac .i64 (↑(BitVec.ofInt IntKind.i64.bits (Zac .i64 (x0.fdiv (2 ^ min (Int.toNat 3) IntKind.i64.bits)-1)) &&& BitVec.ofInt IntKind.i64.bits 15).toNat:Int)<=3) then some (Said.mk (Zac .i64 (↑(BitVec.ofInt IntKind.i64.bits x0 &&& BitVec.ofInt IntKind.i64.bits 7).toNat:Int)) (Zac .i64 (x0.fdiv (2 ^ min (Int.toNat 3) IntKind.i64.bits)-1))) else some (Said.mk 0 0) else some (Said.mk 0 0) else some (Said.mk 0 0) else some (Said.mk 0 0) else some (Said.mk 0 0)
def Zjr (x:Int):Option Said:=Zok x
def ZlI (x0:Int):Option Int := match Zjr x0 with
 | some y1 => bif x0 == 0 then some (y1.kind) else bif !(y1.kind == 0 && (y1.n == 0 && true)) then some (y1.kind) else some ((-1:Int))
 | none=>none
def Zg4 (x:Int):Option Int:=ZlI x
def Zk5 (x0:Turn) (x1:Int):Option Turn := match Zg4 x1 with
 | some y1 => bif y1 == 1 then some ({ x0 with th:={ x0.th with phase:=6,x:=x1 } }) else bif y1 == 0 then some ({ x0 with th:={ x0.th with phase:=5 } }) else match ZdY x0 with
  | some y2 => bif y2 then match Zeq x0 with
   | some y3 => some y3
   | none=>none else some (x0)
  | none=>none
 | none=>none
def Zkw (x:Turn×Int):Option Turn:=Zk5 x.1 x.2
def ZjW (x0:Int):Option Int := match ZbQ (Said.mk 2 x0) with
 | some y1 => some y1
 | none=>none
def ZjK (x:Int):Option Int:=ZjW x
def ZiA (x0:Turn):Option Turn := match Zeq { x0 with th:={ x0.th with stop:=x0.th.node } } with
 | some y1 => some y1
 | none=>none
def ZiG (x:Turn):Option Turn:=ZiA x
def ZkV (x0:Turn):Option (Turn×Bool) := match Zek (x0.c,x0.th.item,x0.th.node) with
 | some y1 => match Ze9 x0.t with
  | some y2 => bif x0.th.phase == 4 then match ZbX (x0.m,y1) with
   | some y3 => bif y3.snd != 0 then some ((x0,true)) else match Zkw (x0,y3.fst) with
     | some y4 => some ((y4,true))
     | none=>none
   | none=>none else bif x0.th.phase == 6 then match ZjK x0.t with
    | some y3 => match ZcS (x0.m,y1,x0.th.x,y3) with
     | some y4 => bif y4.snd.snd != 0 then some ((x0,true)) else bif y4.snd.fst then match ZiG { x0 with m:=y4.fst,th:={ x0.th with phase:=4 } } with
      | some y5 => some ((y5,true))
      | none=>none else some (({ x0 with m:=y4.fst,th:={ x0.th with phase:=4 } },true))
     | none=>none
    | none=>none else bif x0.th.phase == 5 then match ZcS (x0.m,y1,0,y2) with
     | some y3 => bif y3.snd.snd != 0 then some ((x0,true)) else bif y3.snd.fst then match Zj7 { x0 with m:=y3.fst,th:={ x0.th with phase:=4 } } with
      | some y4 => some ((y4,true))
      | none=>none else some (({ x0 with m:=y3.fst,th:={ x0.th with phase:=4 } },true))
     | none=>none else some ((x0,false))
  | none=>none
 | none=>none
def ZkX (x:Turn):Option (Turn×Bool):=ZkV x
def ZjZ (x0:Turn):Option Int := bif decide (x0.th.at_<0) then some ((-1:Int)) else bif decide (x0.th.at_>=(↑x0.th.held.length:Int)) then some ((-1:Int)) else bif decide (0<=x0.th.at_) then bif decide (x0.th.at_<(↑x0.th.held.length:Int)) then match Zek (x0.c,x0.th.item,x0.th.held.getD x0.th.at_.toNat 0) with
 | some y1 => some y1
 | none=>none else none else none
def ZfP (x:Turn):Option Int:=ZjZ x
def ZmY (x0:Int):Option Int := match Zjr x0 with
 | some y1 => bif decide (y1.kind>=1) then bif decide (y1.kind<=3) then some (y1.n) else some ((-1:Int)) else some ((-1:Int))
 | none=>none
def Zm4 (x:Int):Option Int:=ZmY x
def Zno (x0:Turn):Option Turn := match ZfP x0 with
 | some y1 => match ZbX (x0.m,y1) with
  | some y2 => bif y2.snd != 0 then some (x0) else match Ze9 x0.t with
   | some y3 => bif y2.fst == y3 then some ({ x0 with th:={ x0.th with phase:=8 } }) else match Zg4 y2.fst with
    | some y4 => bif y4 == 3 then match Zm4 y2.fst with
     | some y5 => some ({ x0 with th:={ x0.th with phase:=9,who:=y5 } })
     | none=>none else some (x0)
    | none=>none
   | none=>none
  | none=>none
 | none=>none
def ZjR (x:Turn):Option Turn:=Zno x
def ZjB (x0:Turn):Option Turn := match Zgi { x0 with th:={ x0.th with at_:=Zac .i64 (x0.th.at_+1) } } with
 | some y1 => some y1
 | none=>none
def Zhm (x:Turn):Option Turn:=ZjB x
def Znm (x0:Turn):Option Turn := match ZfP x0 with
 | some y1 => match Ze9 x0.t with
  | some y2 => match ZcS (x0.m,y1,y2,0) with
   | some y3 => bif !y3.snd.fst then bif y3.snd.snd != 0 then some (x0) else some ({ x0 with m:=y3.fst,th:={ x0.th with phase:=7 } }) else bif y3.snd.snd != 0 then some (x0) else match Zhm { x0 with m:=y3.fst } with
    | some y4 => some y4
    | none=>none
   | none=>none
  | none=>none
 | none=>none
def Zj0 (x:Turn):Option Turn:=Znm x
def ZcR (x0:List Entry):Option (List Entry) := bif fewB ((0:Nat)+x0.length) then some (x0) else none
def Zbk (x:(List Entry)):Option (List Entry):=ZcR x
def Zch (x0:List (List Entry)) (x1:Int):Option ((List Entry)×Int) := bif decide (x1<0) then some ((([]:List Entry),30)) else bif decide (x1>=(↑x0.length:Int)) then some ((([]:List Entry),30)) else bif decide (0<=x1) then bif decide (x1<(↑x0.length:Int)) then some ((x0.getD x1.toNat ([]:List Entry),0)) else none else none
def Zcg (x:(List (List Entry))×Int):Option ((List Entry)×Int):=Zch x.1 x.2
def Zis (x0:Memo) (x1:Int):Option ((List Entry)×Int) := match Zcg (x0.boxes,x1) with
 | some y1 => match Zbk y1.fst with
  | some y2 => some ((y2,y1.snd))
  | none=>none
 | none=>none
def Zig (x:Memo×Int):Option ((List Entry)×Int):=Zis x.1 x.2
def Zer (x0:Unit) (x1:Int):Option (List Kid) := bif decide (x1<0) then none else bif decide (Zac .i64 (x1-Zac .i64 (0-0))>0) then bif decide (0<=Zac .i64 (x1-Zac .i64 (0-0))) then bif decide (Zac .i64 (x1-Zac .i64 (0-0))<=Zbt) then some (List.take (Int.toNat 0) (List.replicate (Zac .i64 (x1-Zac .i64 (0-0))).toNat (Kid.mk 0 0))) else none else none else some (([]:List Kid))
def Zeo (x:Unit×Int):Option (List Kid):=Zer x.1 x.2
def Zcp (x0:List Kid) (x1:List (List Kid)) (x2:Int) (x3:Int):Option (((List Kid)×(List (List Kid))×Int×Int)⊕(((List Kid)))) := bif decide (x3<x2) then bif decide (0<=x3) then bif decide (x3<(↑x1.length:Int)) then bif fewB (x0.length+List.length (x1.getD x3.toNat ([]:List Kid))) then some (Sum.inl (x0++x1.getD x3.toNat ([]:List Kid),x1,x2,Zac .i64 (x3+1))) else none else none else none else some (Sum.inr x0)
def ZbI (x:(List Kid)×(List (List Kid))×Int×Int):Option (((List Kid)×(List (List Kid))×Int×Int)⊕(((List Kid)))):=Zcp x.1 x.2.1 x.2.2.1 x.2.2.2
def Zdl (x:(List Kid)×(List (List Kid))×Int×Int):Option (((List Kid))):=ZaA ZbI x
def Zcu (x0:List (List Kid)) (x1:Int) (x2:List (List Kid)) (x3:Int) (x4:Int):Option (((List (List Kid))×Int×(List (List Kid))×Int×Int)⊕(((List (List Kid))×Int))) := bif decide (x4<x3) then bif decide (0<=x4) then bif decide (x4<(↑x2.length:Int)) then bif decide (Zac .i64 (x1+(↑(List.length (x2.getD x4.toNat ([]:List Kid))):Int))<0) then none else some (Sum.inl (x0,Zac .i64 (x1+(↑(List.length (x2.getD x4.toNat ([]:List Kid))):Int)),x2,x3,Zac .i64 (x4+1))) else none else none else some (Sum.inr (x0,x1))
def ZbN (x:(List (List Kid))×Int×(List (List Kid))×Int×Int):Option (((List (List Kid))×Int×(List (List Kid))×Int×Int)⊕(((List (List Kid))×Int))):=Zcu x.1 x.2.1 x.2.2.1 x.2.2.2.1 x.2.2.2.2
def Zdx (x:(List (List Kid))×Int×(List (List Kid))×Int×Int):Option (((List (List Kid))×Int)):=ZaA ZbN x
def Zd3 (x0:List (List Kid)):Option (List Kid) := match Zdx (x0,0,x0,(↑x0.length:Int),0) with
 | some y1 => match Zeo ((),y1.snd) with
  | some y2 => match Zdl (y2,y1.fst,(↑(List.length y1.fst):Int),0) with
   | some y3 => some y3
   | none=>none
  | none=>none
 | none=>none
def Zd2 (x:(List (List Kid))):Option (List Kid):=Zd3 x
def Zec (x0:Unit) (x1:Int):Option (List Entry) := bif decide (x1<0) then none else bif decide (Zac .i64 (x1-Zac .i64 (0-0))>0) then bif decide (0<=Zac .i64 (x1-Zac .i64 (0-0))) then bif decide (Zac .i64 (x1-Zac .i64 (0-0))<=Zbt) then some (List.take (Int.toNat 0) (List.replicate (Zac .i64 (x1-Zac .i64 (0-0))).toNat (Entry.mk 0 (Op.mk 0 0)))) else none else none else some (([]:List Entry))
def Zea (x:Unit×Int):Option (List Entry):=Zec x.1 x.2
def Zcn (x0:List Entry) (x1:List (List Entry)) (x2:Int) (x3:Int):Option (((List Entry)×(List (List Entry))×Int×Int)⊕(((List Entry)))) := bif decide (x3<x2) then bif decide (0<=x3) then bif decide (x3<(↑x1.length:Int)) then bif fewB (x0.length+List.length (x1.getD x3.toNat ([]:List Entry))) then some (Sum.inl (x0++x1.getD x3.toNat ([]:List Entry),x1,x2,Zac .i64 (x3+1))) else none else none else none else some (Sum.inr x0)
def Zby (x:(List Entry)×(List (List Entry))×Int×Int):Option (((List Entry)×(List (List Entry))×Int×Int)⊕(((List Entry)))):=Zcn x.1 x.2.1 x.2.2.1 x.2.2.2
def Zda (x:(List Entry)×(List (List Entry))×Int×Int):Option (((List Entry))):=ZaA Zby x
def Zco (x0:List (List Entry)) (x1:Int) (x2:List (List Entry)) (x3:Int) (x4:Int):Option (((List (List Entry))×Int×(List (List Entry))×Int×Int)⊕(((List (List Entry))×Int))) := bif decide (x4<x3) then bif decide (0<=x4) then bif decide (x4<(↑x2.length:Int)) then bif decide (Zac .i64 (x1+(↑(List.length (x2.getD x4.toNat ([]:List Entry))):Int))<0) then none else some (Sum.inl (x0,Zac .i64 (x1+(↑(List.length (x2.getD x4.toNat ([]:List Entry))):Int)),x2,x3,Zac .i64 (x4+1))) else none else none else some (Sum.inr (x0,x1))
def ZbG (x:(List (List Entry))×Int×(List (List Entry))×Int×Int):Option (((List (List Entry))×Int×(List (List Entry))×Int×Int)⊕(((List (List Entry))×Int))):=Zco x.1 x.2.1 x.2.2.1 x.2.2.2.1 x.2.2.2.2
def Zdj (x:(List (List Entry))×Int×(List (List Entry))×Int×Int):Option (((List (List Entry))×Int)):=ZaA ZbG x
def ZdH (x0:List (List Entry)):Option (List Entry) := match Zdj (x0,0,x0,(↑x0.length:Int),0) with
 | some y1 => match Zea ((),y1.snd) with
  | some y2 => match Zda (y2,y1.fst,(↑(List.length y1.fst):Int),0) with
   | some y3 => some y3
   | none=>none
  | none=>none
 | none=>none
def ZdI (x:(List (List Entry))):Option (List Entry):=ZdH x
def ZnJ (x0:List (List Entry)):Option (List Entry) := match ZdI x0 with
 | some y1 => some y1
 | none=>none
def ZkH (x:(List (List Entry))):Option (List Entry):=ZnJ x
def ZjY (x0:Turn) (x1:Int) (x2:List Entry):Option Turn := match Zd2 (x0.th.kids::(Kid.mk x1 (↑x0.th.batch.length:Int)::[])::[]) with
 | some y1 => match ZkH (x0.th.batch::x2::[]) with
  | some y2 => some ({ x0 with th:={ x0.th with batch:=y2,kids:=y1 } })
  | none=>none
 | none=>none
def ZfG (x:Turn×Int×(List Entry)):Option Turn:=ZjY x.1 x.2.1 x.2.2
def Zk2 (x0:Turn):Option Turn := match Zig (x0.m,x0.th.who) with
 | some y1 => bif y1.snd != 0 then some (x0) else match ZfG (x0,x0.th.who,y1.fst) with
  | some y2 => some ({ y2 with th:={ y2.th with phase:=10 } })
  | none=>none
 | none=>none
def Zhy (x:Turn):Option Turn:=Zk2 x
def Zne (x0:Turn):Option Turn := match ZfP x0 with
 | some y1 => match Zb5 (x0.m,y1,0) with
  | some y2 => bif y2.snd != 0 then some (x0) else match Zhm { x0 with m:=y2.fst } with
   | some y3 => some y3
   | none=>none
  | none=>none
 | none=>none
def ZjD (x:Turn):Option Turn:=Zne x
def ZdL (x0:List (List Entry)):Option ((List (List Entry))) := bif fewB ((0:Nat)+x0.length) then some (x0) else none
def ZdJ (x:(List (List Entry))):Option ((List (List Entry))):=ZdL x
def ZmW (x0:Memo) (x1:Int) (x2:List Entry):Option (Memo×Int) := match Zcg (x0.boxes,x1) with
 | some y1 => bif y1.snd != 0 then some ((x0,y1.snd)) else match ZdJ x0.boxes with
  | some y2 => match Zbk x2 with
   | some y3 => bif decide (0<=x1) then bif decide (x1<(↑(List.length y2):Int)) then some (({ x0 with boxes:=List.set y2 x1.toNat y3 },0)) else none else none
   | none=>none
  | none=>none
 | none=>none
def Zij (x:Memo×Int×(List Entry)):Option (Memo×Int):=ZmW x.1 x.2.1 x.2.2
def ZkQ (x0:Turn):Option Turn := match Zij (x0.m,x0.t,x0.th.batch) with
 | some y1 => bif y1.snd != 0 then some (x0) else some ({ x0 with m:=y1.fst,th:={ x0.th with phase:=12 } })
 | none=>none
def ZhA (x:Turn):Option Turn:=ZkQ x
def Zht (x0:Int):Option Int := match ZbQ (Said.mk 3 x0) with
 | some y1 => some y1
 | none=>none
def Zhx (x:Int):Option Int:=Zht x
def ZkU (x0:Turn):Option Turn := match Zek (x0.c,x0.th.item,x0.th.stop) with
 | some y1 => match Zhx x0.t with
  | some y2 => match Zb5 (x0.m,y1,y2) with
   | some y3 => bif y3.snd != 0 then some (x0) else some ({ x0 with m:=y3.fst,th:={ x0.th with phase:=13 } })
   | none=>none
  | none=>none
 | none=>none
def Zhv (x:Turn):Option Turn:=ZkU x
def ZjE (x0:Turn):Option (Turn×Bool) := bif x0.th.phase == 7 then match ZjR x0 with
 | some y1 => some ((y1,true))
 | none=>none else bif x0.th.phase == 8 then match Zj0 x0 with
  | some y1 => some ((y1,true))
  | none=>none else bif x0.th.phase == 9 then match Zhy x0 with
   | some y1 => some ((y1,true))
   | none=>none else bif x0.th.phase == 10 then match ZjD x0 with
    | some y1 => some ((y1,true))
    | none=>none else bif x0.th.phase == 11 then match ZhA x0 with
     | some y1 => some ((y1,true))
     | none=>none else bif x0.th.phase == 12 then match Zhv x0 with
      | some y1 => some ((y1,true))
      | none=>none else some ((x0,false))
def ZjF (x:Turn):Option (Turn×Bool):=ZjE x
def Zh8 (x0:Turn):Option Turn := bif decide (x0.th.layer<x0.c.layers) then match ZdY { x0 with th:={ x0.th with phase:=2 } } with
 | some y1 => bif !y1 then some ({ x0 with th:={ x0.th with phase:=17,layer:=Zac .i64 (x0.th.layer+1) } }) else some ({ x0 with th:={ x0.th with phase:=2 } })
 | none=>none else some ({ x0 with th:={ x0.th with phase:=2 } })
def Zcm (x:Turn):Option Turn:=Zh8 x
def Zi6 (x0:Int) (x1:Int):Option Int := match ZbQ (Said.mk 4 (Zac .i64 (Zac .i64 (x0*2 ^ min (Int.toNat 4) IntKind.i64.bits)+x1))) with
 | some y1 => some y1
 | none=>none
def Zjc (x:Int×Int):Option Int:=Zi6 x.1 x.2
def Zia (x0:Turn×Int) (x1:Int):Option Int := match Zc5 (x0.fst.c,x1) with
 | some y1 => some y1
 | none=>none
def Zb0 (x:(Turn×Int)×Int):Option Int:=Zia x.1 x.2
def Zpw:Option Int := match ZbQ (Said.mk 5 (-1:Int)) with
 | some y1 => some y1
 | none=>none
def Zg3 (x:Unit):Option Int:=Zpw
def ZiN (x0:Config) (x1:Int):Option Int := bif decide (x1<0) then some ((-1:Int)) else bif decide (x1>=x0.threads) then some ((-1:Int)) else match Zcl x0 with
 | some y1 => some (Zac .i64 (Zac .i64 (y1.lines+Zac .i64 (2*x1))+1))
 | none=>none
def Zfd (x:Config×Int):Option Int:=ZiN x.1 x.2
def ZiB (x0:Turn):Option Turn := bif decide (x0.th.at_<0) then some ({ x0 with th:={ x0.th with phase:=0 },done:=true }) else bif decide (x0.th.at_>=(↑x0.th.kids.length:Int)) then some ({ x0 with th:={ x0.th with phase:=0 },done:=true }) else bif decide (0<=x0.th.at_) then bif decide (x0.th.at_<(↑x0.th.kids.length:Int)) then some ({ x0 with th:={ x0.th with phase:=15 } }) else none else none
def Zdt (x:Turn):Option Turn:=ZiB x
def ZkG (x0:List Entry) (x1:Int):Option (List Entry) := bif decide (0<=if (if (↑x0.length:Int)<x1 then (↑x0.length:Int) else x1)>0 then if (↑x0.length:Int)<x1 then (↑x0.length:Int) else x1 else 0) then bif decide ((if (if (↑x0.length:Int)<x1 then (↑x0.length:Int) else x1)>0 then if (↑x0.length:Int)<x1 then (↑x0.length:Int) else x1 else 0)<=(↑x0.length:Int)) then match Zbk (List.drop (Int.toNat 0) (List.take (if (if (↑x0.length:Int)<x1 then (↑x0.length:Int) else x1)>0 then if (↑x0.length:Int)<x1 then (↑x0.length:Int) else x1 else 0).toNat x0)) with
 | some y1 => some y1
 | none=>none else none else none
def ZkW (x:(List Entry)×Int):Option (List Entry):=ZkG x.1 x.2
def Zhg (x0:Memo) (x1:Int) (x2:Int):Option (Memo×Int×Int) := match ZbD (x0.words,x1) with
 | some y1 => bif y1.snd != 0 then some ((x0,0,y1.snd)) else match Zbs x0.words with
  | some y2 => bif decide (0<=x1) then bif decide (x1<(↑(List.length y2):Int)) then some (({ x0 with words:=List.set y2 x1.toNat x2 },y1)) else none else none
  | none=>none
 | none=>none
def ZlP (x:Memo×Int×Int):Option (Memo×Int×Int):=Zhg x.1 x.2.1 x.2.2
def ZkF (x0:Config) (x1:Int) (x2:Int) (x3:Int):Option Int := bif decide (x1<0) then some ((-1:Int)) else bif decide (x1>=x0.items) then some ((-1:Int)) else bif decide (x2<1) then some ((-1:Int)) else bif decide (x2>=Zac .i64 (1+x0.layers)) then some ((-1:Int)) else bif decide (x3<0) then some ((-1:Int)) else bif decide (x3>=x0.width) then some ((-1:Int)) else match Zcl x0 with
 | some y1 => match Zcl x0 with
  | some y2 => some (Zac .i64 (Zac .i64 (Zac .i64 (Zac .i64 (x1*y1.block)+y2.slots)+Zac .i64 (Zac .i64 (x2-1)*x0.width))+x3))
  | none=>none
 | none=>none
def ZkZ (x:Config×Int×Int×Int):Option Int:=ZkF x.1 x.2.1 x.2.2.1 x.2.2.2
def Zg9 (x0:Tape):Option Int := bif decide (x0.at_<0) then some (0) else some (if Zac .i64 ((↑x0.l.length:Int)-x0.at_)>0 then Zac .i64 ((↑x0.l.length:Int)-x0.at_) else 0)
def ZfW (x:Tape):Option Int:=Zg9 x
end Go.Proofs.Mill
