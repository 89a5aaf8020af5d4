/- What the functions compute. -/
import Derived.Test.YtaopdopnecognaaGreatMillAll3
set_option linter.all false
noncomputable section
namespace Go.Proofs.Mill
def Zfg (x0:List SEntry) (x1:Int) (x2:Int):Option (((List SEntry)×Int×Int)⊕(((List SEntry)))) := bif decide (x2<x1) then bif fewB (x0.length+(SEntry.mk 2 x2 0 (Op.mk 0 0)::[]).length) then some (Sum.inl (x0++SEntry.mk 2 x2 0 (Op.mk 0 0)::[],x1,Zad .i64 (x2+1))) else none else some (Sum.inr x0)
def ZgA (x:(List SEntry)×Int×Int):Option (((List SEntry)×Int×Int)⊕(((List SEntry)))):=Zfg x.1 x.2.1 x.2.2
def ZlR (x:(List SEntry)×Int×Int):Option (((List SEntry))):=ZaE ZgA x
def ZkY (x0:Config):Option (List SEntry) := match ZlR (([]:List SEntry),x0.threads,0) with
 | some y1 => some y1
 | none=>none
def Ze2 (x:Config):Option (List SEntry):=ZkY x
def Zc5 (x0:Int) (x1:List SEntry) (x2:List SEntry) (x3:List SEntry) (x4:Int) (x5:Int):Option ((Int×(List SEntry)×(List SEntry)×(List SEntry)×Int×Int)⊕(((List SEntry))⊕(Int×(List SEntry)×(List SEntry)))) := bif decide (x5<x4) then bif decide (0<=x5) then bif decide (x5<(↑x3.length:Int)) then bif decide ((↑x1.length:Int)>=65536) then some (Sum.inr (Sum.inl x1)) else bif fewB (x1.length+(x3.getD x5.toNat ZaL::[]).length) then some (Sum.inl (x0,x1++x3.getD x5.toNat ZaL::[],x2,x3,x4,Zad .i64 (x5+1))) else none else none else none else some (Sum.inr (Sum.inr (x0,x1,x2)))
def ZdH (x:Int×(List SEntry)×(List SEntry)×(List SEntry)×Int×Int):Option ((Int×(List SEntry)×(List SEntry)×(List SEntry)×Int×Int)⊕(((List SEntry))⊕(Int×(List SEntry)×(List SEntry)))):=Zc5 x.1 x.2.1 x.2.2.1 x.2.2.2.1 x.2.2.2.2.1 x.2.2.2.2.2
def Zk5 (x:Int×(List SEntry)×(List SEntry)×(List SEntry)×Int×Int):Option (((List SEntry))⊕(Int×(List SEntry)×(List SEntry))):=ZaE ZdH x
def ZeE (x0:Int) (x1:List SEntry) (x2:List SEntry):Option ((Int×(List SEntry)×(List SEntry))⊕(((List SEntry)))) := bif decide (x0>0) then match Zk5 (x0,x1,x2,x2,(↑x2.length:Int),0) with
 | some (.inl y1) => some (Sum.inr y1)
 | some (.inr y2) => some (Sum.inl (Zad .i64 (y2.fst-1),y2.snd))
 | none=>none else some (Sum.inr x1)
def ZdG (x:Int×(List SEntry)×(List SEntry)):Option ((Int×(List SEntry)×(List SEntry))⊕(((List SEntry)))):=ZeE x.1 x.2.1 x.2.2
def Zc7 (x:Int×(List SEntry)×(List SEntry)):Option (((List SEntry))):=ZaE ZdG x
def Zfy (x0:Config) (x1:Int):Option (List SEntry) := match Ze2 x0 with
 | some y1 => match Zc7 (x1,([]:List SEntry),y1) with
  | some y2 => some y2
  | none=>none
 | none=>none
def Zch (x:Config×Int):Option (List SEntry):=Zfy x.1 x.2
def ZiH (x0:Config):Option Int :=
 some (Zad .i64 (Zad .i64 (20+Zad .i64 (8*x0.depth))+Zad .i64 (x0.layers*Zad .i64 (20+Zad .i64 (2*x0.spin)))))
def ZiC (x:Config):Option Int:=ZiH x
def ZjJ (x0:Config):Option Int := match ZiC x0 with
 | some y1 => some (Zad .i64 (20+Zad .i64 (Zad .i64 (4*y1)*x0.threads)))
 | none=>none
def Zcx (x:Config):Option Int:=ZjJ x
def ZhO (x0:Config) (x1:Int) (x2:Int):Option ((Config×Int×Int)⊕((Int))) := bif decide (x2<x0.depth) then some (Sum.inl (x0,Zad .i64 (2*x1),Zad .i64 (x2+1))) else some (Sum.inr x1)
def ZeM (x:Config×Int×Int):Option ((Config×Int×Int)⊕((Int))):=ZhO x.1 x.2.1 x.2.2
def Zlg (x:Config×Int×Int):Option Int:=ZaE ZeM x
def ZjB (x0:Config):Option Int := match Zlg (x0,1,0) with
 | some y1 => some (Zad .i64 (y1-1))
 | none=>none
def Zc9 (x:Config):Option Int:=ZjB x
def ZjN (x0:Config):Option Int := match Zc9 x0 with
 | some y1 => some (Zad .i64 (Zad .i64 (1+y1)+Zad .i64 (x0.layers*x0.width)))
 | none=>none
def Zda (x:Config):Option Int:=ZjN x
def ZkQ (x0:Config):Option Int := match Zda x0 with
 | some y1 => some (Zad .i64 (Zad .i64 (x0.items*y1)+Zad .i64 (2*x0.threads)))
 | none=>none
def ZkU (x:Config):Option Int:=ZkQ x
def ZkH (x0:Config) (x1:Int) (x2:Int):Option Int := bif decide (x1<0) then some ((-1:Int)) else bif decide (x1>=x0.items) then some ((-1:Int)) else bif decide (x2<1) then some ((-1:Int)) else match Zc9 x0 with
 | some y1 => bif decide (x2>y1) then some ((-1:Int)) else match Zda x0 with
  | some y2 => some (Zad .i64 (Zad .i64 (x1*y2)+x2))
  | none=>none
 | none=>none
def Zks (x:Config×Int×Int):Option Int:=ZkH x.1 x.2.1 x.2.2
def ZkC (x0:Config) (x1:Int):Option Int := bif decide (x1<0) then some ((-1:Int)) else bif decide (x1>=x0.threads) then some ((-1:Int)) else match Zda x0 with
 | some y1 => some (Zad .i64 (Zad .i64 (x0.items*y1)+Zad .i64 (2*x1)))
 | none=>none
def ZkG (x:Config×Int):Option Int:=ZkC x.1 x.2
def ZdN (x0:Thread):Option Bool :=
 some (x0.phase != 0)
def Zbr (x:Thread):Option Bool:=ZdN x
def ZhC (x0:Int) (x1:Int):Option Bool := bif decide (0<=x0) then some (decide (x0<x1)) else some (false)
def ZdE (x:Int×Int):Option Bool:=ZhC x.1 x.2
def ZnI (x0:Int):Option Bool := bif decide (1<=x0) then some (decide (x0<=9)) else some (false)
def Zki (x:Int):Option Bool:=ZnI x
def Zme (x0:Op) (x1:Bool):Option Bool := bif !x1 then match Zki x0.tag with
 | some y1 => bif y1 then some (decide (x0.tag<8)) else some (false)
 | none=>none else bif x0.tag == 9 then some (decide (x0.v>=0)) else some (x0.tag == 8)
def Zj0 (x:Op×Bool):Option Bool:=Zme x.1 x.2
def Zil (x0:Config) (x1:SEntry):Option Int := bif x1.kind == 1 then bif x1.kind == 1 then match ZdE (x1.t,x0.threads) with
 | some y1 => bif !y1 then some (91) else bif x1.kind == 2 then some (0) else match ZdE (x1.item,x0.items) with
  | some y2 => bif !y2 then some (92) else match Zj0 (x1.op,x0.bounded) with
   | some y3 => bif !y3 then some (93) else some (0)
   | none=>none
  | none=>none
 | none=>none else bif x1.kind == 3 then some (0) else some (90) else bif x1.kind == 2 then match ZdE (x1.t,x0.threads) with
 | some y1 => bif !y1 then some (91) else bif x1.kind == 2 then some (0) else match ZdE (x1.item,x0.items) with
  | some y2 => bif !y2 then some (92) else match Zj0 (x1.op,x0.bounded) with
   | some y3 => bif !y3 then some (93) else some (0)
   | none=>none
  | none=>none
 | none=>none else bif x1.kind == 3 then some (0) else some (90)
def Zgs (x:Config×SEntry):Option Int:=Zil x.1 x.2
def ZiG (x0:List Thread):Option (List Thread) := bif fewB ((0:Nat)+x0.length) then some (x0) else none
def ZeZ (x:(List Thread)):Option (List Thread):=ZiG x
def ZjH (x0:List Mark):Option (List Mark) := bif fewB ((0:Nat)+x0.length) then some (x0) else none
def Zft (x:(List Mark)):Option (List Mark):=ZjH x
def Zjt (x0:List Event):Option (List Event) := bif fewB ((0:Nat)+x0.length) then some (x0) else none
def Zfw (x:(List Event)):Option (List Event):=Zjt x
def Ze1 (x0:Int) (x1:Int):Option Int := bif decide (x0<1) then some (0) else bif decide (Zad .i64 (x0-1)<0) then none else some (Zad .i64 (↑(BitVec.ofInt IntKind.i64.bits (Zad .i64 (1*2 ^ min (Zad .i64 (x0-1)).toNat IntKind.i64.bits)) ||| BitVec.ofInt IntKind.i64.bits (Zad .i64 (↑(BitVec.ofInt IntKind.i64.bits (x1.fdiv (2 ^ min (Int.toNat 1) IntKind.i64.bits)) &&& BitVec.ofInt IntKind.i64.bits (Zad .i64 (Zad .i64 (1*2 ^ min (Zad .i64 (x0-1)).toNat IntKind.i64.bits)-1))).toNat:Int))).toNat:Int))
def Zky (x:Int×Int):Option Int:=Ze1 x.1 x.2
def ZiF (x0:Config) (x1:Int) (x2:Thread) (x3:Int) (x4:Op) (x5:Int):Option Thread := match Zky (x0.depth,x1) with
 | some y1 => bif decide (x0.wait>0) then some (Thread.mk 1 x3 x4 (Entry.mk x1 x4::[]) ([]:List Kid) ([]:List Int) 0 y1 0 0 0 x2.width 0 0 0 (Zad .i64 (x5+x0.wait))) else some (Thread.mk 1 x3 x4 (Entry.mk x1 x4::[]) ([]:List Kid) ([]:List Int) 0 y1 0 0 0 x2.width 0 0 0 0)
 | none=>none
def Zgv (x:Config×Int×Thread×Int×Op×Int):Option Thread:=ZiF x.1 x.2.1 x.2.2.1 x.2.2.2.1 x.2.2.2.2.1 x.2.2.2.2.2
def ZdU (x0:Config):Option Int := bif decide (x0.threads<1) then some (50) else bif decide (x0.threads>16) then some (50) else bif decide (x0.items<1) then some (51) else bif decide (x0.items>4) then some (51) else bif decide (x0.backend<1) then some (52) else bif decide (x0.backend>3) then some (52) else bif decide (x0.depth<0) then some (53) else bif decide (x0.depth>4) then some (53) else bif decide (x0.layers<0) then some (54) else bif decide (x0.layers>3) then some (54) else bif decide (x0.width<1) then some (55) else bif decide (x0.width>8) then some (55) else bif decide (x0.spin<0) then some (56) else bif decide (x0.spin>20) then some (56) else bif decide (x0.wait<0) then some (57) else bif decide (x0.wait>1000) then some (57) else bif x0.bounded then bif decide (x0.lo>x0.init) then some (58) else bif decide (x0.init>x0.hi) then some (58) else some (0) else some (0)
def Zg5 (x:Config):Option Int:=ZdU x
def ZuL (x0:Op) (x1:Bool):Option Bool := bif x1 then bif x0.tag == 8 then some (true) else bif x0.tag == 9 then some (decide (x0.v>=0)) else some (false) else bif decide (x0.tag>=1) then some (decide (x0.tag<=7)) else some (false)
def Zpf (x:Op×Bool):Option Bool:=ZuL x.1 x.2
def Zvf (x0:Config):Option Bool := match Zg5 x0 with
 | some y1 => some (y1 == 0)
 | none=>none
def ZgS (x:Config):Option Bool:=Zvf x
def ZsH (x0:Config):Option Int :=
 some (Zad .i64 (Zad .i64 (20+Zad .i64 (8*x0.depth))+Zad .i64 (x0.layers*Zad .i64 (20+Zad .i64 (2*x0.spin)))))
def Zna (x:Config):Option Int:=ZsH x
def Zrg (x0:Config):Option Int := match Zna x0 with
 | some y1 => some (Zad .i64 (Zad .i64 (Zad .i64 (4*x0.threads)*y1)+20))
 | none=>none
def Zin (x:Config):Option Int:=Zrg x
def ZrD (x0:List SEntry) (x1:List SEntry) (x2:Int):Option (((List SEntry)×(List SEntry)×Int)⊕((Unit)⊕(Bool))) := bif decide (x2<(↑x0.length:Int)) then bif decide (0<=x2) then bif decide (x2<(↑x0.length:Int)) then bif decide (0<=x2) then bif decide (x2<(↑x1.length:Int)) then bif !((x0.getD x2.toNat ZaL).kind == (x1.getD x2.toNat ZaL).kind && ((x0.getD x2.toNat ZaL).t == (x1.getD x2.toNat ZaL).t && ((x0.getD x2.toNat ZaL).item == (x1.getD x2.toNat ZaL).item && ((x0.getD x2.toNat ZaL).op.tag == (x1.getD x2.toNat ZaL).op.tag && ((x0.getD x2.toNat ZaL).op.v == (x1.getD x2.toNat ZaL).op.v && true) && true)))) then some (Sum.inr (Sum.inr false)) else some (Sum.inl (x0,x1,Zad .i64 (x2+1))) else none else none else none else none else some (Sum.inr (Sum.inl ()))
def Ziu (x:(List SEntry)×(List SEntry)×Int):Option (((List SEntry)×(List SEntry)×Int)⊕((Unit)⊕(Bool))):=ZrD x.1 x.2.1 x.2.2
def Zrz (x:(List SEntry)×(List SEntry)×Int):Option ((Unit)⊕(Bool)):=ZaE Ziu x
def ZtE (x0:List SEntry) (x1:List SEntry):Option Bool := bif (↑x0.length:Int) != (↑x1.length:Int) then some (false) else match Zrz (x0,x1,0) with
 | some (.inl y1) => some (true)
 | some (.inr y2) => some y2
 | none=>none
def Zkv (x:(List SEntry)×(List SEntry)):Option Bool:=ZtE x.1 x.2
def ZsO (x0:List SEntry) (x1:List SEntry) (x2:Int):Option (((List SEntry)×(List SEntry)×Int)⊕(((List SEntry)))) := bif decide (x2<(↑x0.length:Int)) then bif decide (0<=x2) then bif decide (x2<(↑x0.length:Int)) then bif decide (0<=x2) then bif decide (x2<(↑x0.length:Int)) then bif decide (0<=x2) then bif decide (x2<(↑x0.length:Int)) then bif decide (0<=x2) then bif decide (x2<(↑x0.length:Int)) then bif fewB (x1.length+(x0.getD x2.toNat ZaL::[]).length) then some (Sum.inl (x0,x1++x0.getD x2.toNat ZaL::[],Zad .i64 (x2+1))) else none else none else none else none else none else none else none else none else none else some (Sum.inr x1)
def Zjs (x:(List SEntry)×(List SEntry)×Int):Option (((List SEntry)×(List SEntry)×Int)⊕(((List SEntry)))):=ZsO x.1 x.2.1 x.2.2
def ZsF (x:(List SEntry)×(List SEntry)×Int):Option (((List SEntry))):=ZaE Zjs x
def Zu7 (x0:List SEntry):Option (List SEntry) := match ZsF (x0,([]:List SEntry),0) with
 | some y1 => some y1
 | none=>none
def Zg2 (x:(List SEntry)):Option (List SEntry):=Zu7 x
def ZpX (x0:Int) (x1:Config) (x2:List SEntry) (x3:Int) (x4:Int):Option ((Int×Config×(List SEntry)×Int×Int)⊕((Int×Config×(List SEntry)×Int)⊕((List SEntry)))) := bif decide (x4<x1.threads) then bif (↑x2.length:Int) == 65536 then some (Sum.inr (Sum.inr x2)) else bif fewB (x2.length+(SEntry.mk 2 x4 0 (Op.mk 0 0)::[]).length) then some (Sum.inl (x0,x1,x2++SEntry.mk 2 x4 0 (Op.mk 0 0)::[],x3,Zad .i64 (x4+1))) else none else some (Sum.inr (Sum.inl (x0,x1,x2,x3)))
def Zhr (x:Int×Config×(List SEntry)×Int×Int):Option ((Int×Config×(List SEntry)×Int×Int)⊕((Int×Config×(List SEntry)×Int)⊕((List SEntry)))):=ZpX x.1 x.2.1 x.2.2.1 x.2.2.2.1 x.2.2.2.2
def ZpR (x:Int×Config×(List SEntry)×Int×Int):Option ((Int×Config×(List SEntry)×Int)⊕((List SEntry))):=ZaE Zhr x
def Zpv (x0:Int) (x1:Config) (x2:List SEntry) (x3:Int):Option ((Int×Config×(List SEntry)×Int)⊕(((List SEntry))⊕((List SEntry)))) := bif decide (x3<x0) then match ZpR (x0,x1,x2,x3,0) with
 | some (.inl y1) => some (Sum.inl (y1.fst,y1.snd.fst,y1.snd.snd.fst,Zad .i64 (y1.snd.snd.snd+1)))
 | some (.inr y2) => some (Sum.inr (Sum.inr y2))
 | none=>none else some (Sum.inr (Sum.inl x2))
def Zhm (x:Int×Config×(List SEntry)×Int):Option ((Int×Config×(List SEntry)×Int)⊕(((List SEntry))⊕((List SEntry)))):=Zpv x.1 x.2.1 x.2.2.1 x.2.2.2
def Zpy (x:Int×Config×(List SEntry)×Int):Option (((List SEntry))⊕((List SEntry))):=ZaE Zhm x
def Zrd (x0:Config) (x1:Int):Option (List SEntry) := match Zpy (x1,x0,([]:List SEntry),0) with
 | some (.inl y1) => some y1
 | some (.inr y2) => some y2
 | none=>none
def ZiM (x:Config×Int):Option (List SEntry):=Zrd x.1 x.2
def ZsY (x0:Config):Option (List SEntry) := match ZiM (x0,1) with
 | some y1 => some y1
 | none=>none
def Zm3 (x:Config):Option (List SEntry):=ZsY x
def ZqY (x0:List SEntry) (x1:Int) (x2:Int):Option (((List SEntry)×Int×Int)⊕(((List SEntry))⊕((List SEntry)))) := bif decide (x2<x1) then bif decide (0<=Zad .i64 (Zad .i64 ((↑x0.length:Int)-x2)-1)) then bif decide (Zad .i64 (Zad .i64 ((↑x0.length:Int)-x2)-1)<(↑x0.length:Int)) then bif (x0.getD (Zad .i64 (Zad .i64 ((↑x0.length:Int)-x2)-1)).toNat ZaL).kind == 1 then bif decide (0<=Zad .i64 ((↑x0.length:Int)-x2)) then bif decide (Zad .i64 ((↑x0.length:Int)-x2)<=(↑x0.length:Int)) then bif decide ((↑x0.length:Int)<=(↑x0.length:Int)) then some (Sum.inr (Sum.inr (List.drop (Zad .i64 ((↑x0.length:Int)-x2)).toNat (List.take (↑x0.length:Int).toNat x0)))) else none else none else none else some (Sum.inl (x0,x1,Zad .i64 (x2+1))) else none else none else some (Sum.inr (Sum.inl x0))
def Zic (x:(List SEntry)×Int×Int):Option (((List SEntry)×Int×Int)⊕(((List SEntry))⊕((List SEntry)))):=ZqY x.1 x.2.1 x.2.2
def Zqc (x:(List SEntry)×Int×Int):Option (((List SEntry))⊕((List SEntry))):=ZaE Zic x
def ZsZ (x0:List SEntry):Option (List SEntry) := match Zqc (x0,(↑x0.length:Int),0) with
 | some (.inl y1) => some y1
 | some (.inr y2) => some y2
 | none=>none
def Zm6 (x:(List SEntry)):Option (List SEntry):=ZsZ x
def ZrH (x0:Config) (x1:Int) (x2:Int) (x3:List SEntry) (x4:Int) (x5:Int):Option ((Config×Int×Int×(List SEntry)×Int×Int)⊕((Int))) := bif decide (x5<x4) then bif decide (0<=x5) then bif decide (x5<(↑x3.length:Int)) then bif (x3.getD x5.toNat ZaL).kind != 2 then some (Sum.inl (x0,x1,x2,x3,x4,Zad .i64 (x5+1))) else bif (x3.getD x5.toNat ZaL).t != x2 then some (Sum.inr x1) else bif Zad .i64 (x2+1) == x0.threads then some (Sum.inl (x0,Zad .i64 (x1+1),0,x3,x4,Zad .i64 (x5+1))) else some (Sum.inl (x0,x1,Zad .i64 (x2+1),x3,x4,Zad .i64 (x5+1))) else none else none else some (Sum.inr x1)
def Ziz (x:Config×Int×Int×(List SEntry)×Int×Int):Option ((Config×Int×Int×(List SEntry)×Int×Int)⊕((Int))):=ZrH x.1 x.2.1 x.2.2.1 x.2.2.2.1 x.2.2.2.2.1 x.2.2.2.2.2
def Zrh (x:Config×Int×Int×(List SEntry)×Int×Int):Option Int:=ZaE Ziz x
def Zt7 (x0:Config) (x1:List SEntry):Option Int := match Zm6 x1 with
 | some y1 => match Zrh (x0,0,0,y1,(↑(List.length y1):Int),0) with
  | some y2 => some y2
  | none=>none
 | none=>none
def Zc0 (x:Config×(List SEntry)):Option Int:=Zt7 x.1 x.2
def Zqo (x0:List SEntry) (x1:Config) (x2:Int) (x3:Int):Option (((List SEntry)×Config×Int×Int)⊕((Config×Int))) := bif decide (x3<(↑x0.length:Int)) then bif decide (0<=x3) then bif decide (x3<(↑x0.length:Int)) then bif (x0.getD x3.toNat ZaL).kind != 2 then some (Sum.inl (x0,x1,x2,Zad .i64 (x3+1))) else bif decide (0<=x3) then bif decide (x3<(↑x0.length:Int)) then bif decide (x1.threads=0) then none else bif (x0.getD x3.toNat ZaL).t != x2.tmod x1.threads then some (Sum.inr (x1,x2)) else some (Sum.inl (x0,x1,Zad .i64 (x2+1),Zad .i64 (x3+1))) else none else none else none else none else some (Sum.inr (x1,x2))
def ZhL (x:(List SEntry)×Config×Int×Int):Option (((List SEntry)×Config×Int×Int)⊕((Config×Int))):=Zqo x.1 x.2.1 x.2.2.1 x.2.2.2
def Zqz (x:(List SEntry)×Config×Int×Int):Option (Config×Int):=ZaE ZhL x
def Zrb (x0:List SEntry) (x1:Config) (x2:Int) (x3:Int):Option (((List SEntry)×Config×Int×Int)⊕(((List SEntry)×Config×Int))) := bif decide (x3<(↑x0.length:Int)) then bif decide (0<=x3) then bif decide (x3<(↑x0.length:Int)) then bif (x0.getD x3.toNat ZaL).kind == 1 then some (Sum.inl (x0,x1,Zad .i64 (x3+1),Zad .i64 (x3+1))) else some (Sum.inl (x0,x1,x2,Zad .i64 (x3+1))) else none else none else some (Sum.inr (x0,x1,x2))
def ZhP (x:(List SEntry)×Config×Int×Int):Option (((List SEntry)×Config×Int×Int)⊕(((List SEntry)×Config×Int))):=Zrb x.1 x.2.1 x.2.2.1 x.2.2.2
def ZqT (x:(List SEntry)×Config×Int×Int):Option (((List SEntry)×Config×Int)):=ZaE ZhP x
def ZsT (x0:Config) (x1:List SEntry):Option Int := match ZqT (x1,x0,0,0) with
 | some y1 => match Zqz (y1.fst,y1.snd.fst,0,y1.snd.snd) with
  | some y2 => bif decide (y2.fst.threads=0) then none else some (Zad .i64 (Int.tdiv y2.snd y2.fst.threads))
  | none=>none
 | none=>none
def ZjM (x:Config×(List SEntry)):Option Int:=ZsT x.1 x.2
def Zvd (x0:Config) (x1:List SEntry):Option Bool := match Zcx x0 with
 | some y1 => match Zc0 (x0,x1) with
  | some y2 => some (decide (y1<=y2))
  | none=>none
 | none=>none
def ZeQ (x:Config×(List SEntry)):Option Bool:=Zvd x.1 x.2
def ZuE (x0:Config) (x1:List SEntry):Option Bool := match ZjM (x0,x1) with
 | some y1 => match Zin x0 with
  | some y2 => some (decide (y1>=y2))
  | none=>none
 | none=>none
def Zok (x:Config×(List SEntry)):Option Bool:=ZuE x.1 x.2
def Ze6 (x0:Int) (x1:List Thread) (x2:Int) (x3:Int):Option ((Int×(List Thread)×Int×Int)⊕((Int))) := bif decide (x3<x2) then bif decide (0<=x3) then bif decide (x3<(↑x1.length:Int)) then match Zbr (x1.getD x3.toNat Zaw) with
 | some y1 => bif y1 then some (Sum.inl (Zad .i64 (x0+1),x1,x2,Zad .i64 (x3+1))) else some (Sum.inl (x0,x1,x2,Zad .i64 (x3+1)))
 | none=>none else none else none else some (Sum.inr x0)
def Zgx (x:Int×(List Thread)×Int×Int):Option ((Int×(List Thread)×Int×Int)⊕((Int))):=Ze6 x.1 x.2.1 x.2.2.1 x.2.2.2
def ZiO (x:Int×(List Thread)×Int×Int):Option Int:=ZaE Zgx x
def ZkZ (x0:Wld):Option Int := match ZiO (0,x0.t,(↑x0.t.length:Int),0) with
 | some y1 => some y1
 | none=>none
def Zep (x:Wld):Option Int:=ZkZ x
def Ztb (x0:Config) (x1:Int):Option Int := bif decide (x1<0) then some ((-1:Int)) else bif decide (x1>=x0.items) then some ((-1:Int)) else match Zda x0 with
 | some y1 => some (Zad .i64 (x1*y1))
 | none=>none
def Ztu (x:Config×Int):Option Int:=Ztb x.1 x.2
def ZgY (x0:Int) (x1:Int):Option (Int×Bool) :=
 some ((Zad .i64 (x0+x1),decide (x1>=0) == decide (Zad .i64 (x0+x1)>=x0)))
def ZgP (x:Int×Int):Option (Int×Bool):=ZgY x.1 x.2
def ZcM (x0:Op) (x1:Int) (x2:Int) (x3:Int):Option (Int×Bool) := bif x0.tag == 1 then some ((Zad .i64 (x1+x0.v),true)) else bif x0.tag == 2 then some ((Zad .i64 (x1-x0.v),true)) else bif x0.tag == 3 then some ((Zad .i64 (↑(BitVec.ofInt IntKind.i64.bits x1 ||| BitVec.ofInt IntKind.i64.bits x0.v).toNat:Int),true)) else bif x0.tag == 4 then some ((Zad .i64 (↑(BitVec.ofInt IntKind.i64.bits x1 &&& BitVec.ofInt IntKind.i64.bits x0.v).toNat:Int),true)) else bif x0.tag == 5 then some ((if x0.v>x1 then x0.v else x1,true)) else bif x0.tag == 6 then some ((if x0.v<x1 then x0.v else x1,true)) else bif x0.tag == 7 then some ((x0.v,true)) else bif x0.tag == 8 then match ZgP (x1,x0.v) with
 | some y1 => bif !y1.snd then some ((x1,false)) else bif decide (y1.fst<x2) then some ((x1,false)) else bif decide (y1.fst>x3) then some ((x1,false)) else some ((y1.fst,true))
 | none=>none else bif x0.tag == 9 then bif decide (x0.v<0) then some ((x1,false)) else bif decide (x1<x2) then some ((x1,false)) else bif decide (IntKind.u64.wrap x0.v>=Zad IntKind.u64 (IntKind.u64.wrap x1-IntKind.u64.wrap x2)) then some ((x2,true)) else some ((Zad .i64 (x1-x0.v),true)) else some ((x1,false))
def ZsS (x:Op×Int×Int×Int):Option (Int×Bool):=ZcM x.1 x.2.1 x.2.2.1 x.2.2.2
def Zp0 (x0:Config) (x1:Int×Int×Int×Int×Int×Int×Int×Int×Int×Int×Int×Int×Int×Int×Int×Int×Int×Int×Int×Int×Int×Int×Int×Int) (x2:Int):Option ((Config×(Int×Int×Int×Int×Int×Int×Int×Int×Int×Int×Int×Int×Int×Int×Int×Int×Int×Int×Int×Int×Int×Int×Int×Int)×Int)⊕((Config)⊕(Int))) := bif decide (x2<8) then bif decide (0<=x2) then bif decide (x2<(↑(8:Nat):Int)) then bif decide (x2=(↑(0:Nat):Int)) then bif decide (x1.fst<x1.snd.fst) then some (Sum.inr (Sum.inr (Zad .i64 (50+x2)))) else bif decide (x1.fst>x1.snd.snd.fst) then some (Sum.inr (Sum.inr (Zad .i64 (50+x2)))) else some (Sum.inl (x0,x1,Zad .i64 (x2+1))) else bif decide (x2=(↑((0:Nat)+(1:Nat)):Int)) then bif decide (x1.snd.snd.snd.fst<x1.snd.snd.snd.snd.fst) then some (Sum.inr (Sum.inr (Zad .i64 (50+x2)))) else bif decide (x1.snd.snd.snd.fst>x1.snd.snd.snd.snd.snd.fst) then some (Sum.inr (Sum.inr (Zad .i64 (50+x2)))) else some (Sum.inl (x0,x1,Zad .i64 (x2+1))) else bif decide (x2=(↑((0:Nat)+(1:Nat)+(1:Nat)):Int)) then bif decide (x1.snd.snd.snd.snd.snd.snd.fst<x1.snd.snd.snd.snd.snd.snd.snd.fst) then some (Sum.inr (Sum.inr (Zad .i64 (50+x2)))) else bif decide (x1.snd.snd.snd.snd.snd.snd.fst>x1.snd.snd.snd.snd.snd.snd.snd.snd.fst) then some (Sum.inr (Sum.inr (Zad .i64 (50+x2)))) else some (Sum.inl (x0,x1,Zad .i64 (x2+1))) else bif decide (x2=(↑((0:Nat)+(1:Nat)+(1:Nat)+(1:Nat)):Int)) then bif decide (x1.snd.snd.snd.snd.snd.snd.snd.snd.snd.fst<x1.snd.snd.snd.snd.snd.snd.snd.snd.snd.snd.fst) then some (Sum.inr (Sum.inr (Zad .i64 (50+x2)))) else bif decide (x1.snd.snd.snd.snd.snd.snd.snd.snd.snd.fst>x1.snd.snd.snd.snd.snd.snd.snd.snd.snd.snd.snd.fst) then some (Sum.inr (Sum.inr (Zad .i64 (50+x2)))) else some (Sum.inl (x0,x1,Zad .i64 (x2+1))) else bif decide (x2=(↑((0:Nat)+(1:Nat)+(1:Nat)+(1:Nat)+(1:Nat)):Int)) then bif decide (x1.snd.snd.snd.snd.snd.snd.snd.snd.snd.snd.snd.snd.fst<x1.snd.snd.snd.snd.snd.snd.snd.snd.snd.snd.snd.snd.snd.fst) then some (Sum.inr (Sum.inr (Zad .i64 (50+x2)))) else bif decide (x1.snd.snd.snd.snd.snd.snd.snd.snd.snd.snd.snd.snd.fst>x1.snd.snd.snd.snd.snd.snd.snd.snd.snd.snd.snd.snd.snd.snd.fst) then some (Sum.inr (Sum.inr (Zad .i64 (50+x2)))) else some (Sum.inl (x0,x1,Zad .i64 (x2+1))) else bif decide (x2=(↑((0:Nat)+(1:Nat)+(1:Nat)+(1:Nat)+(1:Nat)+(1:Nat)):Int)) then bif decide (x1.snd.snd.snd.snd.snd.snd.snd.snd.snd.snd.snd.snd.snd.snd.snd.fst<x1.snd.snd.snd.snd.snd.snd.snd.snd.snd.snd.snd.snd.snd.snd.snd.snd.fst) then some (Sum.inr (Sum.inr (Zad .i64 (50+x2)))) else bif decide (x1.snd.snd.snd.snd.snd.snd.snd.snd.snd.snd.snd.snd.snd.snd.snd.fst>x1.snd.snd.snd.snd.snd.snd.snd.snd.snd.snd.snd.snd.snd.snd.snd.snd.snd.fst) then some (Sum.inr (Sum.inr (Zad .i64 (50+x2)))) else some (Sum.inl (x0,x1,Zad .i64 (x2+1))) else bif decide (x2=(↑((0:Nat)+(1:Nat)+(1:Nat)+(1:Nat)+(1:Nat)+(1:Nat)+(1:Nat)):Int)) then bif decide (x1.snd.snd.snd.snd.snd.snd.snd.snd.snd.snd.snd.snd.snd.snd.snd.snd.snd.snd.fst<x1.snd.snd.snd.snd.snd.snd.snd.snd.snd.snd.snd.snd.snd.snd.snd.snd.snd.snd.snd.fst) then some (Sum.inr (Sum.inr (Zad .i64 (50+x2)))) else bif decide (x1.snd.snd.snd.snd.snd.snd.snd.snd.snd.snd.snd.snd.snd.snd.snd.snd.snd.snd.fst>x1.snd.snd.snd.snd.snd.snd.snd.snd.snd.snd.snd.snd.snd.snd.snd.snd.snd.snd.snd.snd.fst) then some (Sum.inr (Sum.inr (Zad .i64 (50+x2)))) else some (Sum.inl (x0,x1,Zad .i64 (x2+1))) else bif decide (x2=(↑((0:Nat)+(1:Nat)+(1:Nat)+(1:Nat)+(1:Nat)+(1:Nat)+(1:Nat)+(1:Nat)):Int)) then bif decide (x1.snd.snd.snd.snd.snd.snd.snd.snd.snd.snd.snd.snd.snd.snd.snd.snd.snd.snd.snd.snd.snd.fst<x1.snd.snd.snd.snd.snd.snd.snd.snd.snd.snd.snd.snd.snd.snd.snd.snd.snd.snd.snd.snd.snd.snd.fst) then some (Sum.inr (Sum.inr (Zad .i64 (50+x2)))) else bif decide (x1.snd.snd.snd.snd.snd.snd.snd.snd.snd.snd.snd.snd.snd.snd.snd.snd.snd.snd.snd.snd.snd.fst>x1.snd.snd.snd.snd.snd.snd.snd.snd.snd.snd.snd.snd.snd.snd.snd.snd.snd.snd.snd.snd.snd.snd.snd) then some (Sum.inr (Sum.inr (Zad .i64 (50+x2)))) else some (Sum.inl (x0,x1,Zad .i64 (x2+1))) else none else none else none else some (Sum.inr (Sum.inl x0))
def Zer (x:Config×(Int×Int×Int×Int×Int×Int×Int×Int×Int×Int×Int×Int×Int×Int×Int×Int×Int×Int×Int×Int×Int×Int×Int×Int)×Int):Option ((Config×(Int×Int×Int×Int×Int×Int×Int×Int×Int×Int×Int×Int×Int×Int×Int×Int×Int×Int×Int×Int×Int×Int×Int×Int)×Int)⊕((Config)⊕(Int))):=Zp0 x.1 x.2.1 x.2.2
def ZcS (x:Config×(Int×Int×Int×Int×Int×Int×Int×Int×Int×Int×Int×Int×Int×Int×Int×Int×Int×Int×Int×Int×Int×Int×Int×Int)×Int):Option ((Config)⊕(Int)):=ZaE Zer x
def Zij (x0:Config):Option Int := match ZcS (x0,(x0.threads,1,16,x0.items,1,4,x0.backend,1,3,x0.depth,0,4,x0.layers,0,3,x0.width,1,8,x0.spin,0,20,x0.wait,0,1000),0) with
 | some (.inl y1) => bif y1.bounded then bif decide (y1.init<y1.lo) then some (58) else bif decide (y1.hi<y1.init) then some (58) else some (0) else some (0)
 | some (.inr y2) => some y2
 | none=>none
def Zee (x:Config):Option Int:=Zij x
def Zfa (x0:Config) (x1:List SEntry) (x2:Int) (x3:Int):Option ((Config×(List SEntry)×Int×Int)⊕((Unit)⊕(Int×Int))) := bif decide (x3<x2) then bif decide (0<=x3) then bif decide (x3<(↑x1.length:Int)) then match Zgs (x0,x1.getD x3.toNat ZaL) with
 | some y1 => bif y1 != 0 then some (Sum.inr (Sum.inr (x3,y1))) else some (Sum.inl (x0,x1,x2,Zad .i64 (x3+1)))
 | none=>none else none else none else some (Sum.inr (Sum.inl ()))
def Zgq (x:Config×(List SEntry)×Int×Int):Option ((Config×(List SEntry)×Int×Int)⊕((Unit)⊕(Int×Int))):=Zfa x.1 x.2.1 x.2.2.1 x.2.2.2
def ZiE (x:Config×(List SEntry)×Int×Int):Option ((Unit)⊕(Int×Int)):=ZaE Zgq x
def ZkD (x0:Config) (x1:List SEntry):Option (Int×Int) := match Zee x0 with
 | some y1 => bif y1 != 0 then some ((0,y1)) else bif decide ((↑x1.length:Int)>65536) then some ((0,2)) else match ZiE (x0,x1,(↑x1.length:Int),0) with
  | some (.inl y2) => some ((0,0))
  | some (.inr y3) => some y3
  | none=>none
 | none=>none
def Zh1 (x:Config×(List SEntry)):Option (Int×Int):=ZkD x.1 x.2
def Zjz (x0:Config):Option Int := bif decide (x0.depth<0) then none else some (Zad .i64 (Zad .i64 (1*2 ^ min x0.depth.toNat IntKind.i64.bits)-1))
def ZfD (x:Config):Option Int:=Zjz x
def ZmC (x0:Config):Option Plan := match ZfD x0 with
 | some y1 => some (Plan.mk 1 (Zad .i64 (1+y1)) (Zad .i64 (Zad .i64 (1+y1)+Zad .i64 (x0.layers*x0.width))) (Zad .i64 (x0.items*Zad .i64 (Zad .i64 (1+y1)+Zad .i64 (x0.layers*x0.width)))))
 | none=>none
def Zcm (x:Config):Option Plan:=ZmC x
def Zh0 (x0:Config) (x1:Int):Option Int := bif decide (x1<0) then some ((-1:Int)) else bif decide (x1>=x0.items) then some ((-1:Int)) else match Zcm x0 with
 | some y1 => some (Zad .i64 (x1*y1.block))
 | none=>none
def ZcZ (x:Config×Int):Option Int:=Zh0 x.1 x.2
def Zln (x0:Int):Option (List Int) := bif decide (x0<1) then some (([]:List Int)) else bif decide (x0>10000) then some (([]:List Int)) else bif x0 == x0 then bif decide (0<=x0) then bif decide (x0<=Zbw) then some (List.replicate x0.toNat 0) else none else none else none
def ZhR (x:Int):Option (List Int):=Zln x
def Zf3 (x0:Int):Option ((List (List Entry))) := bif decide (x0<1) then some (([]:List (List Entry))) else bif decide (x0>10000) then some (([]:List (List Entry))) else bif x0 == x0 then bif decide (0<=x0) then bif decide (x0<=Zbw) then some (List.replicate x0.toNat ([]:List Entry)) else none else none else none
def Zeq (x:Int):Option ((List (List Entry))):=Zf3 x
def ZmD (x0:Int) (x1:Int):Option Memo := match ZhR x0 with
 | some y1 => match Zeq x1 with
  | some y2 => some (Memo.mk y1 y2)
  | none=>none
 | none=>none
def ZmI (x:Int×Int):Option Memo:=ZmD x.1 x.2
def Zkd (x0:Config):Option Int := match Zcm x0 with
 | some y1 => some (Zad .i64 (y1.lines+Zad .i64 (2*x0.threads)))
 | none=>none
def ZkP (x:Config):Option Int:=Zkd x
def ZeG (x0:Config) (x1:Memo) (x2:Memo) (x3:Int) (x4:Int):Option ((Config×Memo×Memo×Int×Int)⊕((Memo×Memo))) := bif decide (x4<x3) then match ZcZ (x0,x4) with
 | some y1 => bif decide (0<=y1) then bif decide (y1<(↑x2.words.length:Int)) then some (Sum.inl (x0,x1,{ x2 with words:=x2.words.set (Int.toNat y1) x0.init },x3,Zad .i64 (x4+1))) else none else none
 | none=>none else some (Sum.inr (x1,x2))
def ZfX (x:Config×Memo×Memo×Int×Int):Option ((Config×Memo×Memo×Int×Int)⊕((Memo×Memo))):=ZeG x.1 x.2.1 x.2.2.1 x.2.2.2.1 x.2.2.2.2
def Zlm (x:Config×Memo×Memo×Int×Int):Option (Memo×Memo):=ZaE ZfX x
def ZjK (x0:Config):Option Memo := match ZkP x0 with
 | some y1 => match ZmI (y1,x0.threads) with
  | some y2 => match Zlm (x0,Memo.mk ([]:List Int) ([]:List (List Entry)),y2,x0.items,0) with
   | some y3 => some (y3.snd)
   | none=>none
  | none=>none
 | none=>none
def ZjO (x:Config):Option Memo:=ZjK x
def Ztl:Option Thread :=
 some (Thread.mk 0 0 (Op.mk 0 0) ([]:List Entry) ([]:List Kid) ([]:List Int) 0 0 0 0 0 1 0 0 0 0)
def Zke (x:Unit):Option Thread:=Ztl
def Zdt (x0:List Int):Option (List Int) := bif fewB ((0:Nat)+x0.length) then some (x0) else none
def Zbt (x:(List Int)):Option (List Int):=Zdt x
def ZfC (x0:List Int) (x1:Int):Option (Int×Int) := bif decide (x1<0) then some ((0,30)) else bif decide (x1>=(↑x0.length:Int)) then some ((0,30)) else bif decide (0<=x1) then bif decide (x1<(↑x0.length:Int)) then some ((x0.getD x1.toNat 0,0)) else none else none
def ZbB (x:(List Int)×Int):Option (Int×Int):=ZfC x.1 x.2
def ZfL (x0:Memo) (x1:Int):Option (Int×Int) := match ZbB (x0.words,x1) with
 | some y1 => some y1
 | none=>none
def ZbZ (x:Memo×Int):Option (Int×Int):=ZfL x.1 x.2
def ZoX (x0:Int) (x1:Int):Option (Int×Int) :=
 some ((Zad IntKind.u64 (Zad IntKind.u64 (Zad IntKind.u64 (x0.fdiv (2 ^ min (Int.toNat 32) IntKind.u64.bits)*x1.fdiv (2 ^ min (Int.toNat 32) IntKind.u64.bits))+(Zad IntKind.u64 (Zad IntKind.u64 (x0.fdiv (2 ^ min (Int.toNat 32) IntKind.u64.bits)*Zad IntKind.u64 (↑(BitVec.ofInt IntKind.u64.bits x1 &&& BitVec.ofInt IntKind.u64.bits 4294967295).toNat:Int))+(Zad IntKind.u64 (Zad IntKind.u64 (↑(BitVec.ofInt IntKind.u64.bits x0 &&& BitVec.ofInt IntKind.u64.bits 4294967295).toNat:Int)*Zad IntKind.u64 (↑(BitVec.ofInt IntKind.u64.bits x1 &&& BitVec.ofInt IntKind.u64.bits 4294967295).toNat:Int))).fdiv (2 ^ min (Int.toNat 32) IntKind.u64.bits))).fdiv (2 ^ min (Int.toNat 32) IntKind.u64.bits))+(Zad IntKind.u64 (Zad IntKind.u64 (↑(BitVec.ofInt IntKind.u64.bits (Zad IntKind.u64 (Zad IntKind.u64 (x0.fdiv (2 ^ min (Int.toNat 32) IntKind.u64.bits)*Zad IntKind.u64 (↑(BitVec.ofInt IntKind.u64.bits x1 &&& BitVec.ofInt IntKind.u64.bits 4294967295).toNat:Int))+(Zad IntKind.u64 (Zad IntKind.u64 (↑(BitVec.ofInt IntKind.u64.bits x0 &&& BitVec.ofInt IntKind.u64.bits 4294967295).toNat:Int)*Zad IntKind.u64 (↑(BitVec.ofInt IntKind.u64.bits x1 &&& BitVec.ofInt IntKind.u64.bits 4294967295).toNat:Int))).fdiv (2 ^ min (Int.toNat 32) IntKind.u64.bits))) &&& BitVec.ofInt IntKind.u64.bits 4294967295).toNat:Int)+Zad IntKind.u64 (Zad IntKind.u64 (↑(BitVec.ofInt IntKind.u64.bits x0 &&& BitVec.ofInt IntKind.u64.bits 4294967295).toNat:Int)*x1.fdiv (2 ^ min (Int.toNat 32) IntKind.u64.bits)))).fdiv (2 ^ min (Int.toNat 32) IntKind.u64.bits)),Zad IntKind.u64 (x0*x1)))
def ZjS (x:Int×Int):Option (Int×Int):=ZoX x.1 x.2
def ZqS (x0:Int) (x1:Int):Option (Int×Int) := match ZjS (x0,x1) with
 | some y1 => some y1
 | none=>none
def ZdC (x:Int×Int):Option (Int×Int):=ZqS x.1 x.2
def Zm1 (x0:Int) (x1:Int) (x2:Int) (x3:Int):Option Bool := bif decide (x1>=0) then bif decide (Zad .i64 (x0+x1)>=x0) then bif decide (Zad .i64 (x0+x1)<x2) then some (true) else some (decide (Zad .i64 (x0+x1)>x3)) else bif decide (x1<0) then bif decide (Zad .i64 (x0+x1)<x0) then bif decide (Zad .i64 (x0+x1)<x2) then some (true) else some (decide (Zad .i64 (x0+x1)>x3)) else some (true) else some (true) else bif decide (x1<0) then bif decide (Zad .i64 (x0+x1)<x0) then bif decide (Zad .i64 (x0+x1)<x2) then some (true) else some (decide (Zad .i64 (x0+x1)>x3)) else some (true) else some (true)
def ZjL (x:Int×Int×Int×Int):Option Bool:=Zm1 x.1 x.2.1 x.2.2.1 x.2.2.2
def ZhT (x0:Op) (x1:Int) (x2:Int) (x3:Int):Option (Int×Bool) := bif x0.tag == 2 then some ((Zad .i64 (x1+Zad .i64 (0-x0.v)),true)) else bif x0.tag == 1 then some ((Zad .i64 (x1+x0.v),true)) else bif x0.tag == 3 then some ((Zad .i64 (↑(BitVec.ofInt IntKind.i64.bits x1 ||| BitVec.ofInt IntKind.i64.bits x0.v).toNat:Int),true)) else bif x0.tag == 4 then some ((Zad .i64 (↑(BitVec.ofInt IntKind.i64.bits x1 &&& BitVec.ofInt IntKind.i64.bits x0.v).toNat:Int),true)) else bif x0.tag == 5 then some ((if x1>x0.v then x1 else x0.v,true)) else bif x0.tag == 6 then some ((if x1<x0.v then x1 else x0.v,true)) else bif x0.tag == 7 then some ((x0.v,true)) else bif x0.tag == 9 then bif decide (x0.v<0) then some ((x1,false)) else bif decide (x1<x2) then some ((x1,false)) else bif decide (Zad .i64 (x1-x0.v)<=x1) then bif decide (Zad .i64 (x1-x0.v)>=x2) then some ((Zad .i64 (x1-x0.v),true)) else some ((x2,true)) else some ((x2,true)) else bif x0.tag == 8 then match ZjL (x1,x0.v,x2,x3) with
 | some y1 => bif !y1 then some ((Zad .i64 (x1+x0.v),true)) else some ((x1,false))
 | none=>none else some ((x1,false))
def ZcJ (x:Op×Int×Int×Int):Option (Int×Bool):=ZhT x.1 x.2.1 x.2.2.1 x.2.2.2
def Zf0 (x0:Memo) (x1:Int) (x2:Int):Option (Memo×Int) := match ZbB (x0.words,x1) with
 | some y1 => bif y1.snd != 0 then some ((x0,y1.snd)) else match Zbt x0.words with
  | some y2 => bif decide (0<=x1) then bif decide (x1<(↑(List.length y2):Int)) then some (({ x0 with words:=List.set y2 x1.toNat x2 },y1.snd)) else none else none
  | none=>none
 | none=>none
def Zb5 (x:Memo×Int×Int):Option (Memo×Int):=Zf0 x.1 x.2.1 x.2.2
def Zkc (x0:Config) (x1:Int):Option Int := bif decide (x1<0) then some ((-1:Int)) else bif decide (x1>=x0.threads) then some ((-1:Int)) else match Zcm x0 with
 | some y1 => some (Zad .i64 (y1.lines+Zad .i64 (2*x1)))
 | none=>none
def Zc6 (x:Config×Int):Option Int:=Zkc x.1 x.2
def Zh6 (x0:Turn):Option Turn := bif x0.c.backend == 2 then bif decide (x0.c.depth>0) then some ({ x0 with th:={ x0.th with phase:=4 } }) else bif x0.c.backend == 3 then bif decide (x0.c.layers>0) then some ({ x0 with th:={ x0.th with phase:=17,layer:=1 } }) else some ({ x0 with th:={ x0.th with phase:=2 } }) else some ({ x0 with th:={ x0.th with phase:=2 } }) else bif x0.c.backend == 3 then bif decide (x0.c.layers>0) then some ({ x0 with th:={ x0.th with phase:=17,layer:=1 } }) else some ({ x0 with th:={ x0.th with phase:=2 } }) else some ({ x0 with th:={ x0.th with phase:=2 } })
def ZhK (x:Turn):Option Turn:=Zh6 x
def ZhB (x0:Turn):Option (Turn×Bool) := bif x0.th.phase != 1 then some ((x0,false)) else match Zc6 (x0.c,x0.t) with
 | some y1 => match Zb5 (x0.m,y1,0) with
  | some y2 => bif y2.snd != 0 then some ((x0,true)) else match ZhK { x0 with m:=y2.fst } with
   | some y3 => some ((y3,true))
   | none=>none
  | none=>none
 | none=>none
def ZhH (x:Turn):Option (Turn×Bool):=ZhB x
def Zkf (x0:Config) (x1:Int) (x2:Int):Option Int := bif decide (x1<0) then some ((-1:Int)) else bif decide (x1>=x0.items) then some ((-1:Int)) else match ZfD x0 with
 | some y1 => bif decide (x2<1) then some ((-1:Int)) else bif decide (x2>=Zad .i64 (1+y1)) then some ((-1:Int)) else match Zcm x0 with
  | some y2 => some (Zad .i64 (Zad .i64 (x1*y2.block)+x2))
  | none=>none
 | none=>none
def Zet (x:Config×Int×Int):Option Int:=Zkf x.1 x.2.1 x.2.2
def Zdh (x0:Said):Option Int :=
 some (Zad .i64 (Zad .i64 (8*Zad .i64 (x0.n+1))+x0.kind))
def ZbM (x:Said):Option Int:=Zdh x
def ZkB (x0:Int):Option Int := match ZbM (Said.mk 1 x0) with
 | some y1 => some y1
 | none=>none
def Zff (x:Int):Option Int:=ZkB x
def Zl0 (x0:Int):Option Int :=
 some ((if 0>x0 then 0 else x0).fdiv (2 ^ min (Int.toNat 1) IntKind.i64.bits))
def Ziq (x:Int):Option Int:=Zl0 x
def ZkA (x0:Turn):Option Turn := bif decide (x0.th.stop>0) then bif decide (x0.th.at_>=0) then bif decide (x0.th.at_<(↑x0.th.held.length:Int)) then some ({ x0 with th:={ x0.th with phase:=7 } }) else some ({ x0 with th:={ x0.th with phase:=11 } }) else some ({ x0 with th:={ x0.th with phase:=11 } }) else bif decide (x0.th.at_>=0) then bif decide (x0.th.at_<(↑x0.th.held.length:Int)) then some ({ x0 with th:={ x0.th with phase:=7 } }) else some ({ x0 with th:={ x0.th with phase:=2 } }) else some ({ x0 with th:={ x0.th with phase:=2 } })
def Zf2 (x:Turn):Option Turn:=ZkA x
def Zkw (x0:Turn):Option Turn := match Zf2 { x0 with th:={ x0.th with at_:=0 } } with
 | some y1 => some y1
 | none=>none
def Zeo (x:Turn):Option Turn:=Zkw x
def Zjy (x0:Turn):Option Turn := match Zbt x0.th.held with
 | some y1 => bif fewB (List.length y1+(x0.th.node::[]).length) then match Ziq x0.th.node with
  | some y2 => bif decide (y2>0) then some ({ x0 with th:={ x0.th with held:=y1++x0.th.node::[],node:=y2 } }) else match Zeo { x0 with th:={ x0.th with held:=y1++x0.th.node::[],node:=y2 } } with
   | some y3 => some y3
   | none=>none
  | none=>none else none
 | none=>none
def ZjR (x:Turn):Option Turn:=Zjy x
def ZhF (x0:Memo) (x1:Int) (x2:Int) (x3:Int):Option (Memo×Bool×Int) := match ZbB (x0.words,x1) with
 | some y1 => bif y1.snd != 0 then some ((x0,false,y1.snd)) else bif y1.fst == x2 then match Zbt x0.words with
  | some y2 => bif decide (0<=x1) then bif decide (x1<(↑(List.length y2):Int)) then some (({ x0 with words:=List.set y2 x1.toNat x3 },y1.fst == x2,y1.snd)) else none else none
  | none=>none else some ((x0,y1.fst == x2,y1.snd))
 | none=>none
def ZcP (x:Memo×Int×Int×Int):Option (Memo×Bool×Int):=ZhF x.1 x.2.1 x.2.2.1 x.2.2.2
def Zjo (x0:Turn):Option Bool := bif decide (0<x0.th.until_) then some (decide (x0.th.until_<=x0.now)) else some (false)
def ZdR (x:Turn):Option Bool:=Zjo x
def Zov (x0:Int):Option Said := bif Zad .i64 (↑(BitVec.ofInt IntKind.i64.bits x0 &&& BitVec.ofInt IntKind.i64.bits 7).toNat:Int) == 5 && (Zad .i64 (x0.fdiv (2 ^ min (Int.toNat 3) IntKind.i64.bits)-1) == (-1:Int) && true) then some (Said.mk (Zad .i64 (↑(BitVec.ofInt IntKind.i64.bits x0 &&& BitVec.ofInt IntKind.i64.bits 7).toNat:Int)) (Zad .i64 (x0.fdiv (2 ^ min (Int.toNat 3) IntKind.i64.bits)-1))) else bif decide (Zad .i64 (↑(BitVec.ofInt IntKind.i64.bits x0 &&& BitVec.ofInt IntKind.i64.bits 7).toNat:Int)>=1) then bif decide (Zad .i64 (↑(BitVec.ofInt IntKind.i64.bits x0 &&& BitVec.ofInt IntKind.i64.bits 7).toNat:Int)<=3) then bif decide (Zad .i64 (x0.fdiv (2 ^ min (Int.toNat 3) IntKind.i64.bits)-1)>=0) then bif decide (Zad .i64 (x0.fdiv (2 ^ min (Int.toNat 3) IntKind.i64.bits)-1)<16) then some (Said.mk (Zad .i64 (↑(BitVec.ofInt IntKind.i64.bits x0 &&& BitVec.ofInt IntKind.i64.bits 7).toNat:Int)) (Zad .i64 (x0.fdiv (2 ^ min (Int.toNat 3) IntKind.i64.bits)-1))) else bif Zad .i64 (↑(BitVec.ofInt IntKind.i64.bits x0 &&& BitVec.ofInt IntKind.i64.bits 7).toNat:Int) == 4 then bif decide ((Zad .i64 (x0.fdiv (2 ^ min (Int.toNat 3) IntKind.i64.bits)-1)).fdiv (2 ^ min (Int.toNat 4) IntKind.i64.bits)>=0) then bif decide ((Zad .i64 (x0.fdiv (2 ^ min (Int.toNat 3) IntKind.i64.bits)-1)).fdiv (2 ^ min (Int.toNat 4) IntKind.i64.bits)<4) then bif decide (Zad .i64 (↑(BitVec.ofInt IntKind.i64.bits (Zad .i64 (x0.fdiv (2 ^ min (Int.toNat 3) IntKind.i64.bits)-1)) &&& BitVec.ofInt IntKind.i64.bits 15).toNat:Int)>=1) then bif decide (Zad .i64 (↑(BitVec.ofInt IntKind.i64.bits (Zad .i64 (x0.fdiv (2 ^ min (Int.toNat 3) IntKind.i64.bits)-1)) &&& BitVec.ofInt IntKind.i64.bits 15).toNat:Int)<=3) then some (Said.mk (Zad .i64 (↑(BitVec.ofInt IntKind.i64.bits x0 &&& BitVec.ofInt IntKind.i64.bits 7).toNat:Int)) (Zad .i64 (x0.fdiv (2 ^ min (Int.toNat 3) IntKind.i64.bits)-1))) else some (Said.mk 0 0) else some (Said.mk 0 0) else some (Said.mk 0 0) else some (Said.mk 0 0) else some (Said.mk 0 0) else bif Zad .i64 (↑(BitVec.ofInt IntKind.i64.bits x0 &&& BitVec.ofInt IntKind.i64.bits 7).toNat:Int) == 4 then bif decide ((Zad .i64 (x0.fdiv (2 ^ min (Int.toNat 3) IntKind.i64.bits)-1)).fdiv (2 ^ min (Int.toNat 4) IntKind.i64.bits)>=0) then bif decide ((Zad .i64 (x0.fdiv (2 ^ min (Int.toNat 3) IntKind.i64.bits)-1)).fdiv (2 ^ min (Int.toNat 4) IntKind.i64.bits)<4) then bif decide (Zad .i64 (↑(BitVec.ofInt IntKind.i64.bits (Zad .i64 (x0.fdiv (2 ^ min (Int.toNat 3) IntKind.i64.bits)-1)) &&& BitVec.ofInt IntKind.i64.bits 15).toNat:Int)>=1) then bif decide (Zad .i64 (↑(BitVec.ofInt IntKind.i64.bits (Zad .i64 (x0.fdiv (2 ^ min (Int.toNat 3) IntKind.i64.bits)-1)) &&& BitVec.ofInt IntKind.i64.bits 15).toNat:Int)<=3) then some (Said.mk (Zad .i64 (↑(BitVec.ofInt IntKind.i64.bits x0 &&& BitVec.ofInt IntKind.i64.bits 7).toNat:Int)) (Zad .i64 (x0.fdiv (2 ^ min (Int.toNat 3) IntKind.i64.bits)-1))) else some (Said.mk 0 0) else some (Said.mk 0 0) else some (Said.mk 0 0) else some (Said.mk 0 0) else some (Said.mk 0 0) else bif Zad .i64 (↑(BitVec.ofInt IntKind.i64.bits x0 &&& BitVec.ofInt IntKind.i64.bits 7).toNat:Int) == 4 then bif decide ((Zad .i64 (x0.fdiv (2 ^ min (Int.toNat 3) IntKind.i64.bits)-1)).fdiv (2 ^ min (Int.toNat 4) IntKind.i64.bits)>=0) then bif decide ((Zad .i64 (x0.fdiv (2 ^ min (Int.toNat 3) IntKind.i64.bits)-1)).fdiv (2 ^ min (Int.toNat 4) IntKind.i64.bits)<4) then bif decide (Zad .i64 (↑(BitVec.ofInt IntKind.i64.bits (Zad .i64 (x0.fdiv (2 ^ min (Int.toNat 3) IntKind.i64.bits)-1)) &&& BitVec.ofInt IntKind.i64.bits 15).toNat:Int)>=1) then bif decide (Zad .i64 (↑(BitVec.ofInt IntKind.i64.bits (Zad .i64 (x0.fdiv (2 ^ min (Int.toNat 3) IntKind.i64.bits)-1)) &&& BitVec.ofInt IntKind.i64.bits 15).toNat:Int)<=3) then some (Said.mk (Zad .i64 (↑(BitVec.ofInt IntKind.i64.bits x0 &&& BitVec.ofInt IntKind.i64.bits 7).toNat:Int)) (Zad .i64 (x0.fdiv (2 ^ min (Int.toNat 3) IntKind.i64.bits)-1))) else some (Said.mk 0 0) else some (Said.mk 0 0) else some (Said.mk 0 0) else some (Said.mk 0 0) else some (Said.mk 0 0) else bif Zad .i64 (↑(BitVec.ofInt IntKind.i64.bits x0 &&& BitVec.ofInt IntKind.i64.bits 7).toNat:Int) == 4 then bif decide ((Zad .i64 (x0.fdiv (2 ^ min (Int.toNat 3) IntKind.i64.bits)-1)).fdiv (2 ^ min (Int.toNat 4) IntKind.i64.bits)>=0) then bif decide ((Zad .i64 (x0.fdiv (2 ^ min (Int.toNat 3) IntKind.i64.bits)-1)).fdiv (2 ^ min (Int.toNat 4) IntKind.i64.bits)<4) then bif decide (Zad .i64 (↑(BitVec.ofInt IntKind.i64.bits (Zad .i64 (x0.fdiv (2 ^ min (Int.toNat 3) IntKind.i64.bits)-1)) &&& BitVec.ofInt IntKind.i64.bits 15).toNat:Int)>=1) then bif decide (Zad .i64 (↑(BitVec.ofInt IntKind.i64.bits (Zad .i64 (x0.fdiv (2 ^ min (Int.toNat 3) IntKind.i64.bits)-1)) &&& BitVec.ofInt IntKind.i64.bits 15).toNat:Int)<=3) then some (Said.mk (Zad .i64 (↑(BitVec.ofInt IntKind.i64.bits x0 &&& BitVec.ofInt IntKind.i64.bits 7).toNat:Int)) (Zad .i64 (x0.fdiv (2 ^ min (Int.toNat 3) IntKind.i64.bits)-1))) else some (Said.mk 0 0) else some (Said.mk 0 0) else some (Said.mk 0 0) else some (Said.mk 0 0) else some (Said.mk 0 0)
def Zjb (x:Int):Option Said:=Zov x
def Zlv (x0:Int):Option Int := match Zjb x0 with
 | some y1 => bif x0 == 0 then some (y1.kind) else bif !(y1.kind == 0 && (y1.n == 0 && true)) then some (y1.kind) else some ((-1:Int))
 | none=>none
def ZgU (x:Int):Option Int:=Zlv x
def ZkS (x0:Turn) (x1:Int):Option Turn := match ZgU x1 with
 | some y1 => bif y1 == 1 then some ({ x0 with th:={ x0.th with phase:=6,x:=x1 } }) else bif y1 == 0 then some ({ x0 with th:={ x0.th with phase:=5 } }) else match ZdR x0 with
  | some y2 => bif y2 then match Zeo x0 with
   | some y3 => some y3
   | none=>none else some (x0)
  | none=>none
 | none=>none
def ZkJ (x:Turn×Int):Option Turn:=ZkS x.1 x.2
def ZjQ (x0:Int):Option Int := match ZbM (Said.mk 2 x0) with
 | some y1 => some y1
 | none=>none
def ZjG (x:Int):Option Int:=ZjQ x
def ZiL (x0:Turn):Option Turn := match Zeo { x0 with th:={ x0.th with stop:=x0.th.node } } with
 | some y1 => some y1
 | none=>none
def Zit (x:Turn):Option Turn:=ZiL x
def ZkI (x0:Turn):Option (Turn×Bool) := match Zet (x0.c,x0.th.item,x0.th.node) with
 | some y1 => match Zff x0.t with
  | some y2 => bif x0.th.phase == 4 then match ZbZ (x0.m,y1) with
   | some y3 => bif y3.snd != 0 then some ((x0,true)) else match ZkJ (x0,y3.fst) with
     | some y4 => some ((y4,true))
     | none=>none
   | none=>none else bif x0.th.phase == 6 then match ZjG x0.t with
    | some y3 => match ZcP (x0.m,y1,x0.th.x,y3) with
     | some y4 => bif y4.snd.snd != 0 then some ((x0,true)) else bif y4.snd.fst then match Zit { x0 with m:=y4.fst,th:={ x0.th with phase:=4 } } with
      | some y5 => some ((y5,true))
      | none=>none else some (({ x0 with m:=y4.fst,th:={ x0.th with phase:=4 } },true))
     | none=>none
    | none=>none else bif x0.th.phase == 5 then match ZcP (x0.m,y1,0,y2) with
     | some y3 => bif y3.snd.snd != 0 then some ((x0,true)) else bif y3.snd.fst then match ZjR { x0 with m:=y3.fst,th:={ x0.th with phase:=4 } } with
      | some y4 => some ((y4,true))
      | none=>none else some (({ x0 with m:=y3.fst,th:={ x0.th with phase:=4 } },true))
     | none=>none else some ((x0,false))
  | none=>none
 | none=>none
def Zkt (x:Turn):Option (Turn×Bool):=ZkI x
def ZjD (x0:Turn):Option Int := bif decide (x0.th.at_<0) then some ((-1:Int)) else bif decide (x0.th.at_>=(↑x0.th.held.length:Int)) then some ((-1:Int)) else bif decide (0<=x0.th.at_) then bif decide (x0.th.at_<(↑x0.th.held.length:Int)) then match Zet (x0.c,x0.th.item,x0.th.held.getD x0.th.at_.toNat 0) with
 | some y1 => some y1
 | none=>none else none else none
def ZfA (x:Turn):Option Int:=ZjD x
def Zmk (x0:Int):Option Int := match Zjb x0 with
 | some y1 => bif decide (y1.kind>=1) then bif decide (y1.kind<=3) then some (y1.n) else some ((-1:Int)) else some ((-1:Int))
 | none=>none
def Zmn (x:Int):Option Int:=Zmk x
def Zm7 (x0:Turn):Option Turn := match ZfA x0 with
 | some y1 => match ZbZ (x0.m,y1) with
  | some y2 => bif y2.snd != 0 then some (x0) else match Zff x0.t with
   | some y3 => bif y2.fst == y3 then some ({ x0 with th:={ x0.th with phase:=8 } }) else match ZgU y2.fst with
    | some y4 => bif y4 == 3 then match Zmn y2.fst with
     | some y5 => some ({ x0 with th:={ x0.th with phase:=9,who:=y5 } })
     | none=>none else some (x0)
    | none=>none
   | none=>none
  | none=>none
 | none=>none
def ZjP (x:Turn):Option Turn:=Zm7 x
def Zjw (x0:Turn):Option Turn := match Zf2 { x0 with th:={ x0.th with at_:=Zad .i64 (x0.th.at_+1) } } with
 | some y1 => some y1
 | none=>none
def Zhf (x:Turn):Option Turn:=Zjw x
def ZmW (x0:Turn):Option Turn := match ZfA x0 with
 | some y1 => match Zff x0.t with
  | some y2 => match ZcP (x0.m,y1,y2,0) with
   | some y3 => bif !y3.snd.fst then bif y3.snd.snd != 0 then some (x0) else some ({ x0 with m:=y3.fst,th:={ x0.th with phase:=7 } }) else bif y3.snd.snd != 0 then some (x0) else match Zhf { x0 with m:=y3.fst } with
    | some y4 => some y4
    | none=>none
   | none=>none
  | none=>none
 | none=>none
def Zju (x:Turn):Option Turn:=ZmW x
def ZcL (x0:List Entry):Option (List Entry) := bif fewB ((0:Nat)+x0.length) then some (x0) else none
def Zbj (x:(List Entry)):Option (List Entry):=ZcL x
def Zcj (x0:List (List Entry)) (x1:Int):Option ((List Entry)×Int) := bif decide (x1<0) then some ((([]:List Entry),30)) else bif decide (x1>=(↑x0.length:Int)) then some ((([]:List Entry),30)) else bif decide (0<=x1) then bif decide (x1<(↑x0.length:Int)) then some ((x0.getD x1.toNat ([]:List Entry),0)) else none else none
def Zcl (x:(List (List Entry))×Int):Option ((List Entry)×Int):=Zcj x.1 x.2
def ZhS (x0:Memo) (x1:Int):Option ((List Entry)×Int) := match Zcl (x0.boxes,x1) with
 | some y1 => match Zbj y1.fst with
  | some y2 => some ((y2,y1.snd))
  | none=>none
 | none=>none
def ZhG (x:Memo×Int):Option ((List Entry)×Int):=ZhS x.1 x.2
def Zeh (x0:Unit) (x1:Int):Option (List Kid) := bif decide (x1<0) then none else bif decide (Zad .i64 (x1-Zad .i64 (0-0))>0) then bif decide (0<=Zad .i64 (x1-Zad .i64 (0-0))) then bif decide (Zad .i64 (x1-Zad .i64 (0-0))<=Zbw) then some (List.take (Int.toNat 0) (List.replicate (Zad .i64 (x1-Zad .i64 (0-0))).toNat (Kid.mk 0 0))) else none else none else some (([]:List Kid))
def Zek (x:Unit×Int):Option (List Kid):=Zeh x.1 x.2
def Zcr (x0:List Kid) (x1:List (List Kid)) (x2:Int) (x3:Int):Option (((List Kid)×(List (List Kid))×Int×Int)⊕(((List Kid)))) := bif decide (x3<x2) then bif decide (0<=x3) then bif decide (x3<(↑x1.length:Int)) then bif fewB (x0.length+List.length (x1.getD x3.toNat ([]:List Kid))) then some (Sum.inl (x0++x1.getD x3.toNat ([]:List Kid),x1,x2,Zad .i64 (x3+1))) else none else none else none else some (Sum.inr x0)
def ZbD (x:(List Kid)×(List (List Kid))×Int×Int):Option (((List Kid)×(List (List Kid))×Int×Int)⊕(((List Kid)))):=Zcr x.1 x.2.1 x.2.2.1 x.2.2.2
def Zdd (x:(List Kid)×(List (List Kid))×Int×Int):Option (((List Kid))):=ZaE ZbD x
def Zcz (x0:List (List Kid)) (x1:Int) (x2:List (List Kid)) (x3:Int) (x4:Int):Option (((List (List Kid))×Int×(List (List Kid))×Int×Int)⊕(((List (List Kid))×Int))) := bif decide (x4<x3) then bif decide (0<=x4) then bif decide (x4<(↑x2.length:Int)) then bif decide (Zad .i64 (x1+(↑(List.length (x2.getD x4.toNat ([]:List Kid))):Int))<0) then none else some (Sum.inl (x0,Zad .i64 (x1+(↑(List.length (x2.getD x4.toNat ([]:List Kid))):Int)),x2,x3,Zad .i64 (x4+1))) else none else none else some (Sum.inr (x0,x1))
def ZbK (x:(List (List Kid))×Int×(List (List Kid))×Int×Int):Option (((List (List Kid))×Int×(List (List Kid))×Int×Int)⊕(((List (List Kid))×Int))):=Zcz x.1 x.2.1 x.2.2.1 x.2.2.2.1 x.2.2.2.2
def Zdg (x:(List (List Kid))×Int×(List (List Kid))×Int×Int):Option (((List (List Kid))×Int)):=ZaE ZbK x
def ZdT (x0:List (List Kid)):Option (List Kid) := match Zdg (x0,0,x0,(↑x0.length:Int),0) with
 | some y1 => match Zek ((),y1.snd) with
  | some y2 => match Zdd (y2,y1.fst,(↑(List.length y1.fst):Int),0) with
   | some y3 => some y3
   | none=>none
  | none=>none
 | none=>none
def ZdL (x:(List (List Kid))):Option (List Kid):=ZdT x
def Zd6 (x0:Unit) (x1:Int):Option (List Entry) := bif decide (x1<0) then none else bif decide (Zad .i64 (x1-Zad .i64 (0-0))>0) then bif decide (0<=Zad .i64 (x1-Zad .i64 (0-0))) then bif decide (Zad .i64 (x1-Zad .i64 (0-0))<=Zbw) then some (List.take (Int.toNat 0) (List.replicate (Zad .i64 (x1-Zad .i64 (0-0))).toNat (Entry.mk 0 (Op.mk 0 0)))) else none else none else some (([]:List Entry))
def Zd3 (x:Unit×Int):Option (List Entry):=Zd6 x.1 x.2
def Zcn (x0:List Entry) (x1:List (List Entry)) (x2:Int) (x3:Int):Option (((List Entry)×(List (List Entry))×Int×Int)⊕(((List Entry)))) := bif decide (x3<x2) then bif decide (0<=x3) then bif decide (x3<(↑x1.length:Int)) then bif fewB (x0.length+List.length (x1.getD x3.toNat ([]:List Entry))) then some (Sum.inl (x0++x1.getD x3.toNat ([]:List Entry),x1,x2,Zad .i64 (x3+1))) else none else none else none else some (Sum.inr x0)
def Zbz (x:(List Entry)×(List (List Entry))×Int×Int):Option (((List Entry)×(List (List Entry))×Int×Int)⊕(((List Entry)))):=Zcn x.1 x.2.1 x.2.2.1 x.2.2.2
def ZcY (x:(List Entry)×(List (List Entry))×Int×Int):Option (((List Entry))):=ZaE Zbz x
def Zcp (x0:List (List Entry)) (x1:Int) (x2:List (List Entry)) (x3:Int) (x4:Int):Option (((List (List Entry))×Int×(List (List Entry))×Int×Int)⊕(((List (List Entry))×Int))) := bif decide (x4<x3) then bif decide (0<=x4) then bif decide (x4<(↑x2.length:Int)) then bif decide (Zad .i64 (x1+(↑(List.length (x2.getD x4.toNat ([]:List Entry))):Int))<0) then none else some (Sum.inl (x0,Zad .i64 (x1+(↑(List.length (x2.getD x4.toNat ([]:List Entry))):Int)),x2,x3,Zad .i64 (x4+1))) else none else none else some (Sum.inr (x0,x1))
def ZbF (x:(List (List Entry))×Int×(List (List Entry))×Int×Int):Option (((List (List Entry))×Int×(List (List Entry))×Int×Int)⊕(((List (List Entry))×Int))):=Zcp x.1 x.2.1 x.2.2.1 x.2.2.2.1 x.2.2.2.2
def Zdb (x:(List (List Entry))×Int×(List (List Entry))×Int×Int):Option (((List (List Entry))×Int)):=ZaE ZbF x
def Zds (x0:List (List Entry)):Option (List Entry) := match Zdb (x0,0,x0,(↑x0.length:Int),0) with
 | some y1 => match Zd3 ((),y1.snd) with
  | some y2 => match ZcY (y2,y1.fst,(↑(List.length y1.fst):Int),0) with
   | some y3 => some y3
   | none=>none
  | none=>none
 | none=>none
def Zdu (x:(List (List Entry))):Option (List Entry):=Zds x
def Zot (x0:List (List Entry)):Option (List Entry) := match Zdu x0 with
 | some y1 => some y1
 | none=>none
def Zku (x:(List (List Entry))):Option (List Entry):=Zot x
def Zjr (x0:Turn) (x1:Int) (x2:List Entry):Option Turn := match ZdL (x0.th.kids::(Kid.mk x1 (↑x0.th.batch.length:Int)::[])::[]) with
 | some y1 => match Zku (x0.th.batch::x2::[]) with
  | some y2 => some ({ x0 with th:={ x0.th with batch:=y2,kids:=y1 } })
  | none=>none
 | none=>none
def ZfB (x:Turn×Int×(List Entry)):Option Turn:=Zjr x.1 x.2.1 x.2.2
def Zk0 (x0:Turn):Option Turn := match ZhG (x0.m,x0.th.who) with
 | some y1 => bif y1.snd != 0 then some (x0) else match ZfB (x0,x0.th.who,y1.fst) with
  | some y2 => some ({ y2 with th:={ y2.th with phase:=10 } })
  | none=>none
 | none=>none
def Zhp (x:Turn):Option Turn:=Zk0 x
def ZmY (x0:Turn):Option Turn := match ZfA x0 with
 | some y1 => match Zb5 (x0.m,y1,0) with
  | some y2 => bif y2.snd != 0 then some (x0) else match Zhf { x0 with m:=y2.fst } with
   | some y3 => some y3
   | none=>none
  | none=>none
 | none=>none
def Zjv (x:Turn):Option Turn:=ZmY x
def ZdA (x0:List (List Entry)):Option ((List (List Entry))) := bif fewB ((0:Nat)+x0.length) then some (x0) else none
def Zdw (x:(List (List Entry))):Option ((List (List Entry))):=ZdA x
def Zmy (x0:Memo) (x1:Int) (x2:List Entry):Option (Memo×Int) := match Zcl (x0.boxes,x1) with
 | some y1 => bif y1.snd != 0 then some ((x0,y1.snd)) else match Zdw x0.boxes with
  | some y2 => match Zbj x2 with
   | some y3 => bif decide (0<=x1) then bif decide (x1<(↑(List.length y2):Int)) then some (({ x0 with boxes:=List.set y2 x1.toNat y3 },0)) else none else none
   | none=>none
  | none=>none
 | none=>none
def ZhE (x:Memo×Int×(List Entry)):Option (Memo×Int):=Zmy x.1 x.2.1 x.2.2
def ZkK (x0:Turn):Option Turn := match ZhE (x0.m,x0.t,x0.th.batch) with
 | some y1 => bif y1.snd != 0 then some (x0) else some ({ x0 with m:=y1.fst,th:={ x0.th with phase:=12 } })
 | none=>none
def Zhk (x:Turn):Option Turn:=ZkK x
def Zhi (x0:Int):Option Int := match ZbM (Said.mk 3 x0) with
 | some y1 => some y1
 | none=>none
def Zhh (x:Int):Option Int:=Zhi x
def Zko (x0:Turn):Option Turn := match Zet (x0.c,x0.th.item,x0.th.stop) with
 | some y1 => match Zhh x0.t with
  | some y2 => match Zb5 (x0.m,y1,y2) with
   | some y3 => bif y3.snd != 0 then some (x0) else some ({ x0 with m:=y3.fst,th:={ x0.th with phase:=13 } })
   | none=>none
  | none=>none
 | none=>none
def Zhs (x:Turn):Option Turn:=Zko x
def Zjq (x0:Turn):Option (Turn×Bool) := bif x0.th.phase == 7 then match ZjP x0 with
 | some y1 => some ((y1,true))
 | none=>none else bif x0.th.phase == 8 then match Zju x0 with
  | some y1 => some ((y1,true))
  | none=>none else bif x0.th.phase == 9 then match Zhp x0 with
   | some y1 => some ((y1,true))
   | none=>none else bif x0.th.phase == 10 then match Zjv x0 with
    | some y1 => some ((y1,true))
    | none=>none else bif x0.th.phase == 11 then match Zhk x0 with
     | some y1 => some ((y1,true))
     | none=>none else bif x0.th.phase == 12 then match Zhs x0 with
      | some y1 => some ((y1,true))
      | none=>none else some ((x0,false))
def Zjm (x:Turn):Option (Turn×Bool):=Zjq x
def ZhX (x0:Turn):Option Turn := bif decide (x0.th.layer<x0.c.layers) then match ZdR { x0 with th:={ x0.th with phase:=2 } } with
 | some y1 => bif !y1 then some ({ x0 with th:={ x0.th with phase:=17,layer:=Zad .i64 (x0.th.layer+1) } }) else some ({ x0 with th:={ x0.th with phase:=2 } })
 | none=>none else some ({ x0 with th:={ x0.th with phase:=2 } })
def Zco (x:Turn):Option Turn:=ZhX x
def ZiZ (x0:Int) (x1:Int):Option Int := match ZbM (Said.mk 4 (Zad .i64 (Zad .i64 (x0*2 ^ min (Int.toNat 4) IntKind.i64.bits)+x1))) with
 | some y1 => some y1
 | none=>none
def ZiU (x:Int×Int):Option Int:=ZiZ x.1 x.2
def Zh5 (x0:Turn×Int) (x1:Int):Option Int := match Zc6 (x0.fst.c,x1) with
 | some y1 => some y1
 | none=>none
def ZbX (x:(Turn×Int)×Int):Option Int:=Zh5 x.1 x.2
def Zo9:Option Int := match ZbM (Said.mk 5 (-1:Int)) with
 | some y1 => some y1
 | none=>none
def ZgM (x:Unit):Option Int:=Zo9
def Ziy (x0:Config) (x1:Int):Option Int := bif decide (x1<0) then some ((-1:Int)) else bif decide (x1>=x0.threads) then some ((-1:Int)) else match Zcm x0 with
 | some y1 => some (Zad .i64 (Zad .i64 (y1.lines+Zad .i64 (2*x1))+1))
 | none=>none
def Zfi (x:Config×Int):Option Int:=Ziy x.1 x.2
def ZiI (x0:Turn):Option Turn := bif decide (x0.th.at_<0) then some ({ x0 with th:={ x0.th with phase:=0 },done:=true }) else bif decide (x0.th.at_>=(↑x0.th.kids.length:Int)) then some ({ x0 with th:={ x0.th with phase:=0 },done:=true }) else bif decide (0<=x0.th.at_) then bif decide (x0.th.at_<(↑x0.th.kids.length:Int)) then some ({ x0 with th:={ x0.th with phase:=15 } }) else none else none
def Zdk (x:Turn):Option Turn:=ZiI x
def Zkg (x0:List Entry) (x1:Int):Option (List Entry) := bif decide (0<=if (if (↑x0.length:Int)<x1 then (↑x0.length:Int) else x1)>0 then if (↑x0.length:Int)<x1 then (↑x0.length:Int) else x1 else 0) then bif decide ((if (if (↑x0.length:Int)<x1 then (↑x0.length:Int) else x1)>0 then if (↑x0.length:Int)<x1 then (↑x0.length:Int) else x1 else 0)<=(↑x0.length:Int)) then match Zbj (List.drop (Int.toNat 0) (List.take (if (if (↑x0.length:Int)<x1 then (↑x0.length:Int) else x1)>0 then if (↑x0.length:Int)<x1 then (↑x0.length:Int) else x1 else 0).toNat x0)) with
 | some y1 => some y1
 | none=>none else none else none
def Zkk (x:(List Entry)×Int):Option (List Entry):=Zkg x.1 x.2
def ZgK (x0:Memo) (x1:Int) (x2:Int):Option (Memo×Int×Int) := match ZbB (x0.words,x1) with
 | some y1 => bif y1.snd != 0 then some ((x0,0,y1.snd)) else match Zbt x0.words with
  | some y2 => bif decide (0<=x1) then bif decide (x1<(↑(List.length y2):Int)) then some (({ x0 with words:=List.set y2 x1.toNat x2 },y1)) else none else none
  | none=>none
 | none=>none
def ZlC (x:Memo×Int×Int):Option (Memo×Int×Int):=ZgK x.1 x.2.1 x.2.2
def ZkF (x0:Config) (x1:Int) (x2:Int) (x3:Int):Option Int := bif decide (x1<0) then some ((-1:Int)) else bif decide (x1>=x0.items) then some ((-1:Int)) else bif decide (x2<1) then some ((-1:Int)) else bif decide (x2>=Zad .i64 (1+x0.layers)) then some ((-1:Int)) else bif decide (x3<0) then some ((-1:Int)) else bif decide (x3>=x0.width) then some ((-1:Int)) else match Zcm x0 with
 | some y1 => match Zcm x0 with
  | some y2 => some (Zad .i64 (Zad .i64 (Zad .i64 (Zad .i64 (x1*y1.block)+y2.slots)+Zad .i64 (Zad .i64 (x2-1)*x0.width))+x3))
  | none=>none
 | none=>none
def Zkr (x:Config×Int×Int×Int):Option Int:=ZkF x.1 x.2.1 x.2.2.1 x.2.2.2
def Zg1 (x0:Tape):Option Int := bif decide (x0.at_<0) then some (0) else some (if Zad .i64 ((↑x0.l.length:Int)-x0.at_)>0 then Zad .i64 ((↑x0.l.length:Int)-x0.at_) else 0)
def ZfO (x:Tape):Option Int:=Zg1 x
end Go.Proofs.Mill
