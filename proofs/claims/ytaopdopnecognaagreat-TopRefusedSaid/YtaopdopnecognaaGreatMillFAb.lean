/- What the functions compute. -/
import Derived.Test.YtaopdopnecognaaGreatMillAll3
set_option linter.all false
noncomputable section
namespace Go.Proofs.Mill
def Zfb (x0:List SEntry) (x1:Int) (x2:Int):Option (((List SEntry)×Int×Int)⊕(((List SEntry)))) := bif decide (x2<x1) then bif fewB (x0.length+(SEntry.mk 2 x2 0 (Op.mk 0 0)::[]).length) then some (Sum.inl (x0++SEntry.mk 2 x2 0 (Op.mk 0 0)::[],x1,Zad .i64 (x2+1))) else none else some (Sum.inr x0)
def Zgt (x:(List SEntry)×Int×Int):Option (((List SEntry)×Int×Int)⊕(((List SEntry)))):=Zfb x.1 x.2.1 x.2.2
def ZlS (x:(List SEntry)×Int×Int):Option (((List SEntry))):=ZaC Zgt x
def Zkp (x0:Config):Option (List SEntry) := match ZlS (([]:List SEntry),x0.threads,0) with
 | some y1 => some y1
 | none=>none
def ZeW (x:Config):Option (List SEntry):=Zkp x
def Zc0 (x0:Int) (x1:List SEntry) (x2:List SEntry) (x3:List SEntry) (x4:Int) (x5:Int):Option ((Int×(List SEntry)×(List SEntry)×(List SEntry)×Int×Int)⊕(((List SEntry))⊕(Int×(List SEntry)×(List SEntry)))) := bif decide (x5<x4) then bif decide (0<=x5) then bif decide (x5<(↑x3.length:Int)) then bif decide ((↑x1.length:Int)>=65536) then some (Sum.inr (Sum.inl x1)) else bif fewB (x1.length+(x3.getD x5.toNat ZaG::[]).length) then some (Sum.inl (x0,x1++x3.getD x5.toNat ZaG::[],x2,x3,x4,Zad .i64 (x5+1))) else none else none else none else some (Sum.inr (Sum.inr (x0,x1,x2)))
def ZdH (x:Int×(List SEntry)×(List SEntry)×(List SEntry)×Int×Int):Option ((Int×(List SEntry)×(List SEntry)×(List SEntry)×Int×Int)⊕(((List SEntry))⊕(Int×(List SEntry)×(List SEntry)))):=Zc0 x.1 x.2.1 x.2.2.1 x.2.2.2.1 x.2.2.2.2.1 x.2.2.2.2.2
def Zk7 (x:Int×(List SEntry)×(List SEntry)×(List SEntry)×Int×Int):Option (((List SEntry))⊕(Int×(List SEntry)×(List SEntry))):=ZaC ZdH x
def ZeH (x0:Int) (x1:List SEntry) (x2:List SEntry):Option ((Int×(List SEntry)×(List SEntry))⊕(((List SEntry)))) := bif decide (x0>0) then match Zk7 (x0,x1,x2,x2,(↑x2.length:Int),0) with
 | some (.inl y1) => some (Sum.inr y1)
 | some (.inr y2) => some (Sum.inl (Zad .i64 (y2.fst-1),y2.snd))
 | none=>none else some (Sum.inr x1)
def ZdG (x:Int×(List SEntry)×(List SEntry)):Option ((Int×(List SEntry)×(List SEntry))⊕(((List SEntry)))):=ZeH x.1 x.2.1 x.2.2
def Zc7 (x:Int×(List SEntry)×(List SEntry)):Option (((List SEntry))):=ZaC ZdG x
def Zhg (x0:Config) (x1:Int):Option (List SEntry) := match ZeW x0 with
 | some y1 => match Zc7 (x1,([]:List SEntry),y1) with
  | some y2 => some y2
  | none=>none
 | none=>none
def Zct (x:Config×Int):Option (List SEntry):=Zhg x.1 x.2
def ZiD (x0:Config):Option Int :=
 some (Zad .i64 (Zad .i64 (20+Zad .i64 (8*x0.depth))+Zad .i64 (x0.layers*Zad .i64 (20+Zad .i64 (2*x0.spin)))))
def Zio (x:Config):Option Int:=ZiD x
def ZjC (x0:Config):Option Int := match Zio x0 with
 | some y1 => some (Zad .i64 (20+Zad .i64 (Zad .i64 (4*y1)*x0.threads)))
 | none=>none
def ZcK (x:Config):Option Int:=ZjC x
def Zqu (x0:Config) (x1:Int) (x2:Int):Option ((Config×Int×Int)⊕((Int))) := bif decide (x2<x0.depth) then some (Sum.inl (x0,Zad .i64 (2*x1),Zad .i64 (x2+1))) else some (Sum.inr x1)
def Zh5 (x:Config×Int×Int):Option ((Config×Int×Int)⊕((Int))):=Zqu x.1 x.2.1 x.2.2
def ZpP (x:Config×Int×Int):Option Int:=ZaC Zh5 x
def ZsS (x0:Config):Option Int := match ZpP (x0,1,0) with
 | some y1 => some (Zad .i64 (y1-1))
 | none=>none
def Zhh (x:Config):Option Int:=ZsS x
def ZsR (x0:Config):Option Int := match Zhh x0 with
 | some y1 => some (Zad .i64 (Zad .i64 (1+y1)+Zad .i64 (x0.layers*x0.width)))
 | none=>none
def Zft (x:Config):Option Int:=ZsR x
def Zul (x0:Config):Option Int := match Zft x0 with
 | some y1 => some (Zad .i64 (Zad .i64 (x0.items*y1)+Zad .i64 (2*x0.threads)))
 | none=>none
def Zoc (x:Config):Option Int:=Zul x
def Zun (x0:Config) (x1:Int) (x2:Int):Option Int := bif decide (x1<0) then some ((-1:Int)) else bif decide (x1>=x0.items) then some ((-1:Int)) else bif decide (x2<1) then some ((-1:Int)) else match Zhh x0 with
 | some y1 => bif decide (x2>y1) then some ((-1:Int)) else match Zft x0 with
  | some y2 => some (Zad .i64 (Zad .i64 (x1*y2)+x2))
  | none=>none
 | none=>none
def Znh (x:Config×Int×Int):Option Int:=Zun x.1 x.2.1 x.2.2
def ZtG (x0:Config) (x1:Int):Option Int := bif decide (x1<0) then some ((-1:Int)) else bif decide (x1>=x0.threads) then some ((-1:Int)) else match Zft x0 with
 | some y1 => some (Zad .i64 (Zad .i64 (x0.items*y1)+Zad .i64 (2*x1)))
 | none=>none
def ZnU (x:Config×Int):Option Int:=ZtG x.1 x.2
def ZdP (x0:Thread):Option Bool :=
 some (x0.phase != 0)
def Zbt (x:Thread):Option Bool:=ZdP x
def ZhZ (x0:Int) (x1:Int):Option Bool := bif decide (0<=x0) then some (decide (x0<x1)) else some (false)
def ZdI (x:Int×Int):Option Bool:=ZhZ x.1 x.2
def Znv (x0:Int):Option Bool := bif decide (1<=x0) then some (decide (x0<=9)) else some (false)
def ZkN (x:Int):Option Bool:=Znv x
def Zmj (x0:Op) (x1:Bool):Option Bool := bif !x1 then match ZkN x0.tag with
 | some y1 => bif y1 then some (decide (x0.tag<8)) else some (false)
 | none=>none else bif x0.tag == 9 then some (decide (x0.v>=0)) else some (x0.tag == 8)
def Zj1 (x:Op×Bool):Option Bool:=Zmj x.1 x.2
def ZiH (x0:Config) (x1:SEntry):Option Int := bif x1.kind == 1 then bif x1.kind == 1 then match ZdI (x1.t,x0.threads) with
 | some y1 => bif !y1 then some (91) else bif x1.kind == 2 then some (0) else match ZdI (x1.item,x0.items) with
  | some y2 => bif !y2 then some (92) else match Zj1 (x1.op,x0.bounded) with
   | some y3 => bif !y3 then some (93) else some (0)
   | none=>none
  | none=>none
 | none=>none else bif x1.kind == 3 then some (0) else some (90) else bif x1.kind == 2 then match ZdI (x1.t,x0.threads) with
 | some y1 => bif !y1 then some (91) else bif x1.kind == 2 then some (0) else match ZdI (x1.item,x0.items) with
  | some y2 => bif !y2 then some (92) else match Zj1 (x1.op,x0.bounded) with
   | some y3 => bif !y3 then some (93) else some (0)
   | none=>none
  | none=>none
 | none=>none else bif x1.kind == 3 then some (0) else some (90)
def Zfe (x:Config×SEntry):Option Int:=ZiH x.1 x.2
def ZeV (x0:List Thread):Option (List Thread) := bif fewB ((0:Nat)+x0.length) then some (x0) else none
def Zcv (x:(List Thread)):Option (List Thread):=ZeV x
def Zfr (x0:List Mark):Option (List Mark) := bif fewB ((0:Nat)+x0.length) then some (x0) else none
def ZcI (x:(List Mark)):Option (List Mark):=Zfr x
def ZfD (x0:List Event):Option (List Event) := bif fewB ((0:Nat)+x0.length) then some (x0) else none
def ZcH (x:(List Event)):Option (List Event):=ZfD x
def Ze6 (x0:Int) (x1:Int):Option Int := bif decide (x0<1) then some (0) else bif decide (Zad .i64 (x0-1)<0) then none else some (Zad .i64 (↑(BitVec.ofInt IntKind.i64.bits (Zad .i64 (1*2 ^ min (Zad .i64 (x0-1)).toNat IntKind.i64.bits)) ||| BitVec.ofInt IntKind.i64.bits (Zad .i64 (↑(BitVec.ofInt IntKind.i64.bits (x1.fdiv (2 ^ min (Int.toNat 1) IntKind.i64.bits)) &&& BitVec.ofInt IntKind.i64.bits (Zad .i64 (Zad .i64 (1*2 ^ min (Zad .i64 (x0-1)).toNat IntKind.i64.bits)-1))).toNat:Int))).toNat:Int))
def ZkQ (x:Int×Int):Option Int:=Ze6 x.1 x.2
def Ziq (x0:Config) (x1:Int) (x2:Thread) (x3:Int) (x4:Op) (x5:Int):Option Thread := match ZkQ (x0.depth,x1) with
 | some y1 => bif decide (x0.wait>0) then some (Thread.mk 1 x3 x4 (Entry.mk x1 x4::[]) ([]:List Kid) ([]:List Int) 0 y1 0 0 0 x2.width 0 0 0 (Zad .i64 (x5+x0.wait))) else some (Thread.mk 1 x3 x4 (Entry.mk x1 x4::[]) ([]:List Kid) ([]:List Int) 0 y1 0 0 0 x2.width 0 0 0 0)
 | none=>none
def Ze3 (x:Config×Int×Thread×Int×Op×Int):Option Thread:=Ziq x.1 x.2.1 x.2.2.1 x.2.2.2.1 x.2.2.2.2.1 x.2.2.2.2.2
def ZdY (x0:Config):Option Int := bif decide (x0.threads<1) then some (50) else bif decide (x0.threads>16) then some (50) else bif decide (x0.items<1) then some (51) else bif decide (x0.items>4) then some (51) else bif decide (x0.backend<1) then some (52) else bif decide (x0.backend>3) then some (52) else bif decide (x0.depth<0) then some (53) else bif decide (x0.depth>4) then some (53) else bif decide (x0.layers<0) then some (54) else bif decide (x0.layers>3) then some (54) else bif decide (x0.width<1) then some (55) else bif decide (x0.width>8) then some (55) else bif decide (x0.spin<0) then some (56) else bif decide (x0.spin>20) then some (56) else bif decide (x0.wait<0) then some (57) else bif decide (x0.wait>1000) then some (57) else bif x0.bounded then bif decide (x0.lo>x0.init) then some (58) else bif decide (x0.init>x0.hi) then some (58) else some (0) else some (0)
def Zhi (x:Config):Option Int:=ZdY x
def ZuZ (x0:Op) (x1:Bool):Option Bool := bif x1 then bif x0.tag == 8 then some (true) else bif x0.tag == 9 then some (decide (x0.v>=0)) else some (false) else bif decide (x0.tag>=1) then some (decide (x0.tag<=7)) else some (false)
def Zo8 (x:Op×Bool):Option Bool:=ZuZ x.1 x.2
def Zu9 (x0:Config):Option Bool := match Zhi x0 with
 | some y1 => some (y1 == 0)
 | none=>none
def ZgO (x:Config):Option Bool:=Zu9 x
def ZsN (x0:Config):Option Int :=
 some (Zad .i64 (Zad .i64 (20+Zad .i64 (8*x0.depth))+Zad .i64 (x0.layers*Zad .i64 (20+Zad .i64 (2*x0.spin)))))
def ZmO (x:Config):Option Int:=ZsN x
def Zrj (x0:Config):Option Int := match ZmO x0 with
 | some y1 => some (Zad .i64 (Zad .i64 (Zad .i64 (4*x0.threads)*y1)+20))
 | none=>none
def Zis (x:Config):Option Int:=Zrj x
def ZrC (x0:List SEntry) (x1:List SEntry) (x2:Int):Option (((List SEntry)×(List SEntry)×Int)⊕((Unit)⊕(Bool))) := bif decide (x2<(↑x0.length:Int)) then bif decide (0<=x2) then bif decide (x2<(↑x0.length:Int)) then bif decide (0<=x2) then bif decide (x2<(↑x1.length:Int)) then bif !((x0.getD x2.toNat ZaG).kind == (x1.getD x2.toNat ZaG).kind && ((x0.getD x2.toNat ZaG).t == (x1.getD x2.toNat ZaG).t && ((x0.getD x2.toNat ZaG).item == (x1.getD x2.toNat ZaG).item && ((x0.getD x2.toNat ZaG).op.tag == (x1.getD x2.toNat ZaG).op.tag && ((x0.getD x2.toNat ZaG).op.v == (x1.getD x2.toNat ZaG).op.v && true) && true)))) then some (Sum.inr (Sum.inr false)) else some (Sum.inl (x0,x1,Zad .i64 (x2+1))) else none else none else none else none else some (Sum.inr (Sum.inl ()))
def ZiB (x:(List SEntry)×(List SEntry)×Int):Option (((List SEntry)×(List SEntry)×Int)⊕((Unit)⊕(Bool))):=ZrC x.1 x.2.1 x.2.2
def Zrm (x:(List SEntry)×(List SEntry)×Int):Option ((Unit)⊕(Bool)):=ZaC ZiB x
def Zta (x0:List SEntry) (x1:List SEntry):Option Bool := bif (↑x0.length:Int) != (↑x1.length:Int) then some (false) else match Zrm (x0,x1,0) with
 | some (.inl y1) => some (true)
 | some (.inr y2) => some y2
 | none=>none
def Zkq (x:(List SEntry)×(List SEntry)):Option Bool:=Zta x.1 x.2
def ZsF (x0:List SEntry) (x1:List SEntry) (x2:Int):Option (((List SEntry)×(List SEntry)×Int)⊕(((List SEntry)))) := bif decide (x2<(↑x0.length:Int)) then bif decide (0<=x2) then bif decide (x2<(↑x0.length:Int)) then bif decide (0<=x2) then bif decide (x2<(↑x0.length:Int)) then bif decide (0<=x2) then bif decide (x2<(↑x0.length:Int)) then bif decide (0<=x2) then bif decide (x2<(↑x0.length:Int)) then bif fewB (x1.length+(x0.getD x2.toNat ZaG::[]).length) then some (Sum.inl (x0,x1++x0.getD x2.toNat ZaG::[],Zad .i64 (x2+1))) else none else none else none else none else none else none else none else none else none else some (Sum.inr x1)
def ZjF (x:(List SEntry)×(List SEntry)×Int):Option (((List SEntry)×(List SEntry)×Int)⊕(((List SEntry)))):=ZsF x.1 x.2.1 x.2.2
def Zsy (x:(List SEntry)×(List SEntry)×Int):Option (((List SEntry))):=ZaC ZjF x
def ZuL (x0:List SEntry):Option (List SEntry) := match Zsy (x0,([]:List SEntry),0) with
 | some y1 => some y1
 | none=>none
def ZgL (x:(List SEntry)):Option (List SEntry):=ZuL x
def ZpD (x0:Int) (x1:Config) (x2:List SEntry) (x3:Int) (x4:Int):Option ((Int×Config×(List SEntry)×Int×Int)⊕((Int×Config×(List SEntry)×Int)⊕((List SEntry)))) := bif decide (x4<x1.threads) then bif (↑x2.length:Int) == 65536 then some (Sum.inr (Sum.inr x2)) else bif fewB (x2.length+(SEntry.mk 2 x4 0 (Op.mk 0 0)::[]).length) then some (Sum.inl (x0,x1,x2++SEntry.mk 2 x4 0 (Op.mk 0 0)::[],x3,Zad .i64 (x4+1))) else none else some (Sum.inr (Sum.inl (x0,x1,x2,x3)))
def Zhk (x:Int×Config×(List SEntry)×Int×Int):Option ((Int×Config×(List SEntry)×Int×Int)⊕((Int×Config×(List SEntry)×Int)⊕((List SEntry)))):=ZpD x.1 x.2.1 x.2.2.1 x.2.2.2.1 x.2.2.2.2
def ZpF (x:Int×Config×(List SEntry)×Int×Int):Option ((Int×Config×(List SEntry)×Int)⊕((List SEntry))):=ZaC Zhk x
def Zpw (x0:Int) (x1:Config) (x2:List SEntry) (x3:Int):Option ((Int×Config×(List SEntry)×Int)⊕(((List SEntry))⊕((List SEntry)))) := bif decide (x3<x0) then match ZpF (x0,x1,x2,x3,0) with
 | some (.inl y1) => some (Sum.inl (y1.fst,y1.snd.fst,y1.snd.snd.fst,Zad .i64 (y1.snd.snd.snd+1)))
 | some (.inr y2) => some (Sum.inr (Sum.inr y2))
 | none=>none else some (Sum.inr (Sum.inl x2))
def Zhy (x:Int×Config×(List SEntry)×Int):Option ((Int×Config×(List SEntry)×Int)⊕(((List SEntry))⊕((List SEntry)))):=Zpw x.1 x.2.1 x.2.2.1 x.2.2.2
def Zpp (x:Int×Config×(List SEntry)×Int):Option (((List SEntry))⊕((List SEntry))):=ZaC Zhy x
def Zru (x0:Config) (x1:Int):Option (List SEntry) := match Zpp (x1,x0,([]:List SEntry),0) with
 | some (.inl y1) => some y1
 | some (.inr y2) => some y2
 | none=>none
def ZiF (x:Config×Int):Option (List SEntry):=Zru x.1 x.2
def ZsP (x0:Config):Option (List SEntry) := match ZiF (x0,1) with
 | some y1 => some y1
 | none=>none
def ZmV (x:Config):Option (List SEntry):=ZsP x
def Zp7 (x0:List SEntry) (x1:Int) (x2:Int):Option (((List SEntry)×Int×Int)⊕(((List SEntry))⊕((List SEntry)))) := bif decide (x2<x1) then bif decide (0<=Zad .i64 (Zad .i64 ((↑x0.length:Int)-x2)-1)) then bif decide (Zad .i64 (Zad .i64 ((↑x0.length:Int)-x2)-1)<(↑x0.length:Int)) then bif (x0.getD (Zad .i64 (Zad .i64 ((↑x0.length:Int)-x2)-1)).toNat ZaG).kind == 1 then bif decide (0<=Zad .i64 ((↑x0.length:Int)-x2)) then bif decide (Zad .i64 ((↑x0.length:Int)-x2)<=(↑x0.length:Int)) then bif decide ((↑x0.length:Int)<=(↑x0.length:Int)) then some (Sum.inr (Sum.inr (List.drop (Zad .i64 ((↑x0.length:Int)-x2)).toNat (List.take (↑x0.length:Int).toNat x0)))) else none else none else none else some (Sum.inl (x0,x1,Zad .i64 (x2+1))) else none else none else some (Sum.inr (Sum.inl x0))
def ZhO (x:(List SEntry)×Int×Int):Option (((List SEntry)×Int×Int)⊕(((List SEntry))⊕((List SEntry)))):=Zp7 x.1 x.2.1 x.2.2
def Zqr (x:(List SEntry)×Int×Int):Option (((List SEntry))⊕((List SEntry))):=ZaC ZhO x
def Zsw (x0:List SEntry):Option (List SEntry) := match Zqr (x0,(↑x0.length:Int),0) with
 | some (.inl y1) => some y1
 | some (.inr y2) => some y2
 | none=>none
def ZmW (x:(List SEntry)):Option (List SEntry):=Zsw x
def Zrs (x0:Config) (x1:Int) (x2:Int) (x3:List SEntry) (x4:Int) (x5:Int):Option ((Config×Int×Int×(List SEntry)×Int×Int)⊕((Int))) := bif decide (x5<x4) then bif decide (0<=x5) then bif decide (x5<(↑x3.length:Int)) then bif (x3.getD x5.toNat ZaG).kind != 2 then some (Sum.inl (x0,x1,x2,x3,x4,Zad .i64 (x5+1))) else bif (x3.getD x5.toNat ZaG).t != x2 then some (Sum.inr x1) else bif Zad .i64 (x2+1) == x0.threads then some (Sum.inl (x0,Zad .i64 (x1+1),0,x3,x4,Zad .i64 (x5+1))) else some (Sum.inl (x0,x1,Zad .i64 (x2+1),x3,x4,Zad .i64 (x5+1))) else none else none else some (Sum.inr x1)
def ZiJ (x:Config×Int×Int×(List SEntry)×Int×Int):Option ((Config×Int×Int×(List SEntry)×Int×Int)⊕((Int))):=Zrs x.1 x.2.1 x.2.2.1 x.2.2.2.1 x.2.2.2.2.1 x.2.2.2.2.2
def Zq5 (x:Config×Int×Int×(List SEntry)×Int×Int):Option Int:=ZaC ZiJ x
def Zty (x0:Config) (x1:List SEntry):Option Int := match ZmW x1 with
 | some y1 => match Zq5 (x0,0,0,y1,(↑(List.length y1):Int),0) with
  | some y2 => some y2
  | none=>none
 | none=>none
def ZcY (x:Config×(List SEntry)):Option Int:=Zty x.1 x.2
def Zqm (x0:List SEntry) (x1:Config) (x2:Int) (x3:Int):Option (((List SEntry)×Config×Int×Int)⊕((Config×Int))) := bif decide (x3<(↑x0.length:Int)) then bif decide (0<=x3) then bif decide (x3<(↑x0.length:Int)) then bif (x0.getD x3.toNat ZaG).kind != 2 then some (Sum.inl (x0,x1,x2,Zad .i64 (x3+1))) else bif decide (0<=x3) then bif decide (x3<(↑x0.length:Int)) then bif decide (x1.threads=0) then none else bif (x0.getD x3.toNat ZaG).t != x2.tmod x1.threads then some (Sum.inr (x1,x2)) else some (Sum.inl (x0,x1,Zad .i64 (x2+1),Zad .i64 (x3+1))) else none else none else none else none else some (Sum.inr (x1,x2))
def ZhF (x:(List SEntry)×Config×Int×Int):Option (((List SEntry)×Config×Int×Int)⊕((Config×Int))):=Zqm x.1 x.2.1 x.2.2.1 x.2.2.2
def Zp5 (x:(List SEntry)×Config×Int×Int):Option (Config×Int):=ZaC ZhF x
def ZqB (x0:List SEntry) (x1:Config) (x2:Int) (x3:Int):Option (((List SEntry)×Config×Int×Int)⊕(((List SEntry)×Config×Int))) := bif decide (x3<(↑x0.length:Int)) then bif decide (0<=x3) then bif decide (x3<(↑x0.length:Int)) then bif (x0.getD x3.toNat ZaG).kind == 1 then some (Sum.inl (x0,x1,Zad .i64 (x3+1),Zad .i64 (x3+1))) else some (Sum.inl (x0,x1,x2,Zad .i64 (x3+1))) else none else none else some (Sum.inr (x0,x1,x2))
def ZhQ (x:(List SEntry)×Config×Int×Int):Option (((List SEntry)×Config×Int×Int)⊕(((List SEntry)×Config×Int))):=ZqB x.1 x.2.1 x.2.2.1 x.2.2.2
def Zqh (x:(List SEntry)×Config×Int×Int):Option (((List SEntry)×Config×Int)):=ZaC ZhQ x
def ZsM (x0:Config) (x1:List SEntry):Option Int := match Zqh (x1,x0,0,0) with
 | some y1 => match Zp5 (y1.fst,y1.snd.fst,0,y1.snd.snd) with
  | some y2 => bif decide (y2.fst.threads=0) then none else some (Zad .i64 (Int.tdiv y2.snd y2.fst.threads))
  | none=>none
 | none=>none
def ZjL (x:Config×(List SEntry)):Option Int:=ZsM x.1 x.2
def Zvh (x0:Config) (x1:List SEntry):Option Bool := match ZcK x0 with
 | some y1 => match ZcY (x0,x1) with
  | some y2 => some (decide (y1<=y2))
  | none=>none
 | none=>none
def ZeO (x:Config×(List SEntry)):Option Bool:=Zvh x.1 x.2
def ZtT (x0:Config) (x1:List SEntry):Option Bool := match ZjL (x0,x1) with
 | some y1 => match Zis x0 with
  | some y2 => some (decide (y1>=y2))
  | none=>none
 | none=>none
def ZnF (x:Config×(List SEntry)):Option Bool:=ZtT x.1 x.2
def Ze1 (x0:Int) (x1:List Thread) (x2:Int) (x3:Int):Option ((Int×(List Thread)×Int×Int)⊕((Int))) := bif decide (x3<x2) then bif decide (0<=x3) then bif decide (x3<(↑x1.length:Int)) then match Zbt (x1.getD x3.toNat Zas) with
 | some y1 => bif y1 then some (Sum.inl (Zad .i64 (x0+1),x1,x2,Zad .i64 (x3+1))) else some (Sum.inl (x0,x1,x2,Zad .i64 (x3+1)))
 | none=>none else none else none else some (Sum.inr x0)
def ZgH (x:Int×(List Thread)×Int×Int):Option ((Int×(List Thread)×Int×Int)⊕((Int))):=Ze1 x.1 x.2.1 x.2.2.1 x.2.2.2
def ZiI (x:Int×(List Thread)×Int×Int):Option Int:=ZaC ZgH x
def Zki (x0:Wld):Option Int := match ZiI (0,x0.t,(↑x0.t.length:Int),0) with
 | some y1 => some y1
 | none=>none
def Zel (x:Wld):Option Int:=Zki x
def Zut (x0:Config) (x1:Int):Option Int := bif decide (x1<0) then some ((-1:Int)) else bif decide (x1>=x0.items) then some ((-1:Int)) else match Zft x0 with
 | some y1 => some (Zad .i64 (x1*y1))
 | none=>none
def Zte (x:Config×Int):Option Int:=Zut x.1 x.2
def ZgX (x0:Int) (x1:Int):Option (Int×Bool) :=
 some ((Zad .i64 (x0+x1),decide (x1>=0) == decide (Zad .i64 (x0+x1)>=x0)))
def ZgV (x:Int×Int):Option (Int×Bool):=ZgX x.1 x.2
def ZcP (x0:Op) (x1:Int) (x2:Int) (x3:Int):Option (Int×Bool) := bif x0.tag == 1 then some ((Zad .i64 (x1+x0.v),true)) else bif x0.tag == 2 then some ((Zad .i64 (x1-x0.v),true)) else bif x0.tag == 3 then some ((Zad .i64 (↑(BitVec.ofInt IntKind.i64.bits x1 ||| BitVec.ofInt IntKind.i64.bits x0.v).toNat:Int),true)) else bif x0.tag == 4 then some ((Zad .i64 (↑(BitVec.ofInt IntKind.i64.bits x1 &&& BitVec.ofInt IntKind.i64.bits x0.v).toNat:Int),true)) else bif x0.tag == 5 then some ((if x0.v>x1 then x0.v else x1,true)) else bif x0.tag == 6 then some ((if x0.v<x1 then x0.v else x1,true)) else bif x0.tag == 7 then some ((x0.v,true)) else bif x0.tag == 8 then match ZgV (x1,x0.v) with
 | some y1 => bif !y1.snd then some ((x1,false)) else bif decide (y1.fst<x2) then some ((x1,false)) else bif decide (y1.fst>x3) then some ((x1,false)) else some ((y1.fst,true))
 | none=>none else bif x0.tag == 9 then bif decide (x0.v<0) then some ((x1,false)) else bif decide (x1<x2) then some ((x1,false)) else bif decide (IntKind.u64.wrap x0.v>=Zad IntKind.u64 (IntKind.u64.wrap x1-IntKind.u64.wrap x2)) then some ((x2,true)) else some ((Zad .i64 (x1-x0.v),true)) else some ((x1,false))
def Zsx (x:Op×Int×Int×Int):Option (Int×Bool):=ZcP x.1 x.2.1 x.2.2.1 x.2.2.2
def ZpA (x0:Config) (x1:Int×Int×Int×Int×Int×Int×Int×Int×Int×Int×Int×Int×Int×Int×Int×Int×Int×Int×Int×Int×Int×Int×Int×Int) (x2:Int):Option ((Config×(Int×Int×Int×Int×Int×Int×Int×Int×Int×Int×Int×Int×Int×Int×Int×Int×Int×Int×Int×Int×Int×Int×Int×Int)×Int)⊕((Config)⊕(Int))) := bif decide (x2<8) then bif decide (0<=x2) then bif decide (x2<(↑(8:Nat):Int)) then bif decide (x2=(↑(0:Nat):Int)) then bif decide (x1.fst<x1.snd.fst) then some (Sum.inr (Sum.inr (Zad .i64 (50+x2)))) else bif decide (x1.fst>x1.snd.snd.fst) then some (Sum.inr (Sum.inr (Zad .i64 (50+x2)))) else some (Sum.inl (x0,x1,Zad .i64 (x2+1))) else bif decide (x2=(↑((0:Nat)+(1:Nat)):Int)) then bif decide (x1.snd.snd.snd.fst<x1.snd.snd.snd.snd.fst) then some (Sum.inr (Sum.inr (Zad .i64 (50+x2)))) else bif decide (x1.snd.snd.snd.fst>x1.snd.snd.snd.snd.snd.fst) then some (Sum.inr (Sum.inr (Zad .i64 (50+x2)))) else some (Sum.inl (x0,x1,Zad .i64 (x2+1))) else bif decide (x2=(↑((0:Nat)+(1:Nat)+(1:Nat)):Int)) then bif decide (x1.snd.snd.snd.snd.snd.snd.fst<x1.snd.snd.snd.snd.snd.snd.snd.fst) then some (Sum.inr (Sum.inr (Zad .i64 (50+x2)))) else bif decide (x1.snd.snd.snd.snd.snd.snd.fst>x1.snd.snd.snd.snd.snd.snd.snd.snd.fst) then some (Sum.inr (Sum.inr (Zad .i64 (50+x2)))) else some (Sum.inl (x0,x1,Zad .i64 (x2+1))) else bif decide (x2=(↑((0:Nat)+(1:Nat)+(1:Nat)+(1:Nat)):Int)) then bif decide (x1.snd.snd.snd.snd.snd.snd.snd.snd.snd.fst<x1.snd.snd.snd.snd.snd.snd.snd.snd.snd.snd.fst) then some (Sum.inr (Sum.inr (Zad .i64 (50+x2)))) else bif decide (x1.snd.snd.snd.snd.snd.snd.snd.snd.snd.fst>x1.snd.snd.snd.snd.snd.snd.snd.snd.snd.snd.snd.fst) then some (Sum.inr (Sum.inr (Zad .i64 (50+x2)))) else some (Sum.inl (x0,x1,Zad .i64 (x2+1))) else bif decide (x2=(↑((0:Nat)+(1:Nat)+(1:Nat)+(1:Nat)+(1:Nat)):Int)) then bif decide (x1.snd.snd.snd.snd.snd.snd.snd.snd.snd.snd.snd.snd.fst<x1.snd.snd.snd.snd.snd.snd.snd.snd.snd.snd.snd.snd.snd.fst) then some (Sum.inr (Sum.inr (Zad .i64 (50+x2)))) else bif decide (x1.snd.snd.snd.snd.snd.snd.snd.snd.snd.snd.snd.snd.fst>x1.snd.snd.snd.snd.snd.snd.snd.snd.snd.snd.snd.snd.snd.snd.fst) then some (Sum.inr (Sum.inr (Zad .i64 (50+x2)))) else some (Sum.inl (x0,x1,Zad .i64 (x2+1))) else bif decide (x2=(↑((0:Nat)+(1:Nat)+(1:Nat)+(1:Nat)+(1:Nat)+(1:Nat)):Int)) then bif decide (x1.snd.snd.snd.snd.snd.snd.snd.snd.snd.snd.snd.snd.snd.snd.snd.fst<x1.snd.snd.snd.snd.snd.snd.snd.snd.snd.snd.snd.snd.snd.snd.snd.snd.fst) then some (Sum.inr (Sum.inr (Zad .i64 (50+x2)))) else bif decide (x1.snd.snd.snd.snd.snd.snd.snd.snd.snd.snd.snd.snd.snd.snd.snd.fst>x1.snd.snd.snd.snd.snd.snd.snd.snd.snd.snd.snd.snd.snd.snd.snd.snd.snd.fst) then some (Sum.inr (Sum.inr (Zad .i64 (50+x2)))) else some (Sum.inl (x0,x1,Zad .i64 (x2+1))) else bif decide (x2=(↑((0:Nat)+(1:Nat)+(1:Nat)+(1:Nat)+(1:Nat)+(1:Nat)+(1:Nat)):Int)) then bif decide (x1.snd.snd.snd.snd.snd.snd.snd.snd.snd.snd.snd.snd.snd.snd.snd.snd.snd.snd.fst<x1.snd.snd.snd.snd.snd.snd.snd.snd.snd.snd.snd.snd.snd.snd.snd.snd.snd.snd.snd.fst) then some (Sum.inr (Sum.inr (Zad .i64 (50+x2)))) else bif decide (x1.snd.snd.snd.snd.snd.snd.snd.snd.snd.snd.snd.snd.snd.snd.snd.snd.snd.snd.fst>x1.snd.snd.snd.snd.snd.snd.snd.snd.snd.snd.snd.snd.snd.snd.snd.snd.snd.snd.snd.snd.fst) then some (Sum.inr (Sum.inr (Zad .i64 (50+x2)))) else some (Sum.inl (x0,x1,Zad .i64 (x2+1))) else bif decide (x2=(↑((0:Nat)+(1:Nat)+(1:Nat)+(1:Nat)+(1:Nat)+(1:Nat)+(1:Nat)+(1:Nat)):Int)) then bif decide (x1.snd.snd.snd.snd.snd.snd.snd.snd.snd.snd.snd.snd.snd.snd.snd.snd.snd.snd.snd.snd.snd.fst<x1.snd.snd.snd.snd.snd.snd.snd.snd.snd.snd.snd.snd.snd.snd.snd.snd.snd.snd.snd.snd.snd.snd.fst) then some (Sum.inr (Sum.inr (Zad .i64 (50+x2)))) else bif decide (x1.snd.snd.snd.snd.snd.snd.snd.snd.snd.snd.snd.snd.snd.snd.snd.snd.snd.snd.snd.snd.snd.fst>x1.snd.snd.snd.snd.snd.snd.snd.snd.snd.snd.snd.snd.snd.snd.snd.snd.snd.snd.snd.snd.snd.snd.snd) then some (Sum.inr (Sum.inr (Zad .i64 (50+x2)))) else some (Sum.inl (x0,x1,Zad .i64 (x2+1))) else none else none else none else some (Sum.inr (Sum.inl x0))
def Zen (x:Config×(Int×Int×Int×Int×Int×Int×Int×Int×Int×Int×Int×Int×Int×Int×Int×Int×Int×Int×Int×Int×Int×Int×Int×Int)×Int):Option ((Config×(Int×Int×Int×Int×Int×Int×Int×Int×Int×Int×Int×Int×Int×Int×Int×Int×Int×Int×Int×Int×Int×Int×Int×Int)×Int)⊕((Config)⊕(Int))):=ZpA x.1 x.2.1 x.2.2
def ZcR (x:Config×(Int×Int×Int×Int×Int×Int×Int×Int×Int×Int×Int×Int×Int×Int×Int×Int×Int×Int×Int×Int×Int×Int×Int×Int)×Int):Option ((Config)⊕(Int)):=ZaC Zen x
def ZiS (x0:Config):Option Int := match ZcR (x0,(x0.threads,1,16,x0.items,1,4,x0.backend,1,3,x0.depth,0,4,x0.layers,0,3,x0.width,1,8,x0.spin,0,20,x0.wait,0,1000),0) with
 | some (.inl y1) => bif y1.bounded then bif decide (y1.init<y1.lo) then some (58) else bif decide (y1.hi<y1.init) then some (58) else some (0) else some (0)
 | some (.inr y2) => some y2
 | none=>none
def Zef (x:Config):Option Int:=ZiS x
def ZeZ (x0:Config) (x1:List SEntry) (x2:Int) (x3:Int):Option ((Config×(List SEntry)×Int×Int)⊕((Unit)⊕(Int×Int))) := bif decide (x3<x2) then bif decide (0<=x3) then bif decide (x3<(↑x1.length:Int)) then match Zfe (x0,x1.getD x3.toNat ZaG) with
 | some y1 => bif y1 != 0 then some (Sum.inr (Sum.inr (x3,y1))) else some (Sum.inl (x0,x1,x2,Zad .i64 (x3+1)))
 | none=>none else none else none else some (Sum.inr (Sum.inl ()))
def Zgv (x:Config×(List SEntry)×Int×Int):Option ((Config×(List SEntry)×Int×Int)⊕((Unit)⊕(Int×Int))):=ZeZ x.1 x.2.1 x.2.2.1 x.2.2.2
def Ziv (x:Config×(List SEntry)×Int×Int):Option ((Unit)⊕(Int×Int)):=ZaC Zgv x
def Zke (x0:Config) (x1:List SEntry):Option (Int×Int) := match Zef x0 with
 | some y1 => bif y1 != 0 then some ((0,y1)) else bif decide ((↑x1.length:Int)>65536) then some ((0,2)) else match Ziv (x0,x1,(↑x1.length:Int),0) with
  | some (.inl y2) => some ((0,0))
  | some (.inr y3) => some y3
  | none=>none
 | none=>none
def ZhJ (x:Config×(List SEntry)):Option (Int×Int):=Zke x.1 x.2
def ZjA (x0:Config):Option Int := bif decide (x0.depth<0) then none else some (Zad .i64 (Zad .i64 (1*2 ^ min x0.depth.toNat IntKind.i64.bits)-1))
def ZfG (x:Config):Option Int:=ZjA x
def Zmz (x0:Config):Option Plan := match ZfG x0 with
 | some y1 => some (Plan.mk 1 (Zad .i64 (1+y1)) (Zad .i64 (Zad .i64 (1+y1)+Zad .i64 (x0.layers*x0.width))) (Zad .i64 (x0.items*Zad .i64 (Zad .i64 (1+y1)+Zad .i64 (x0.layers*x0.width)))))
 | none=>none
def Zcm (x:Config):Option Plan:=Zmz x
def Zie (x0:Config) (x1:Int):Option Int := bif decide (x1<0) then some ((-1:Int)) else bif decide (x1>=x0.items) then some ((-1:Int)) else match Zcm x0 with
 | some y1 => some (Zad .i64 (x1*y1.block))
 | none=>none
def Zc3 (x:Config×Int):Option Int:=Zie x.1 x.2
def Zk6 (x0:Int):Option (List Int) := bif decide (x0<1) then some (([]:List Int)) else bif decide (x0>10000) then some (([]:List Int)) else bif x0 == x0 then bif decide (0<=x0) then bif decide (x0<=Zbz) then some (List.replicate x0.toNat 0) else none else none else none
def ZhL (x:Int):Option (List Int):=Zk6 x
def ZfZ (x0:Int):Option ((List (List Entry))) := bif decide (x0<1) then some (([]:List (List Entry))) else bif decide (x0>10000) then some (([]:List (List Entry))) else bif x0 == x0 then bif decide (0<=x0) then bif decide (x0<=Zbz) then some (List.replicate x0.toNat ([]:List Entry)) else none else none else none
def Zer (x:Int):Option ((List (List Entry))):=ZfZ x
def Zmw (x0:Int) (x1:Int):Option Memo := match ZhL x0 with
 | some y1 => match Zer x1 with
  | some y2 => some (Memo.mk y1 y2)
  | none=>none
 | none=>none
def Zma (x:Int×Int):Option Memo:=Zmw x.1 x.2
def Zkb (x0:Config):Option Int := match Zcm x0 with
 | some y1 => some (Zad .i64 (y1.lines+Zad .i64 (2*x0.threads)))
 | none=>none
def Zkf (x:Config):Option Int:=Zkb x
def ZeN (x0:Config) (x1:Memo) (x2:Memo) (x3:Int) (x4:Int):Option ((Config×Memo×Memo×Int×Int)⊕((Memo×Memo))) := bif decide (x4<x3) then match Zc3 (x0,x4) with
 | some y1 => bif decide (0<=y1) then bif decide (y1<(↑x2.words.length:Int)) then some (Sum.inl (x0,x1,{ x2 with words:=x2.words.set (Int.toNat y1) x0.init },x3,Zad .i64 (x4+1))) else none else none
 | none=>none else some (Sum.inr (x1,x2))
def ZfV (x:Config×Memo×Memo×Int×Int):Option ((Config×Memo×Memo×Int×Int)⊕((Memo×Memo))):=ZeN x.1 x.2.1 x.2.2.1 x.2.2.2.1 x.2.2.2.2
def ZkY (x:Config×Memo×Memo×Int×Int):Option (Memo×Memo):=ZaC ZfV x
def Zjt (x0:Config):Option Memo := match Zkf x0 with
 | some y1 => match Zma (y1,x0.threads) with
  | some y2 => match ZkY (x0,Memo.mk ([]:List Int) ([]:List (List Entry)),y2,x0.items,0) with
   | some y3 => some (y3.snd)
   | none=>none
  | none=>none
 | none=>none
def ZjB (x:Config):Option Memo:=Zjt x
def Zuk:Option Thread :=
 some (Thread.mk 0 0 (Op.mk 0 0) ([]:List Entry) ([]:List Kid) ([]:List Int) 0 0 0 0 0 1 0 0 0 0)
def ZkK (x:Unit):Option Thread:=Zuk
def Zdx (x0:List Int):Option (List Int) := bif fewB ((0:Nat)+x0.length) then some (x0) else none
def Zby (x:(List Int)):Option (List Int):=Zdx x
def ZfB (x0:List Int) (x1:Int):Option (Int×Int) := bif decide (x1<0) then some ((0,30)) else bif decide (x1>=(↑x0.length:Int)) then some ((0,30)) else bif decide (0<=x1) then bif decide (x1<(↑x0.length:Int)) then some ((x0.getD x1.toNat 0,0)) else none else none
def ZbD (x:(List Int)×Int):Option (Int×Int):=ZfB x.1 x.2
def ZfN (x0:Memo) (x1:Int):Option (Int×Int) := match ZbD (x0.words,x1) with
 | some y1 => some y1
 | none=>none
def ZbY (x:Memo×Int):Option (Int×Int):=ZfN x.1 x.2
def ZoI (x0:Int) (x1:Int):Option (Int×Int) :=
 some ((Zad IntKind.u64 (Zad IntKind.u64 (Zad IntKind.u64 (x0.fdiv (2 ^ min (Int.toNat 32) IntKind.u64.bits)*x1.fdiv (2 ^ min (Int.toNat 32) IntKind.u64.bits))+(Zad IntKind.u64 (Zad IntKind.u64 (x0.fdiv (2 ^ min (Int.toNat 32) IntKind.u64.bits)*Zad IntKind.u64 (↑(BitVec.ofInt IntKind.u64.bits x1 &&& BitVec.ofInt IntKind.u64.bits 4294967295).toNat:Int))+(Zad IntKind.u64 (Zad IntKind.u64 (↑(BitVec.ofInt IntKind.u64.bits x0 &&& BitVec.ofInt IntKind.u64.bits 4294967295).toNat:Int)*Zad IntKind.u64 (↑(BitVec.ofInt IntKind.u64.bits x1 &&& BitVec.ofInt IntKind.u64.bits 4294967295).toNat:Int))).fdiv (2 ^ min (Int.toNat 32) IntKind.u64.bits))).fdiv (2 ^ min (Int.toNat 32) IntKind.u64.bits))+(Zad IntKind.u64 (Zad IntKind.u64 (↑(BitVec.ofInt IntKind.u64.bits (Zad IntKind.u64 (Zad IntKind.u64 (x0.fdiv (2 ^ min (Int.toNat 32) IntKind.u64.bits)*Zad IntKind.u64 (↑(BitVec.ofInt IntKind.u64.bits x1 &&& BitVec.ofInt IntKind.u64.bits 4294967295).toNat:Int))+(Zad IntKind.u64 (Zad IntKind.u64 (↑(BitVec.ofInt IntKind.u64.bits x0 &&& BitVec.ofInt IntKind.u64.bits 4294967295).toNat:Int)*Zad IntKind.u64 (↑(BitVec.ofInt IntKind.u64.bits x1 &&& BitVec.ofInt IntKind.u64.bits 4294967295).toNat:Int))).fdiv (2 ^ min (Int.toNat 32) IntKind.u64.bits))) &&& BitVec.ofInt IntKind.u64.bits 4294967295).toNat:Int)+Zad IntKind.u64 (Zad IntKind.u64 (↑(BitVec.ofInt IntKind.u64.bits x0 &&& BitVec.ofInt IntKind.u64.bits 4294967295).toNat:Int)*x1.fdiv (2 ^ min (Int.toNat 32) IntKind.u64.bits)))).fdiv (2 ^ min (Int.toNat 32) IntKind.u64.bits)),Zad IntKind.u64 (x0*x1)))
def ZjZ (x:Int×Int):Option (Int×Int):=ZoI x.1 x.2
def ZqD (x0:Int) (x1:Int):Option (Int×Int) := match ZjZ (x0,x1) with
 | some y1 => some y1
 | none=>none
def ZdJ (x:Int×Int):Option (Int×Int):=ZqD x.1 x.2
def ZmS (x0:Int) (x1:Int) (x2:Int) (x3:Int):Option Bool := bif decide (x1>=0) then bif decide (Zad .i64 (x0+x1)>=x0) then bif decide (Zad .i64 (x0+x1)<x2) then some (true) else some (decide (Zad .i64 (x0+x1)>x3)) else bif decide (x1<0) then bif decide (Zad .i64 (x0+x1)<x0) then bif decide (Zad .i64 (x0+x1)<x2) then some (true) else some (decide (Zad .i64 (x0+x1)>x3)) else some (true) else some (true) else bif decide (x1<0) then bif decide (Zad .i64 (x0+x1)<x0) then bif decide (Zad .i64 (x0+x1)<x2) then some (true) else some (decide (Zad .i64 (x0+x1)>x3)) else some (true) else some (true)
def Zjs (x:Int×Int×Int×Int):Option Bool:=ZmS x.1 x.2.1 x.2.2.1 x.2.2.2
def Zid (x0:Op) (x1:Int) (x2:Int) (x3:Int):Option (Int×Bool) := bif x0.tag == 2 then some ((Zad .i64 (x1+Zad .i64 (0-x0.v)),true)) else bif x0.tag == 1 then some ((Zad .i64 (x1+x0.v),true)) else bif x0.tag == 3 then some ((Zad .i64 (↑(BitVec.ofInt IntKind.i64.bits x1 ||| BitVec.ofInt IntKind.i64.bits x0.v).toNat:Int),true)) else bif x0.tag == 4 then some ((Zad .i64 (↑(BitVec.ofInt IntKind.i64.bits x1 &&& BitVec.ofInt IntKind.i64.bits x0.v).toNat:Int),true)) else bif x0.tag == 5 then some ((if x1>x0.v then x1 else x0.v,true)) else bif x0.tag == 6 then some ((if x1<x0.v then x1 else x0.v,true)) else bif x0.tag == 7 then some ((x0.v,true)) else bif x0.tag == 9 then bif decide (x0.v<0) then some ((x1,false)) else bif decide (x1<x2) then some ((x1,false)) else bif decide (Zad .i64 (x1-x0.v)<=x1) then bif decide (Zad .i64 (x1-x0.v)>=x2) then some ((Zad .i64 (x1-x0.v),true)) else some ((x2,true)) else some ((x2,true)) else bif x0.tag == 8 then match Zjs (x1,x0.v,x2,x3) with
 | some y1 => bif !y1 then some ((Zad .i64 (x1+x0.v),true)) else some ((x1,false))
 | none=>none else some ((x1,false))
def ZcE (x:Op×Int×Int×Int):Option (Int×Bool):=Zid x.1 x.2.1 x.2.2.1 x.2.2.2
def Zf3 (x0:Memo) (x1:Int) (x2:Int):Option (Memo×Int) := match ZbD (x0.words,x1) with
 | some y1 => bif y1.snd != 0 then some ((x0,y1.snd)) else match Zby x0.words with
  | some y2 => bif decide (0<=x1) then bif decide (x1<(↑(List.length y2):Int)) then some (({ x0 with words:=List.set y2 x1.toNat x2 },y1.snd)) else none else none
  | none=>none
 | none=>none
def Zb8 (x:Memo×Int×Int):Option (Memo×Int):=Zf3 x.1 x.2.1 x.2.2
def Zkz (x0:Config) (x1:Int):Option Int := bif decide (x1<0) then some ((-1:Int)) else bif decide (x1>=x0.threads) then some ((-1:Int)) else match Zcm x0 with
 | some y1 => some (Zad .i64 (y1.lines+Zad .i64 (2*x1)))
 | none=>none
def Zc2 (x:Config×Int):Option Int:=Zkz x.1 x.2
def Zik (x0:Turn):Option Turn := bif x0.c.backend == 2 then bif decide (x0.c.depth>0) then some ({ x0 with th:={ x0.th with phase:=4 } }) else bif x0.c.backend == 3 then bif decide (x0.c.layers>0) then some ({ x0 with th:={ x0.th with phase:=17,layer:=1 } }) else some ({ x0 with th:={ x0.th with phase:=2 } }) else some ({ x0 with th:={ x0.th with phase:=2 } }) else bif x0.c.backend == 3 then bif decide (x0.c.layers>0) then some ({ x0 with th:={ x0.th with phase:=17,layer:=1 } }) else some ({ x0 with th:={ x0.th with phase:=2 } }) else some ({ x0 with th:={ x0.th with phase:=2 } })
def ZhK (x:Turn):Option Turn:=Zik x
def ZhT (x0:Turn):Option (Turn×Bool) := bif x0.th.phase != 1 then some ((x0,false)) else match Zc2 (x0.c,x0.t) with
 | some y1 => match Zb8 (x0.m,y1,0) with
  | some y2 => bif y2.snd != 0 then some ((x0,true)) else match ZhK { x0 with m:=y2.fst } with
   | some y3 => some ((y3,true))
   | none=>none
  | none=>none
 | none=>none
def ZhM (x:Turn):Option (Turn×Bool):=ZhT x
def Zkt (x0:Config) (x1:Int) (x2:Int):Option Int := bif decide (x1<0) then some ((-1:Int)) else bif decide (x1>=x0.items) then some ((-1:Int)) else match ZfG x0 with
 | some y1 => bif decide (x2<1) then some ((-1:Int)) else bif decide (x2>=Zad .i64 (1+y1)) then some ((-1:Int)) else match Zcm x0 with
  | some y2 => some (Zad .i64 (Zad .i64 (x1*y2.block)+x2))
  | none=>none
 | none=>none
def Zek (x:Config×Int×Int):Option Int:=Zkt x.1 x.2.1 x.2.2
def Zdi (x0:Said):Option Int :=
 some (Zad .i64 (Zad .i64 (8*Zad .i64 (x0.n+1))+x0.kind))
def ZbM (x:Said):Option Int:=Zdi x
def ZkP (x0:Int):Option Int := match ZbM (Said.mk 1 x0) with
 | some y1 => some y1
 | none=>none
def Ze7 (x:Int):Option Int:=ZkP x
def ZlH (x0:Int):Option Int :=
 some ((if 0>x0 then 0 else x0).fdiv (2 ^ min (Int.toNat 1) IntKind.i64.bits))
def ZiM (x:Int):Option Int:=ZlH x
def ZkG (x0:Turn):Option Turn := bif decide (x0.th.stop>0) then bif decide (x0.th.at_>=0) then bif decide (x0.th.at_<(↑x0.th.held.length:Int)) then some ({ x0 with th:={ x0.th with phase:=7 } }) else some ({ x0 with th:={ x0.th with phase:=11 } }) else some ({ x0 with th:={ x0.th with phase:=11 } }) else bif decide (x0.th.at_>=0) then bif decide (x0.th.at_<(↑x0.th.held.length:Int)) then some ({ x0 with th:={ x0.th with phase:=7 } }) else some ({ x0 with th:={ x0.th with phase:=2 } }) else some ({ x0 with th:={ x0.th with phase:=2 } })
def Zgb (x:Turn):Option Turn:=ZkG x
def ZkL (x0:Turn):Option Turn := match Zgb { x0 with th:={ x0.th with at_:=0 } } with
 | some y1 => some y1
 | none=>none
def Zej (x:Turn):Option Turn:=ZkL x
def ZjE (x0:Turn):Option Turn := match Zby x0.th.held with
 | some y1 => bif fewB (List.length y1+(x0.th.node::[]).length) then match ZiM x0.th.node with
  | some y2 => bif decide (y2>0) then some ({ x0 with th:={ x0.th with held:=y1++x0.th.node::[],node:=y2 } }) else match Zej { x0 with th:={ x0.th with held:=y1++x0.th.node::[],node:=y2 } } with
   | some y3 => some y3
   | none=>none
  | none=>none else none
 | none=>none
def Zjy (x:Turn):Option Turn:=ZjE x
def Zh4 (x0:Memo) (x1:Int) (x2:Int) (x3:Int):Option (Memo×Bool×Int) := match ZbD (x0.words,x1) with
 | some y1 => bif y1.snd != 0 then some ((x0,false,y1.snd)) else bif y1.fst == x2 then match Zby x0.words with
  | some y2 => bif decide (0<=x1) then bif decide (x1<(↑(List.length y2):Int)) then some (({ x0 with words:=List.set y2 x1.toNat x3 },y1.fst == x2,y1.snd)) else none else none
  | none=>none else some ((x0,y1.fst == x2,y1.snd))
 | none=>none
def ZcN (x:Memo×Int×Int×Int):Option (Memo×Bool×Int):=Zh4 x.1 x.2.1 x.2.2.1 x.2.2.2
def ZjS (x0:Turn):Option Bool := bif decide (0<x0.th.until_) then some (decide (x0.th.until_<=x0.now)) else some (false)
def ZdQ (x:Turn):Option Bool:=ZjS x
def Znk (x0:Int):Option Said := bif Zad .i64 (↑(BitVec.ofInt IntKind.i64.bits x0 &&& BitVec.ofInt IntKind.i64.bits 7).toNat:Int) == 5 && (Zad .i64 (x0.fdiv (2 ^ min (Int.toNat 3) IntKind.i64.bits)-1) == (-1:Int) && true) then some (Said.mk (Zad .i64 (↑(BitVec.ofInt IntKind.i64.bits x0 &&& BitVec.ofInt IntKind.i64.bits 7).toNat:Int)) (Zad .i64 (x0.fdiv (2 ^ min (Int.toNat 3) IntKind.i64.bits)-1))) else bif decide (Zad .i64 (↑(BitVec.ofInt IntKind.i64.bits x0 &&& BitVec.ofInt IntKind.i64.bits 7).toNat:Int)>=1) then bif decide (Zad .i64 (↑(BitVec.ofInt IntKind.i64.bits x0 &&& BitVec.ofInt IntKind.i64.bits 7).toNat:Int)<=3) then bif decide (Zad .i64 (x0.fdiv (2 ^ min (Int.toNat 3) IntKind.i64.bits)-1)>=0) then bif decide (Zad .i64 (x0.fdiv (2 ^ min (Int.toNat 3) IntKind.i64.bits)-1)<16) then some (Said.mk (Zad .i64 (↑(BitVec.ofInt IntKind.i64.bits x0 &&& BitVec.ofInt IntKind.i64.bits 7).toNat:Int)) (Zad .i64 (x0.fdiv (2 ^ min (Int.toNat 3) IntKind.i64.bits)-1))) else bif Zad .i64 (↑(BitVec.ofInt IntKind.i64.bits x0 &&& BitVec.ofInt IntKind.i64.bits 7).toNat:Int) == 4 then bif decide ((Zad .i64 (x0.fdiv (2 ^ min (Int.toNat 3) IntKind.i64.bits)-1)).fdiv (2 ^ min (Int.toNat 4) IntKind.i64.bits)>=0) then bif decide ((Zad .i64 (x0.fdiv (2 ^ min (Int.toNat 3) IntKind.i64.bits)-1)).fdiv (2 ^ min (Int.toNat 4) IntKind.i64.bits)<4) then bif decide (Zad .i64 (↑(BitVec.ofInt IntKind.i64.bits (Zad .i64 (x0.fdiv (2 ^ min (Int.toNat 3) IntKind.i64.bits)-1)) &&& BitVec.ofInt IntKind.i64.bits 15).toNat:Int)>=1) then bif decide (Zad .i64 (↑(BitVec.ofInt IntKind.i64.bits (Zad .i64 (x0.fdiv (2 ^ min (Int.toNat 3) IntKind.i64.bits)-1)) &&& BitVec.ofInt IntKind.i64.bits 15).toNat:Int)<=3) then some (Said.mk (Zad .i64 (↑(BitVec.ofInt IntKind.i64.bits x0 &&& BitVec.ofInt IntKind.i64.bits 7).toNat:Int)) (Zad .i64 (x0.fdiv (2 ^ min (Int.toNat 3) IntKind.i64.bits)-1))) else some (Said.mk 0 0) else some (Said.mk 0 0) else some (Said.mk 0 0) else some (Said.mk 0 0) else some (Said.mk 0 0) else bif Zad .i64 (↑(BitVec.ofInt IntKind.i64.bits x0 &&& BitVec.ofInt IntKind.i64.bits 7).toNat:Int) == 4 then bif decide ((Zad .i64 (x0.fdiv (2 ^ min (Int.toNat 3) IntKind.i64.bits)-1)).fdiv (2 ^ min (Int.toNat 4) IntKind.i64.bits)>=0) then bif decide ((Zad .i64 (x0.fdiv (2 ^ min (Int.toNat 3) IntKind.i64.bits)-1)).fdiv (2 ^ min (Int.toNat 4) IntKind.i64.bits)<4) then bif decide (Zad .i64 (↑(BitVec.ofInt IntKind.i64.bits (Zad .i64 (x0.fdiv (2 ^ min (Int.toNat 3) IntKind.i64.bits)-1)) &&& BitVec.ofInt IntKind.i64.bits 15).toNat:Int)>=1) then bif decide (Zad .i64 (↑(BitVec.ofInt IntKind.i64.bits (Zad .i64 (x0.fdiv (2 ^ min (Int.toNat 3) IntKind.i64.bits)-1)) &&& BitVec.ofInt IntKind.i64.bits 15).toNat:Int)<=3) then some (Said.mk (Zad .i64 (↑(BitVec.ofInt IntKind.i64.bits x0 &&& BitVec.ofInt IntKind.i64.bits 7).toNat:Int)) (Zad .i64 (x0.fdiv (2 ^ min (Int.toNat 3) IntKind.i64.bits)-1))) else some (Said.mk 0 0) else some (Said.mk 0 0) else some (Said.mk 0 0) else some (Said.mk 0 0) else some (Said.mk 0 0) else bif Zad .i64 (↑(BitVec.ofInt IntKind.i64.bits x0 &&& BitVec.ofInt IntKind.i64.bits 7).toNat:Int) == 4 then bif decide ((Zad .i64 (x0.fdiv (2 ^ min (Int.toNat 3) IntKind.i64.bits)-1)).fdiv (2 ^ min (Int.toNat 4) IntKind.i64.bits)>=0) then bif decide ((Zad .i64 (x0.fdiv (2 ^ min (Int.toNat 3) IntKind.i64.bits)-1)).fdiv (2 ^ min (Int.toNat 4) IntKind.i64.bits)<4) then bif decide (Zad .i64 (↑(BitVec.ofInt IntKind.i64.bits (Zad .i64 (x0.fdiv (2 ^ min (Int.toNat 3) IntKind.i64.bits)-1)) &&& BitVec.ofInt IntKind.i64.bits 15).toNat:Int)>=1) then bif decide (Zad .i64 (↑(BitVec.ofInt IntKind.i64.bits (Zad .i64 (x0.fdiv (2 ^ min (Int.toNat 3) IntKind.i64.bits)-1)) &&& BitVec.ofInt IntKind.i64.bits 15).toNat:Int)<=3) then some (Said.mk (Zad .i64 (↑(BitVec.ofInt IntKind.i64.bits x0 &&& BitVec.ofInt IntKind.i64.bits 7).toNat:Int)) (Zad .i64 (x0.fdiv (2 ^ min (Int.toNat 3) IntKind.i64.bits)-1))) else some (Said.mk 0 0) else some (Said.mk 0 0) else some (Said.mk 0 0) else some (Said.mk 0 0) else some (Said.mk 0 0) else bif Zad .i64 (↑(BitVec.ofInt IntKind.i64.bits x0 &&& BitVec.ofInt IntKind.i64.bits 7).toNat:Int) == 4 then bif decide ((Zad .i64 (x0.fdiv (2 ^ min (Int.toNat 3) IntKind.i64.bits)-1)).fdiv (2 ^ min (Int.toNat 4) IntKind.i64.bits)>=0) then bif decide ((Zad .i64 (x0.fdiv (2 ^ min (Int.toNat 3) IntKind.i64.bits)-1)).fdiv (2 ^ min (Int.toNat 4) IntKind.i64.bits)<4) then bif decide (Zad .i64 (↑(BitVec.ofInt IntKind.i64.bits (Zad .i64 (x0.fdiv (2 ^ min (Int.toNat 3) IntKind.i64.bits)-1)) &&& BitVec.ofInt IntKind.i64.bits 15).toNat:Int)>=1) then bif decide (Zad .i64 (↑(BitVec.ofInt IntKind.i64.bits (Zad .i64 (x0.fdiv (2 ^ min (Int.toNat 3) IntKind.i64.bits)-1)) &&& BitVec.ofInt IntKind.i64.bits 15).toNat:Int)<=3) then some (Said.mk (Zad .i64 (↑(BitVec.ofInt IntKind.i64.bits x0 &&& BitVec.ofInt IntKind.i64.bits 7).toNat:Int)) (Zad .i64 (x0.fdiv (2 ^ min (Int.toNat 3) IntKind.i64.bits)-1))) else some (Said.mk 0 0) else some (Said.mk 0 0) else some (Said.mk 0 0) else some (Said.mk 0 0) else some (Said.mk 0 0)
def Zjj (x:Int):Option Said:=Znk x
def Zls (x0:Int):Option Int := match Zjj x0 with
 | some y1 => bif x0 == 0 then some (y1.kind) else bif !(y1.kind == 0 && (y1.n == 0 && true)) then some (y1.kind) else some ((-1:Int))
 | none=>none
def ZgS (x:Int):Option Int:=Zls x
def Zkl (x0:Turn) (x1:Int):Option Turn := match ZgS x1 with
 | some y1 => bif y1 == 1 then some ({ x0 with th:={ x0.th with phase:=6,x:=x1 } }) else bif y1 == 0 then some ({ x0 with th:={ x0.th with phase:=5 } }) else match ZdQ x0 with
  | some y2 => bif y2 then match Zej x0 with
   | some y3 => some y3
   | none=>none else some (x0)
  | none=>none
 | none=>none
def Zkx (x:Turn×Int):Option Turn:=Zkl x.1 x.2
def Zjv (x0:Int):Option Int := match ZbM (Said.mk 2 x0) with
 | some y1 => some y1
 | none=>none
def ZjG (x:Int):Option Int:=Zjv x
def ZiR (x0:Turn):Option Turn := match Zej { x0 with th:={ x0.th with stop:=x0.th.node } } with
 | some y1 => some y1
 | none=>none
def Zix (x:Turn):Option Turn:=ZiR x
def ZkA (x0:Turn):Option (Turn×Bool) := match Zek (x0.c,x0.th.item,x0.th.node) with
 | some y1 => match Ze7 x0.t with
  | some y2 => bif x0.th.phase == 4 then match ZbY (x0.m,y1) with
   | some y3 => bif y3.snd != 0 then some ((x0,true)) else match Zkx (x0,y3.fst) with
     | some y4 => some ((y4,true))
     | none=>none
   | none=>none else bif x0.th.phase == 6 then match ZjG x0.t with
    | some y3 => match ZcN (x0.m,y1,x0.th.x,y3) with
     | some y4 => bif y4.snd.snd != 0 then some ((x0,true)) else bif y4.snd.fst then match Zix { x0 with m:=y4.fst,th:={ x0.th with phase:=4 } } with
      | some y5 => some ((y5,true))
      | none=>none else some (({ x0 with m:=y4.fst,th:={ x0.th with phase:=4 } },true))
     | none=>none
    | none=>none else bif x0.th.phase == 5 then match ZcN (x0.m,y1,0,y2) with
     | some y3 => bif y3.snd.snd != 0 then some ((x0,true)) else bif y3.snd.fst then match Zjy { x0 with m:=y3.fst,th:={ x0.th with phase:=4 } } with
      | some y4 => some ((y4,true))
      | none=>none else some (({ x0 with m:=y3.fst,th:={ x0.th with phase:=4 } },true))
     | none=>none else some ((x0,false))
  | none=>none
 | none=>none
def ZkO (x:Turn):Option (Turn×Bool):=ZkA x
def Zju (x0:Turn):Option Int := bif decide (x0.th.at_<0) then some ((-1:Int)) else bif decide (x0.th.at_>=(↑x0.th.held.length:Int)) then some ((-1:Int)) else bif decide (0<=x0.th.at_) then bif decide (x0.th.at_<(↑x0.th.held.length:Int)) then match Zek (x0.c,x0.th.item,x0.th.held.getD x0.th.at_.toNat 0) with
 | some y1 => some y1
 | none=>none else none else none
def Zfs (x:Turn):Option Int:=Zju x
def ZmI (x0:Int):Option Int := match Zjj x0 with
 | some y1 => bif decide (y1.kind>=1) then bif decide (y1.kind<=3) then some (y1.n) else some ((-1:Int)) else some ((-1:Int))
 | none=>none
def ZmG (x:Int):Option Int:=ZmI x
def ZmP (x0:Turn):Option Turn := match Zfs x0 with
 | some y1 => match ZbY (x0.m,y1) with
  | some y2 => bif y2.snd != 0 then some (x0) else match Ze7 x0.t with
   | some y3 => bif y2.fst == y3 then some ({ x0 with th:={ x0.th with phase:=8 } }) else match ZgS y2.fst with
    | some y4 => bif y4 == 3 then match ZmG y2.fst with
     | some y5 => some ({ x0 with th:={ x0.th with phase:=9,who:=y5 } })
     | none=>none else some (x0)
    | none=>none
   | none=>none
  | none=>none
 | none=>none
def ZjV (x:Turn):Option Turn:=ZmP x
def ZjM (x0:Turn):Option Turn := match Zgb { x0 with th:={ x0.th with at_:=Zad .i64 (x0.th.at_+1) } } with
 | some y1 => some y1
 | none=>none
def Zhd (x:Turn):Option Turn:=ZjM x
def Zm0 (x0:Turn):Option Turn := match Zfs x0 with
 | some y1 => match Ze7 x0.t with
  | some y2 => match ZcN (x0.m,y1,y2,0) with
   | some y3 => bif !y3.snd.fst then bif y3.snd.snd != 0 then some (x0) else some ({ x0 with m:=y3.fst,th:={ x0.th with phase:=7 } }) else bif y3.snd.snd != 0 then some (x0) else match Zhd { x0 with m:=y3.fst } with
    | some y4 => some y4
    | none=>none
   | none=>none
  | none=>none
 | none=>none
def ZjI (x:Turn):Option Turn:=Zm0 x
def ZcO (x0:List Entry):Option (List Entry) := bif fewB ((0:Nat)+x0.length) then some (x0) else none
def Zbk (x:(List Entry)):Option (List Entry):=ZcO x
def Zci (x0:List (List Entry)) (x1:Int):Option ((List Entry)×Int) := bif decide (x1<0) then some ((([]:List Entry),30)) else bif decide (x1>=(↑x0.length:Int)) then some ((([]:List Entry),30)) else bif decide (0<=x1) then bif decide (x1<(↑x0.length:Int)) then some ((x0.getD x1.toNat ([]:List Entry),0)) else none else none
def Zcf (x:(List (List Entry))×Int):Option ((List Entry)×Int):=Zci x.1 x.2
def ZhP (x0:Memo) (x1:Int):Option ((List Entry)×Int) := match Zcf (x0.boxes,x1) with
 | some y1 => match Zbk y1.fst with
  | some y2 => some ((y2,y1.snd))
  | none=>none
 | none=>none
def Zia (x:Memo×Int):Option ((List Entry)×Int):=ZhP x.1 x.2
def Zei (x0:Unit) (x1:Int):Option (List Kid) := bif decide (x1<0) then none else bif decide (Zad .i64 (x1-Zad .i64 (0-0))>0) then bif decide (0<=Zad .i64 (x1-Zad .i64 (0-0))) then bif decide (Zad .i64 (x1-Zad .i64 (0-0))<=Zbz) then some (List.take (Int.toNat 0) (List.replicate (Zad .i64 (x1-Zad .i64 (0-0))).toNat (Kid.mk 0 0))) else none else none else some (([]:List Kid))
def Zeo (x:Unit×Int):Option (List Kid):=Zei x.1 x.2
def Zco (x0:List Kid) (x1:List (List Kid)) (x2:Int) (x3:Int):Option (((List Kid)×(List (List Kid))×Int×Int)⊕(((List Kid)))) := bif decide (x3<x2) then bif decide (0<=x3) then bif decide (x3<(↑x1.length:Int)) then bif fewB (x0.length+List.length (x1.getD x3.toNat ([]:List Kid))) then some (Sum.inl (x0++x1.getD x3.toNat ([]:List Kid),x1,x2,Zad .i64 (x3+1))) else none else none else none else some (Sum.inr x0)
def ZbF (x:(List Kid)×(List (List Kid))×Int×Int):Option (((List Kid)×(List (List Kid))×Int×Int)⊕(((List Kid)))):=Zco x.1 x.2.1 x.2.2.1 x.2.2.2
def Zdd (x:(List Kid)×(List (List Kid))×Int×Int):Option (((List Kid))):=ZaC ZbF x
def Zcz (x0:List (List Kid)) (x1:Int) (x2:List (List Kid)) (x3:Int) (x4:Int):Option (((List (List Kid))×Int×(List (List Kid))×Int×Int)⊕(((List (List Kid))×Int))) := bif decide (x4<x3) then bif decide (0<=x4) then bif decide (x4<(↑x2.length:Int)) then bif decide (Zad .i64 (x1+(↑(List.length (x2.getD x4.toNat ([]:List Kid))):Int))<0) then none else some (Sum.inl (x0,Zad .i64 (x1+(↑(List.length (x2.getD x4.toNat ([]:List Kid))):Int)),x2,x3,Zad .i64 (x4+1))) else none else none else some (Sum.inr (x0,x1))
def ZbK (x:(List (List Kid))×Int×(List (List Kid))×Int×Int):Option (((List (List Kid))×Int×(List (List Kid))×Int×Int)⊕(((List (List Kid))×Int))):=Zcz x.1 x.2.1 x.2.2.1 x.2.2.2.1 x.2.2.2.2
def Zdn (x:(List (List Kid))×Int×(List (List Kid))×Int×Int):Option (((List (List Kid))×Int)):=ZaC ZbK x
def ZdT (x0:List (List Kid)):Option (List Kid) := match Zdn (x0,0,x0,(↑x0.length:Int),0) with
 | some y1 => match Zeo ((),y1.snd) with
  | some y2 => match Zdd (y2,y1.fst,(↑(List.length y1.fst):Int),0) with
   | some y3 => some y3
   | none=>none
  | none=>none
 | none=>none
def ZdR (x:(List (List Kid))):Option (List Kid):=ZdT x
def Zd7 (x0:Unit) (x1:Int):Option (List Entry) := bif decide (x1<0) then none else bif decide (Zad .i64 (x1-Zad .i64 (0-0))>0) then bif decide (0<=Zad .i64 (x1-Zad .i64 (0-0))) then bif decide (Zad .i64 (x1-Zad .i64 (0-0))<=Zbz) then some (List.take (Int.toNat 0) (List.replicate (Zad .i64 (x1-Zad .i64 (0-0))).toNat (Entry.mk 0 (Op.mk 0 0)))) else none else none else some (([]:List Entry))
def Zd8 (x:Unit×Int):Option (List Entry):=Zd7 x.1 x.2
def Zcl (x0:List Entry) (x1:List (List Entry)) (x2:Int) (x3:Int):Option (((List Entry)×(List (List Entry))×Int×Int)⊕(((List Entry)))) := bif decide (x3<x2) then bif decide (0<=x3) then bif decide (x3<(↑x1.length:Int)) then bif fewB (x0.length+List.length (x1.getD x3.toNat ([]:List Entry))) then some (Sum.inl (x0++x1.getD x3.toNat ([]:List Entry),x1,x2,Zad .i64 (x3+1))) else none else none else none else some (Sum.inr x0)
def ZbB (x:(List Entry)×(List (List Entry))×Int×Int):Option (((List Entry)×(List (List Entry))×Int×Int)⊕(((List Entry)))):=Zcl x.1 x.2.1 x.2.2.1 x.2.2.2
def Zc5 (x:(List Entry)×(List (List Entry))×Int×Int):Option (((List Entry))):=ZaC ZbB x
def Zcp (x0:List (List Entry)) (x1:Int) (x2:List (List Entry)) (x3:Int) (x4:Int):Option (((List (List Entry))×Int×(List (List Entry))×Int×Int)⊕(((List (List Entry))×Int))) := bif decide (x4<x3) then bif decide (0<=x4) then bif decide (x4<(↑x2.length:Int)) then bif decide (Zad .i64 (x1+(↑(List.length (x2.getD x4.toNat ([]:List Entry))):Int))<0) then none else some (Sum.inl (x0,Zad .i64 (x1+(↑(List.length (x2.getD x4.toNat ([]:List Entry))):Int)),x2,x3,Zad .i64 (x4+1))) else none else none else some (Sum.inr (x0,x1))
def ZbI (x:(List (List Entry))×Int×(List (List Entry))×Int×Int):Option (((List (List Entry))×Int×(List (List Entry))×Int×Int)⊕(((List (List Entry))×Int))):=Zcp x.1 x.2.1 x.2.2.1 x.2.2.2.1 x.2.2.2.2
def Zdc (x:(List (List Entry))×Int×(List (List Entry))×Int×Int):Option (((List (List Entry))×Int)):=ZaC ZbI x
def Zdz (x0:List (List Entry)):Option (List Entry) := match Zdc (x0,0,x0,(↑x0.length:Int),0) with
 | some y1 => match Zd8 ((),y1.snd) with
  | some y2 => match Zc5 (y2,y1.fst,(↑(List.length y1.fst):Int),0) with
   | some y3 => some y3
   | none=>none
  | none=>none
 | none=>none
def ZdA (x:(List (List Entry))):Option (List Entry):=Zdz x
def Znp (x0:List (List Entry)):Option (List Entry) := match ZdA x0 with
 | some y1 => some y1
 | none=>none
def ZkD (x:(List (List Entry))):Option (List Entry):=Znp x
def Zjw (x0:Turn) (x1:Int) (x2:List Entry):Option Turn := match ZdR (x0.th.kids::(Kid.mk x1 (↑x0.th.batch.length:Int)::[])::[]) with
 | some y1 => match ZkD (x0.th.batch::x2::[]) with
  | some y2 => some ({ x0 with th:={ x0.th with batch:=y2,kids:=y1 } })
  | none=>none
 | none=>none
def Zfw (x:Turn×Int×(List Entry)):Option Turn:=Zjw x.1 x.2.1 x.2.2
def Zkm (x0:Turn):Option Turn := match Zia (x0.m,x0.th.who) with
 | some y1 => bif y1.snd != 0 then some (x0) else match Zfw (x0,x0.th.who,y1.fst) with
  | some y2 => some ({ y2 with th:={ y2.th with phase:=10 } })
  | none=>none
 | none=>none
def Zhp (x:Turn):Option Turn:=Zkm x
def ZmX (x0:Turn):Option Turn := match Zfs x0 with
 | some y1 => match Zb8 (x0.m,y1,0) with
  | some y2 => bif y2.snd != 0 then some (x0) else match Zhd { x0 with m:=y2.fst } with
   | some y3 => some y3
   | none=>none
  | none=>none
 | none=>none
def ZjH (x:Turn):Option Turn:=ZmX x
def Zdu (x0:List (List Entry)):Option ((List (List Entry))) := bif fewB ((0:Nat)+x0.length) then some (x0) else none
def ZdC (x:(List (List Entry))):Option ((List (List Entry))):=Zdu x
def Zl5 (x0:Memo) (x1:Int) (x2:List Entry):Option (Memo×Int) := match Zcf (x0.boxes,x1) with
 | some y1 => bif y1.snd != 0 then some ((x0,y1.snd)) else match ZdC x0.boxes with
  | some y2 => match Zbk x2 with
   | some y3 => bif decide (0<=x1) then bif decide (x1<(↑(List.length y2):Int)) then some (({ x0 with boxes:=List.set y2 x1.toNat y3 },0)) else none else none
   | none=>none
  | none=>none
 | none=>none
def ZhR (x:Memo×Int×(List Entry)):Option (Memo×Int):=Zl5 x.1 x.2.1 x.2.2
def Zky (x0:Turn):Option Turn := match ZhR (x0.m,x0.t,x0.th.batch) with
 | some y1 => bif y1.snd != 0 then some (x0) else some ({ x0 with m:=y1.fst,th:={ x0.th with phase:=12 } })
 | none=>none
def Zhw (x:Turn):Option Turn:=Zky x
def Zhn (x0:Int):Option Int := match ZbM (Said.mk 3 x0) with
 | some y1 => some y1
 | none=>none
def Zhm (x:Int):Option Int:=Zhn x
def Zkw (x0:Turn):Option Turn := match Zek (x0.c,x0.th.item,x0.th.stop) with
 | some y1 => match Zhm x0.t with
  | some y2 => match Zb8 (x0.m,y1,y2) with
   | some y3 => bif y3.snd != 0 then some (x0) else some ({ x0 with m:=y3.fst,th:={ x0.th with phase:=13 } })
   | none=>none
  | none=>none
 | none=>none
def Zht (x:Turn):Option Turn:=Zkw x
def ZjQ (x0:Turn):Option (Turn×Bool) := bif x0.th.phase == 7 then match ZjV x0 with
 | some y1 => some ((y1,true))
 | none=>none else bif x0.th.phase == 8 then match ZjI x0 with
  | some y1 => some ((y1,true))
  | none=>none else bif x0.th.phase == 9 then match Zhp x0 with
   | some y1 => some ((y1,true))
   | none=>none else bif x0.th.phase == 10 then match ZjH x0 with
    | some y1 => some ((y1,true))
    | none=>none else bif x0.th.phase == 11 then match Zhw x0 with
     | some y1 => some ((y1,true))
     | none=>none else bif x0.th.phase == 12 then match Zht x0 with
      | some y1 => some ((y1,true))
      | none=>none else some ((x0,false))
def Zjz (x:Turn):Option (Turn×Bool):=ZjQ x
def Zh2 (x0:Turn):Option Turn := bif decide (x0.th.layer<x0.c.layers) then match ZdQ { x0 with th:={ x0.th with phase:=2 } } with
 | some y1 => bif !y1 then some ({ x0 with th:={ x0.th with phase:=17,layer:=Zad .i64 (x0.th.layer+1) } }) else some ({ x0 with th:={ x0.th with phase:=2 } })
 | none=>none else some ({ x0 with th:={ x0.th with phase:=2 } })
def Zck (x:Turn):Option Turn:=Zh2 x
def ZiX (x0:Int) (x1:Int):Option Int := match ZbM (Said.mk 4 (Zad .i64 (Zad .i64 (x0*2 ^ min (Int.toNat 4) IntKind.i64.bits)+x1))) with
 | some y1 => some y1
 | none=>none
def Zi6 (x:Int×Int):Option Int:=ZiX x.1 x.2
def ZhU (x0:Turn×Int) (x1:Int):Option Int := match Zc2 (x0.fst.c,x1) with
 | some y1 => some y1
 | none=>none
def ZbV (x:(Turn×Int)×Int):Option Int:=ZhU x.1 x.2
def Zpa:Option Int := match ZbM (Said.mk 5 (-1:Int)) with
 | some y1 => some y1
 | none=>none
def ZgQ (x:Unit):Option Int:=Zpa
def ZiU (x0:Config) (x1:Int):Option Int := bif decide (x1<0) then some ((-1:Int)) else bif decide (x1>=x0.threads) then some ((-1:Int)) else match Zcm x0 with
 | some y1 => some (Zad .i64 (Zad .i64 (y1.lines+Zad .i64 (2*x1))+1))
 | none=>none
def Zfc (x:Config×Int):Option Int:=ZiU x.1 x.2
def Zit (x0:Turn):Option Turn := bif decide (x0.th.at_<0) then some ({ x0 with th:={ x0.th with phase:=0 },done:=true }) else bif decide (x0.th.at_>=(↑x0.th.kids.length:Int)) then some ({ x0 with th:={ x0.th with phase:=0 },done:=true }) else bif decide (0<=x0.th.at_) then bif decide (x0.th.at_<(↑x0.th.kids.length:Int)) then some ({ x0 with th:={ x0.th with phase:=15 } }) else none else none
def Zdj (x:Turn):Option Turn:=Zit x
def ZkF (x0:List Entry) (x1:Int):Option (List Entry) := bif decide (0<=if (if (↑x0.length:Int)<x1 then (↑x0.length:Int) else x1)>0 then if (↑x0.length:Int)<x1 then (↑x0.length:Int) else x1 else 0) then bif decide ((if (if (↑x0.length:Int)<x1 then (↑x0.length:Int) else x1)>0 then if (↑x0.length:Int)<x1 then (↑x0.length:Int) else x1 else 0)<=(↑x0.length:Int)) then match Zbk (List.drop (Int.toNat 0) (List.take (if (if (↑x0.length:Int)<x1 then (↑x0.length:Int) else x1)>0 then if (↑x0.length:Int)<x1 then (↑x0.length:Int) else x1 else 0).toNat x0)) with
 | some y1 => some y1
 | none=>none else none else none
def ZkC (x:(List Entry)×Int):Option (List Entry):=ZkF x.1 x.2
def Zg0 (x0:Memo) (x1:Int) (x2:Int):Option (Memo×Int×Int) := match ZbD (x0.words,x1) with
 | some y1 => bif y1.snd != 0 then some ((x0,0,y1.snd)) else match Zby x0.words with
  | some y2 => bif decide (0<=x1) then bif decide (x1<(↑(List.length y2):Int)) then some (({ x0 with words:=List.set y2 x1.toNat x2 },y1)) else none else none
  | none=>none
 | none=>none
def Zlx (x:Memo×Int×Int):Option (Memo×Int×Int):=Zg0 x.1 x.2.1 x.2.2
def ZkM (x0:Config) (x1:Int) (x2:Int) (x3:Int):Option Int := bif decide (x1<0) then some ((-1:Int)) else bif decide (x1>=x0.items) then some ((-1:Int)) else bif decide (x2<1) then some ((-1:Int)) else bif decide (x2>=Zad .i64 (1+x0.layers)) then some ((-1:Int)) else bif decide (x3<0) then some ((-1:Int)) else bif decide (x3>=x0.width) then some ((-1:Int)) else match Zcm x0 with
 | some y1 => match Zcm x0 with
  | some y2 => some (Zad .i64 (Zad .i64 (Zad .i64 (Zad .i64 (x1*y1.block)+y2.slots)+Zad .i64 (Zad .i64 (x2-1)*x0.width))+x3))
  | none=>none
 | none=>none
def Zko (x:Config×Int×Int×Int):Option Int:=ZkM x.1 x.2.1 x.2.2.1 x.2.2.2
def Zg2 (x0:Tape):Option Int := bif decide (x0.at_<0) then some (0) else some (if Zad .i64 ((↑x0.l.length:Int)-x0.at_)>0 then Zad .i64 ((↑x0.l.length:Int)-x0.at_) else 0)
def ZfI (x:Tape):Option Int:=Zg2 x
end Go.Proofs.Mill
