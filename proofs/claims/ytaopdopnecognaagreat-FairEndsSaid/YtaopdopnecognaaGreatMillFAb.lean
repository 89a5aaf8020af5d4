/- What the functions compute. -/
import Derived.Test.YtaopdopnecognaaGreatMillAll3
set_option linter.all false
noncomputable section
namespace Go.Proofs.Mill
def Ze2 (x0:List SEntry) (x1:Int) (x2:Int):Option (((List SEntry)×Int×Int)⊕(((List SEntry)))) := bif decide (x2<x1) then bif fewB (x0.length+(SEntry.mk 2 x2 0 (Op.mk 0 0)::[]).length) then some (Sum.inl (x0++SEntry.mk 2 x2 0 (Op.mk 0 0)::[],x1,Zad .i64 (x2+1))) else none else some (Sum.inr x0)
def Zgq (x:(List SEntry)×Int×Int):Option (((List SEntry)×Int×Int)⊕(((List SEntry)))):=Ze2 x.1 x.2.1 x.2.2
def ZlK (x:(List SEntry)×Int×Int):Option (((List SEntry))):=ZaI Zgq x
def Zkc (x0:Config):Option (List SEntry) := match ZlK (([]:List SEntry),x0.threads,0) with
 | some y1 => some y1
 | none=>none
def Ze4 (x:Config):Option (List SEntry):=Zkc x
def Zc1 (x0:Int) (x1:List SEntry) (x2:List SEntry) (x3:List SEntry) (x4:Int) (x5:Int):Option ((Int×(List SEntry)×(List SEntry)×(List SEntry)×Int×Int)⊕(((List SEntry))⊕(Int×(List SEntry)×(List SEntry)))) := bif decide (x5<x4) then bif decide (0<=x5) then bif decide (x5<(↑x3.length:Int)) then bif decide ((↑x1.length:Int)>=65536) then some (Sum.inr (Sum.inl x1)) else bif fewB (x1.length+(x3.getD x5.toNat ZaE::[]).length) then some (Sum.inl (x0,x1++x3.getD x5.toNat ZaE::[],x2,x3,x4,Zad .i64 (x5+1))) else none else none else none else some (Sum.inr (Sum.inr (x0,x1,x2)))
def ZdQ (x:Int×(List SEntry)×(List SEntry)×(List SEntry)×Int×Int):Option ((Int×(List SEntry)×(List SEntry)×(List SEntry)×Int×Int)⊕(((List SEntry))⊕(Int×(List SEntry)×(List SEntry)))):=Zc1 x.1 x.2.1 x.2.2.1 x.2.2.2.1 x.2.2.2.2.1 x.2.2.2.2.2
def Zk9 (x:Int×(List SEntry)×(List SEntry)×(List SEntry)×Int×Int):Option (((List SEntry))⊕(Int×(List SEntry)×(List SEntry))):=ZaI ZdQ x
def ZeK (x0:Int) (x1:List SEntry) (x2:List SEntry):Option ((Int×(List SEntry)×(List SEntry))⊕(((List SEntry)))) := bif decide (x0>0) then match Zk9 (x0,x1,x2,x2,(↑x2.length:Int),0) with
 | some (.inl y1) => some (Sum.inr y1)
 | some (.inr y2) => some (Sum.inl (Zad .i64 (y2.fst-1),y2.snd))
 | none=>none else some (Sum.inr x1)
def ZdP (x:Int×(List SEntry)×(List SEntry)):Option ((Int×(List SEntry)×(List SEntry))⊕(((List SEntry)))):=ZeK x.1 x.2.1 x.2.2
def Zc3 (x:Int×(List SEntry)×(List SEntry)):Option (((List SEntry))):=ZaI ZdP x
def Zg8 (x0:Config) (x1:Int):Option (List SEntry) := match Ze4 x0 with
 | some y1 => match Zc3 (x1,([]:List SEntry),y1) with
  | some y2 => some y2
  | none=>none
 | none=>none
def Zdc (x:Config×Int):Option (List SEntry):=Zg8 x.1 x.2
def ZiM (x0:Config):Option Int :=
 some (Zad .i64 (Zad .i64 (20+Zad .i64 (8*x0.depth))+Zad .i64 (x0.layers*Zad .i64 (20+Zad .i64 (2*x0.spin)))))
def ZiP (x:Config):Option Int:=ZiM x
def Zjk (x0:Config):Option Int := match ZiP x0 with
 | some y1 => some (Zad .i64 (20+Zad .i64 (Zad .i64 (4*y1)*x0.threads)))
 | none=>none
def ZdU (x:Config):Option Int:=Zjk x
def Zqi (x0:Config) (x1:Int) (x2:Int):Option ((Config×Int×Int)⊕((Int))) := bif decide (x2<x0.depth) then some (Sum.inl (x0,Zad .i64 (2*x1),Zad .i64 (x2+1))) else some (Sum.inr x1)
def ZpT (x:Config×Int×Int):Option ((Config×Int×Int)⊕((Int))):=Zqi x.1 x.2.1 x.2.2
def Zqx (x:Config×Int×Int):Option Int:=ZaI ZpT x
def Zsm (x0:Config):Option Int := match Zqx (x0,1,0) with
 | some y1 => some (Zad .i64 (y1-1))
 | none=>none
def Zsv (x:Config):Option Int:=Zsm x
def Zso (x0:Config):Option Int := match Zsv x0 with
 | some y1 => some (Zad .i64 (Zad .i64 (1+y1)+Zad .i64 (x0.layers*x0.width)))
 | none=>none
def ZsG (x:Config):Option Int:=Zso x
def ZeA (x0:Thread):Option Bool :=
 some (x0.phase != 0)
def Zb4 (x:Thread):Option Bool:=ZeA x
def ZhV (x0:Int) (x1:Int):Option Bool := bif decide (0<=x0) then some (decide (x0<x1)) else some (false)
def ZdL (x:Int×Int):Option Bool:=ZhV x.1 x.2
def Zn2 (x0:Int):Option Bool := bif decide (1<=x0) then some (decide (x0<=9)) else some (false)
def ZkQ (x:Int):Option Bool:=Zn2 x
def Zmp (x0:Op) (x1:Bool):Option Bool := bif !x1 then match ZkQ x0.tag with
 | some y1 => bif y1 then some (decide (x0.tag<8)) else some (false)
 | none=>none else bif x0.tag == 9 then some (decide (x0.v>=0)) else some (x0.tag == 8)
def Zj0 (x:Op×Bool):Option Bool:=Zmp x.1 x.2
def Zik (x0:Config) (x1:SEntry):Option Int := bif x1.kind == 1 then bif x1.kind == 1 then match ZdL (x1.t,x0.threads) with
 | some y1 => bif !y1 then some (91) else bif x1.kind == 2 then some (0) else match ZdL (x1.item,x0.items) with
  | some y2 => bif !y2 then some (92) else match Zj0 (x1.op,x0.bounded) with
   | some y3 => bif !y3 then some (93) else some (0)
   | none=>none
  | none=>none
 | none=>none else bif x1.kind == 3 then some (0) else some (90) else bif x1.kind == 2 then match ZdL (x1.t,x0.threads) with
 | some y1 => bif !y1 then some (91) else bif x1.kind == 2 then some (0) else match ZdL (x1.item,x0.items) with
  | some y2 => bif !y2 then some (92) else match Zj0 (x1.op,x0.bounded) with
   | some y3 => bif !y3 then some (93) else some (0)
   | none=>none
  | none=>none
 | none=>none else bif x1.kind == 3 then some (0) else some (90)
def ZiF (x:Config×SEntry):Option Int:=Zik x.1 x.2
def ZiN (x0:List Thread):Option (List Thread) := bif fewB ((0:Nat)+x0.length) then some (x0) else none
def ZiK (x:(List Thread)):Option (List Thread):=ZiN x
def Zju (x0:List Mark):Option (List Mark) := bif fewB ((0:Nat)+x0.length) then some (x0) else none
def ZjD (x:(List Mark)):Option (List Mark):=Zju x
def ZjL (x0:List Event):Option (List Event) := bif fewB ((0:Nat)+x0.length) then some (x0) else none
def Zjp (x:(List Event)):Option (List Event):=ZjL x
def ZeW (x0:Int) (x1:Int):Option Int := bif decide (x0<1) then some (0) else bif decide (Zad .i64 (x0-1)<0) then none else some (Zad .i64 (↑(BitVec.ofInt IntKind.i64.bits (Zad .i64 (1*2 ^ min (Zad .i64 (x0-1)).toNat IntKind.i64.bits)) ||| BitVec.ofInt IntKind.i64.bits (Zad .i64 (↑(BitVec.ofInt IntKind.i64.bits (x1.fdiv (2 ^ min (Int.toNat 1) IntKind.i64.bits)) &&& BitVec.ofInt IntKind.i64.bits (Zad .i64 (Zad .i64 (1*2 ^ min (Zad .i64 (x0-1)).toNat IntKind.i64.bits)-1))).toNat:Int))).toNat:Int))
def Zkg (x:Int×Int):Option Int:=ZeW x.1 x.2
def ZiJ (x0:Config) (x1:Int) (x2:Thread) (x3:Int) (x4:Op) (x5:Int):Option Thread := match Zkg (x0.depth,x1) with
 | some y1 => bif decide (x0.wait>0) then some (Thread.mk 1 x3 x4 (Entry.mk x1 x4::[]) ([]:List Kid) ([]:List Int) 0 y1 0 0 0 x2.width 0 0 0 (Zad .i64 (x5+x0.wait))) else some (Thread.mk 1 x3 x4 (Entry.mk x1 x4::[]) ([]:List Kid) ([]:List Int) 0 y1 0 0 0 x2.width 0 0 0 0)
 | none=>none
def Ziy (x:Config×Int×Thread×Int×Op×Int):Option Thread:=ZiJ x.1 x.2.1 x.2.2.1 x.2.2.2.1 x.2.2.2.2.1 x.2.2.2.2.2
def ZdV (x0:Config):Option Int := bif decide (x0.threads<1) then some (50) else bif decide (x0.threads>16) then some (50) else bif decide (x0.items<1) then some (51) else bif decide (x0.items>4) then some (51) else bif decide (x0.backend<1) then some (52) else bif decide (x0.backend>3) then some (52) else bif decide (x0.depth<0) then some (53) else bif decide (x0.depth>4) then some (53) else bif decide (x0.layers<0) then some (54) else bif decide (x0.layers>3) then some (54) else bif decide (x0.width<1) then some (55) else bif decide (x0.width>8) then some (55) else bif decide (x0.spin<0) then some (56) else bif decide (x0.spin>20) then some (56) else bif decide (x0.wait<0) then some (57) else bif decide (x0.wait>1000) then some (57) else bif x0.bounded then bif decide (x0.lo>x0.init) then some (58) else bif decide (x0.init>x0.hi) then some (58) else some (0) else some (0)
def Zft (x:Config):Option Int:=ZdV x
def Zly (x0:Op) (x1:Bool):Option Bool := bif x1 then bif x0.tag == 8 then some (true) else bif x0.tag == 9 then some (decide (x0.v>=0)) else some (false) else bif decide (x0.tag>=1) then some (decide (x0.tag<=7)) else some (false)
def ZiQ (x:Op×Bool):Option Bool:=Zly x.1 x.2
def ZjE (x0:Config) (x1:SEntry):Option Int := bif decide (x1.kind<1) then some (90) else bif decide (x1.kind>3) then some (90) else bif x1.kind == 3 then some (0) else bif decide (x1.t<0) then some (91) else bif decide (x1.t>=x0.threads) then some (91) else bif x1.kind == 2 then some (0) else bif decide (x1.item<0) then some (92) else bif decide (x1.item>=x0.items) then some (92) else match ZiQ (x1.op,x0.bounded) with
 | some y1 => bif !y1 then some (93) else some (0)
 | none=>none
def Zjq (x:Config×SEntry):Option Int:=ZjE x.1 x.2
def ZfE (x0:List SEntry) (x1:Config) (x2:Int):Option (((List SEntry)×Config×Int)⊕((Unit)⊕(Int×Int))) := bif decide (x2<(↑x0.length:Int)) then bif decide (0<=x2) then bif decide (x2<(↑x0.length:Int)) then match Zjq (x1,x0.getD x2.toNat ZaE) with
 | some y1 => bif y1 != 0 then some (Sum.inr (Sum.inr (x2,y1))) else some (Sum.inl (x0,x1,Zad .i64 (x2+1)))
 | none=>none else none else none else some (Sum.inr (Sum.inl ()))
def Zg6 (x:(List SEntry)×Config×Int):Option (((List SEntry)×Config×Int)⊕((Unit)⊕(Int×Int))):=ZfE x.1 x.2.1 x.2.2
def ZjH (x:(List SEntry)×Config×Int):Option ((Unit)⊕(Int×Int)):=ZaI Zg6 x
def Zlo (x0:Config) (x1:List SEntry):Option (Int×Int) := match Zft x0 with
 | some y1 => bif y1 != 0 then some ((0,y1)) else bif decide ((↑x1.length:Int)>65536) then some ((0,2)) else match ZjH (x1,x0,0) with
  | some (.inl y2) => some ((0,0))
  | some (.inr y3) => some y3
  | none=>none
 | none=>none
def Zlt (x:Config×(List SEntry)):Option (Int×Int):=Zlo x.1 x.2
def Zlr (x0:Config):Option Bool := match Zft x0 with
 | some y1 => some (y1 == 0)
 | none=>none
def ZeN (x:Config):Option Bool:=Zlr x
def ZsH (x0:Config):Option Int :=
 some (Zad .i64 (Zad .i64 (20+Zad .i64 (8*x0.depth))+Zad .i64 (x0.layers*Zad .i64 (20+Zad .i64 (2*x0.spin)))))
def Zm4 (x:Config):Option Int:=ZsH x
def Zra (x0:Config):Option Int := match Zm4 x0 with
 | some y1 => some (Zad .i64 (Zad .i64 (Zad .i64 (4*x0.threads)*y1)+20))
 | none=>none
def ZiC (x:Config):Option Int:=Zra x
def Zrr (x0:List SEntry) (x1:List SEntry) (x2:Int):Option (((List SEntry)×(List SEntry)×Int)⊕((Unit)⊕(Bool))) := bif decide (x2<(↑x0.length:Int)) then bif decide (0<=x2) then bif decide (x2<(↑x0.length:Int)) then bif decide (0<=x2) then bif decide (x2<(↑x1.length:Int)) then bif !((x0.getD x2.toNat ZaE).kind == (x1.getD x2.toNat ZaE).kind && ((x0.getD x2.toNat ZaE).t == (x1.getD x2.toNat ZaE).t && ((x0.getD x2.toNat ZaE).item == (x1.getD x2.toNat ZaE).item && ((x0.getD x2.toNat ZaE).op.tag == (x1.getD x2.toNat ZaE).op.tag && ((x0.getD x2.toNat ZaE).op.v == (x1.getD x2.toNat ZaE).op.v && true) && true)))) then some (Sum.inr (Sum.inr false)) else some (Sum.inl (x0,x1,Zad .i64 (x2+1))) else none else none else none else none else some (Sum.inr (Sum.inl ()))
def Zit (x:(List SEntry)×(List SEntry)×Int):Option (((List SEntry)×(List SEntry)×Int)⊕((Unit)⊕(Bool))):=Zrr x.1 x.2.1 x.2.2
def Zq5 (x:(List SEntry)×(List SEntry)×Int):Option ((Unit)⊕(Bool)):=ZaI Zit x
def ZtH (x0:List SEntry) (x1:List SEntry):Option Bool := bif (↑x0.length:Int) != (↑x1.length:Int) then some (false) else match Zq5 (x0,x1,0) with
 | some (.inl y1) => some (true)
 | some (.inr y2) => some y2
 | none=>none
def ZkL (x:(List SEntry)×(List SEntry)):Option Bool:=ZtH x.1 x.2
def ZfC (x0:List SEntry) (x1:List SEntry) (x2:Int):Option (((List SEntry)×(List SEntry)×Int)⊕(((List SEntry)))) := bif decide (x2<(↑x0.length:Int)) then bif decide (0<=x2) then bif decide (x2<(↑x0.length:Int)) then bif decide (0<=x2) then bif decide (x2<(↑x0.length:Int)) then bif decide (0<=x2) then bif decide (x2<(↑x0.length:Int)) then bif decide (0<=x2) then bif decide (x2<(↑x0.length:Int)) then bif fewB (x1.length+(x0.getD x2.toNat ZaE::[]).length) then some (Sum.inl (x0,x1++x0.getD x2.toNat ZaE::[],Zad .i64 (x2+1))) else none else none else none else none else none else none else none else none else none else some (Sum.inr x1)
def Zg4 (x:(List SEntry)×(List SEntry)×Int):Option (((List SEntry)×(List SEntry)×Int)⊕(((List SEntry)))):=ZfC x.1 x.2.1 x.2.2
def ZmS (x:(List SEntry)×(List SEntry)×Int):Option (((List SEntry))):=ZaI Zg4 x
def Zlw (x0:List SEntry):Option (List SEntry) := match ZmS (x0,([]:List SEntry),0) with
 | some y1 => some y1
 | none=>none
def ZeT (x:(List SEntry)):Option (List SEntry):=Zlw x
def Zo9 (x0:Int) (x1:Config) (x2:List SEntry) (x3:Int) (x4:Int):Option ((Int×Config×(List SEntry)×Int×Int)⊕((Int×Config×(List SEntry)×Int)⊕((List SEntry)))) := bif decide (x4<x1.threads) then bif (↑x2.length:Int) == 65536 then some (Sum.inr (Sum.inr x2)) else bif fewB (x2.length+(SEntry.mk 2 x4 0 (Op.mk 0 0)::[]).length) then some (Sum.inl (x0,x1,x2++SEntry.mk 2 x4 0 (Op.mk 0 0)::[],x3,Zad .i64 (x4+1))) else none else some (Sum.inr (Sum.inl (x0,x1,x2,x3)))
def Zhr (x:Int×Config×(List SEntry)×Int×Int):Option ((Int×Config×(List SEntry)×Int×Int)⊕((Int×Config×(List SEntry)×Int)⊕((List SEntry)))):=Zo9 x.1 x.2.1 x.2.2.1 x.2.2.2.1 x.2.2.2.2
def Zpz (x:Int×Config×(List SEntry)×Int×Int):Option ((Int×Config×(List SEntry)×Int)⊕((List SEntry))):=ZaI Zhr x
def Zpv (x0:Int) (x1:Config) (x2:List SEntry) (x3:Int):Option ((Int×Config×(List SEntry)×Int)⊕(((List SEntry))⊕((List SEntry)))) := bif decide (x3<x0) then match Zpz (x0,x1,x2,x3,0) with
 | some (.inl y1) => some (Sum.inl (y1.fst,y1.snd.fst,y1.snd.snd.fst,Zad .i64 (y1.snd.snd.snd+1)))
 | some (.inr y2) => some (Sum.inr (Sum.inr y2))
 | none=>none else some (Sum.inr (Sum.inl x2))
def Zho (x:Int×Config×(List SEntry)×Int):Option ((Int×Config×(List SEntry)×Int)⊕(((List SEntry))⊕((List SEntry)))):=Zpv x.1 x.2.1 x.2.2.1 x.2.2.2
def Zpf (x:Int×Config×(List SEntry)×Int):Option (((List SEntry))⊕((List SEntry))):=ZaI Zho x
def Zq4 (x0:Config) (x1:Int):Option (List SEntry) := match Zpf (x1,x0,([]:List SEntry),0) with
 | some (.inl y1) => some y1
 | some (.inr y2) => some y2
 | none=>none
def Zix (x:Config×Int):Option (List SEntry):=Zq4 x.1 x.2
def Zss (x0:Config):Option (List SEntry) := match Zix (x0,1) with
 | some y1 => some y1
 | none=>none
def Zm9 (x:Config):Option (List SEntry):=Zss x
def Zqt (x0:List SEntry) (x1:Int) (x2:Int):Option (((List SEntry)×Int×Int)⊕(((List SEntry))⊕((List SEntry)))) := bif decide (x2<x1) then bif decide (0<=Zad .i64 (Zad .i64 ((↑x0.length:Int)-x2)-1)) then bif decide (Zad .i64 (Zad .i64 ((↑x0.length:Int)-x2)-1)<(↑x0.length:Int)) then bif (x0.getD (Zad .i64 (Zad .i64 ((↑x0.length:Int)-x2)-1)).toNat ZaE).kind == 1 then bif decide (0<=Zad .i64 ((↑x0.length:Int)-x2)) then bif decide (Zad .i64 ((↑x0.length:Int)-x2)<=(↑x0.length:Int)) then bif decide ((↑x0.length:Int)<=(↑x0.length:Int)) then some (Sum.inr (Sum.inr (List.drop (Zad .i64 ((↑x0.length:Int)-x2)).toNat (List.take (↑x0.length:Int).toNat x0)))) else none else none else none else some (Sum.inl (x0,x1,Zad .i64 (x2+1))) else none else none else some (Sum.inr (Sum.inl x0))
def ZhJ (x:(List SEntry)×Int×Int):Option (((List SEntry)×Int×Int)⊕(((List SEntry))⊕((List SEntry)))):=Zqt x.1 x.2.1 x.2.2
def ZpG (x:(List SEntry)×Int×Int):Option (((List SEntry))⊕((List SEntry))):=ZaI ZhJ x
def Zsn (x0:List SEntry):Option (List SEntry) := match ZpG (x0,(↑x0.length:Int),0) with
 | some (.inl y1) => some y1
 | some (.inr y2) => some y2
 | none=>none
def Znc (x:(List SEntry)):Option (List SEntry):=Zsn x
def Zro (x0:Config) (x1:Int) (x2:Int) (x3:List SEntry) (x4:Int) (x5:Int):Option ((Config×Int×Int×(List SEntry)×Int×Int)⊕((Int))) := bif decide (x5<x4) then bif decide (0<=x5) then bif decide (x5<(↑x3.length:Int)) then bif (x3.getD x5.toNat ZaE).kind != 2 then some (Sum.inl (x0,x1,x2,x3,x4,Zad .i64 (x5+1))) else bif (x3.getD x5.toNat ZaE).t != x2 then some (Sum.inr x1) else bif Zad .i64 (x2+1) == x0.threads then some (Sum.inl (x0,Zad .i64 (x1+1),0,x3,x4,Zad .i64 (x5+1))) else some (Sum.inl (x0,x1,Zad .i64 (x2+1),x3,x4,Zad .i64 (x5+1))) else none else none else some (Sum.inr x1)
def ZiL (x:Config×Int×Int×(List SEntry)×Int×Int):Option ((Config×Int×Int×(List SEntry)×Int×Int)⊕((Int))):=Zro x.1 x.2.1 x.2.2.1 x.2.2.2.1 x.2.2.2.2.1 x.2.2.2.2.2
def Zrl (x:Config×Int×Int×(List SEntry)×Int×Int):Option Int:=ZaI ZiL x
def ZtJ (x0:Config) (x1:List SEntry):Option Int := match Znc x1 with
 | some y1 => match Zrl (x0,0,0,y1,(↑(List.length y1):Int),0) with
  | some y2 => some y2
  | none=>none
 | none=>none
def Zc7 (x:Config×(List SEntry)):Option Int:=ZtJ x.1 x.2
def Zqn (x0:List SEntry) (x1:Config) (x2:Int) (x3:Int):Option (((List SEntry)×Config×Int×Int)⊕((Config×Int))) := bif decide (x3<(↑x0.length:Int)) then bif decide (0<=x3) then bif decide (x3<(↑x0.length:Int)) then bif (x0.getD x3.toNat ZaE).kind != 2 then some (Sum.inl (x0,x1,x2,Zad .i64 (x3+1))) else bif decide (0<=x3) then bif decide (x3<(↑x0.length:Int)) then bif decide (x1.threads=0) then none else bif (x0.getD x3.toNat ZaE).t != x2.tmod x1.threads then some (Sum.inr (x1,x2)) else some (Sum.inl (x0,x1,Zad .i64 (x2+1),Zad .i64 (x3+1))) else none else none else none else none else some (Sum.inr (x1,x2))
def ZhO (x:(List SEntry)×Config×Int×Int):Option (((List SEntry)×Config×Int×Int)⊕((Config×Int))):=Zqn x.1 x.2.1 x.2.2.1 x.2.2.2
def ZqL (x:(List SEntry)×Config×Int×Int):Option (Config×Int):=ZaI ZhO x
def ZqP (x0:List SEntry) (x1:Config) (x2:Int) (x3:Int):Option (((List SEntry)×Config×Int×Int)⊕(((List SEntry)×Config×Int))) := bif decide (x3<(↑x0.length:Int)) then bif decide (0<=x3) then bif decide (x3<(↑x0.length:Int)) then bif (x0.getD x3.toNat ZaE).kind == 1 then some (Sum.inl (x0,x1,Zad .i64 (x3+1),Zad .i64 (x3+1))) else some (Sum.inl (x0,x1,x2,Zad .i64 (x3+1))) else none else none else some (Sum.inr (x0,x1,x2))
def ZhR (x:(List SEntry)×Config×Int×Int):Option (((List SEntry)×Config×Int×Int)⊕(((List SEntry)×Config×Int))):=ZqP x.1 x.2.1 x.2.2.1 x.2.2.2
def Zqu (x:(List SEntry)×Config×Int×Int):Option (((List SEntry)×Config×Int)):=ZaI ZhR x
def Zst (x0:Config) (x1:List SEntry):Option Int := match Zqu (x1,x0,0,0) with
 | some y1 => match ZqL (y1.fst,y1.snd.fst,0,y1.snd.snd) with
  | some y2 => bif decide (y2.fst.threads=0) then none else some (Zad .i64 (Int.tdiv y2.snd y2.fst.threads))
  | none=>none
 | none=>none
def ZjM (x:Config×(List SEntry)):Option Int:=Zst x.1 x.2
def ZuT (x0:Config) (x1:List SEntry):Option Bool := match ZdU x0 with
 | some y1 => match Zc7 (x0,x1) with
  | some y2 => some (decide (y1<=y2))
  | none=>none
 | none=>none
def ZeP (x:Config×(List SEntry)):Option Bool:=ZuT x.1 x.2
def ZtZ (x0:Config) (x1:List SEntry):Option Bool := match ZjM (x0,x1) with
 | some y1 => match ZiC x0 with
  | some y2 => some (decide (y1>=y2))
  | none=>none
 | none=>none
def ZnX (x:Config×(List SEntry)):Option Bool:=ZtZ x.1 x.2
def Zfd (x0:Int) (x1:List Thread) (x2:Int) (x3:Int):Option ((Int×(List Thread)×Int×Int)⊕((Int))) := bif decide (x3<x2) then bif decide (0<=x3) then bif decide (x3<(↑x1.length:Int)) then match Zb4 (x1.getD x3.toNat Zat) with
 | some y1 => bif y1 then some (Sum.inl (Zad .i64 (x0+1),x1,x2,Zad .i64 (x3+1))) else some (Sum.inl (x0,x1,x2,Zad .i64 (x3+1)))
 | none=>none else none else none else some (Sum.inr x0)
def Zgm (x:Int×(List Thread)×Int×Int):Option ((Int×(List Thread)×Int×Int)⊕((Int))):=Zfd x.1 x.2.1 x.2.2.1 x.2.2.2
def Ziu (x:Int×(List Thread)×Int×Int):Option Int:=ZaI Zgm x
def ZkB (x0:Wld):Option Int := match Ziu (0,x0.t,(↑x0.t.length:Int),0) with
 | some y1 => some y1
 | none=>none
def ZeV (x:Wld):Option Int:=ZkB x
def Zty (x0:Config) (x1:Int):Option Int := bif decide (x1<0) then some ((-1:Int)) else bif decide (x1>=x0.items) then some ((-1:Int)) else match ZsG x0 with
 | some y1 => some (Zad .i64 (x1*y1))
 | none=>none
def Ztd (x:Config×Int):Option Int:=Zty x.1 x.2
def ZgL (x0:Int) (x1:Int):Option (Int×Bool) :=
 some ((Zad .i64 (x0+x1),decide (x1>=0) == decide (Zad .i64 (x0+x1)>=x0)))
def ZgO (x:Int×Int):Option (Int×Bool):=ZgL x.1 x.2
def ZcO (x0:Op) (x1:Int) (x2:Int) (x3:Int):Option (Int×Bool) := bif x0.tag == 1 then some ((Zad .i64 (x1+x0.v),true)) else bif x0.tag == 2 then some ((Zad .i64 (x1-x0.v),true)) else bif x0.tag == 3 then some ((Zad .i64 (↑(BitVec.ofInt IntKind.i64.bits x1 ||| BitVec.ofInt IntKind.i64.bits x0.v).toNat:Int),true)) else bif x0.tag == 4 then some ((Zad .i64 (↑(BitVec.ofInt IntKind.i64.bits x1 &&& BitVec.ofInt IntKind.i64.bits x0.v).toNat:Int),true)) else bif x0.tag == 5 then some ((if x0.v>x1 then x0.v else x1,true)) else bif x0.tag == 6 then some ((if x0.v<x1 then x0.v else x1,true)) else bif x0.tag == 7 then some ((x0.v,true)) else bif x0.tag == 8 then match ZgO (x1,x0.v) with
 | some y1 => bif !y1.snd then some ((x1,false)) else bif decide (y1.fst<x2) then some ((x1,false)) else bif decide (y1.fst>x3) then some ((x1,false)) else some ((y1.fst,true))
 | none=>none else bif x0.tag == 9 then bif decide (x0.v<0) then some ((x1,false)) else bif decide (x1<x2) then some ((x1,false)) else bif decide (IntKind.u64.wrap x0.v>=Zad IntKind.u64 (IntKind.u64.wrap x1-IntKind.u64.wrap x2)) then some ((x2,true)) else some ((Zad .i64 (x1-x0.v),true)) else some ((x1,false))
def Zsq (x:Op×Int×Int×Int):Option (Int×Bool):=ZcO x.1 x.2.1 x.2.2.1 x.2.2.2
def Zpp (x0:Config) (x1:Int×Int×Int×Int×Int×Int×Int×Int×Int×Int×Int×Int×Int×Int×Int×Int×Int×Int×Int×Int×Int×Int×Int×Int) (x2:Int):Option ((Config×(Int×Int×Int×Int×Int×Int×Int×Int×Int×Int×Int×Int×Int×Int×Int×Int×Int×Int×Int×Int×Int×Int×Int×Int)×Int)⊕((Config)⊕(Int))) := bif decide (x2<8) then bif decide (0<=x2) then bif decide (x2<(↑(8:Nat):Int)) then bif decide (x2=(↑(0:Nat):Int)) then bif decide (x1.fst<x1.snd.fst) then some (Sum.inr (Sum.inr (Zad .i64 (50+x2)))) else bif decide (x1.fst>x1.snd.snd.fst) then some (Sum.inr (Sum.inr (Zad .i64 (50+x2)))) else some (Sum.inl (x0,x1,Zad .i64 (x2+1))) else bif decide (x2=(↑((0:Nat)+(1:Nat)):Int)) then bif decide (x1.snd.snd.snd.fst<x1.snd.snd.snd.snd.fst) then some (Sum.inr (Sum.inr (Zad .i64 (50+x2)))) else bif decide (x1.snd.snd.snd.fst>x1.snd.snd.snd.snd.snd.fst) then some (Sum.inr (Sum.inr (Zad .i64 (50+x2)))) else some (Sum.inl (x0,x1,Zad .i64 (x2+1))) else bif decide (x2=(↑((0:Nat)+(1:Nat)+(1:Nat)):Int)) then bif decide (x1.snd.snd.snd.snd.snd.snd.fst<x1.snd.snd.snd.snd.snd.snd.snd.fst) then some (Sum.inr (Sum.inr (Zad .i64 (50+x2)))) else bif decide (x1.snd.snd.snd.snd.snd.snd.fst>x1.snd.snd.snd.snd.snd.snd.snd.snd.fst) then some (Sum.inr (Sum.inr (Zad .i64 (50+x2)))) else some (Sum.inl (x0,x1,Zad .i64 (x2+1))) else bif decide (x2=(↑((0:Nat)+(1:Nat)+(1:Nat)+(1:Nat)):Int)) then bif decide (x1.snd.snd.snd.snd.snd.snd.snd.snd.snd.fst<x1.snd.snd.snd.snd.snd.snd.snd.snd.snd.snd.fst) then some (Sum.inr (Sum.inr (Zad .i64 (50+x2)))) else bif decide (x1.snd.snd.snd.snd.snd.snd.snd.snd.snd.fst>x1.snd.snd.snd.snd.snd.snd.snd.snd.snd.snd.snd.fst) then some (Sum.inr (Sum.inr (Zad .i64 (50+x2)))) else some (Sum.inl (x0,x1,Zad .i64 (x2+1))) else bif decide (x2=(↑((0:Nat)+(1:Nat)+(1:Nat)+(1:Nat)+(1:Nat)):Int)) then bif decide (x1.snd.snd.snd.snd.snd.snd.snd.snd.snd.snd.snd.snd.fst<x1.snd.snd.snd.snd.snd.snd.snd.snd.snd.snd.snd.snd.snd.fst) then some (Sum.inr (Sum.inr (Zad .i64 (50+x2)))) else bif decide (x1.snd.snd.snd.snd.snd.snd.snd.snd.snd.snd.snd.snd.fst>x1.snd.snd.snd.snd.snd.snd.snd.snd.snd.snd.snd.snd.snd.snd.fst) then some (Sum.inr (Sum.inr (Zad .i64 (50+x2)))) else some (Sum.inl (x0,x1,Zad .i64 (x2+1))) else bif decide (x2=(↑((0:Nat)+(1:Nat)+(1:Nat)+(1:Nat)+(1:Nat)+(1:Nat)):Int)) then bif decide (x1.snd.snd.snd.snd.snd.snd.snd.snd.snd.snd.snd.snd.snd.snd.snd.fst<x1.snd.snd.snd.snd.snd.snd.snd.snd.snd.snd.snd.snd.snd.snd.snd.snd.fst) then some (Sum.inr (Sum.inr (Zad .i64 (50+x2)))) else bif decide (x1.snd.snd.snd.snd.snd.snd.snd.snd.snd.snd.snd.snd.snd.snd.snd.fst>x1.snd.snd.snd.snd.snd.snd.snd.snd.snd.snd.snd.snd.snd.snd.snd.snd.snd.fst) then some (Sum.inr (Sum.inr (Zad .i64 (50+x2)))) else some (Sum.inl (x0,x1,Zad .i64 (x2+1))) else bif decide (x2=(↑((0:Nat)+(1:Nat)+(1:Nat)+(1:Nat)+(1:Nat)+(1:Nat)+(1:Nat)):Int)) then bif decide (x1.snd.snd.snd.snd.snd.snd.snd.snd.snd.snd.snd.snd.snd.snd.snd.snd.snd.snd.fst<x1.snd.snd.snd.snd.snd.snd.snd.snd.snd.snd.snd.snd.snd.snd.snd.snd.snd.snd.snd.fst) then some (Sum.inr (Sum.inr (Zad .i64 (50+x2)))) else bif decide (x1.snd.snd.snd.snd.snd.snd.snd.snd.snd.snd.snd.snd.snd.snd.snd.snd.snd.snd.fst>x1.snd.snd.snd.snd.snd.snd.snd.snd.snd.snd.snd.snd.snd.snd.snd.snd.snd.snd.snd.snd.fst) then some (Sum.inr (Sum.inr (Zad .i64 (50+x2)))) else some (Sum.inl (x0,x1,Zad .i64 (x2+1))) else bif decide (x2=(↑((0:Nat)+(1:Nat)+(1:Nat)+(1:Nat)+(1:Nat)+(1:Nat)+(1:Nat)+(1:Nat)):Int)) then bif decide (x1.snd.snd.snd.snd.snd.snd.snd.snd.snd.snd.snd.snd.snd.snd.snd.snd.snd.snd.snd.snd.snd.fst<x1.snd.snd.snd.snd.snd.snd.snd.snd.snd.snd.snd.snd.snd.snd.snd.snd.snd.snd.snd.snd.snd.snd.fst) then some (Sum.inr (Sum.inr (Zad .i64 (50+x2)))) else bif decide (x1.snd.snd.snd.snd.snd.snd.snd.snd.snd.snd.snd.snd.snd.snd.snd.snd.snd.snd.snd.snd.snd.fst>x1.snd.snd.snd.snd.snd.snd.snd.snd.snd.snd.snd.snd.snd.snd.snd.snd.snd.snd.snd.snd.snd.snd.snd) then some (Sum.inr (Sum.inr (Zad .i64 (50+x2)))) else some (Sum.inl (x0,x1,Zad .i64 (x2+1))) else none else none else none else some (Sum.inr (Sum.inl x0))
def Zet (x:Config×(Int×Int×Int×Int×Int×Int×Int×Int×Int×Int×Int×Int×Int×Int×Int×Int×Int×Int×Int×Int×Int×Int×Int×Int)×Int):Option ((Config×(Int×Int×Int×Int×Int×Int×Int×Int×Int×Int×Int×Int×Int×Int×Int×Int×Int×Int×Int×Int×Int×Int×Int×Int)×Int)⊕((Config)⊕(Int))):=Zpp x.1 x.2.1 x.2.2
def ZcS (x:Config×(Int×Int×Int×Int×Int×Int×Int×Int×Int×Int×Int×Int×Int×Int×Int×Int×Int×Int×Int×Int×Int×Int×Int×Int)×Int):Option ((Config)⊕(Int)):=ZaI Zet x
def Zio (x0:Config):Option Int := match ZcS (x0,(x0.threads,1,16,x0.items,1,4,x0.backend,1,3,x0.depth,0,4,x0.layers,0,3,x0.width,1,8,x0.spin,0,20,x0.wait,0,1000),0) with
 | some (.inl y1) => bif y1.bounded then bif decide (y1.init<y1.lo) then some (58) else bif decide (y1.hi<y1.init) then some (58) else some (0) else some (0)
 | some (.inr y2) => some y2
 | none=>none
def Zdi (x:Config):Option Int:=Zio x
def ZeZ (x0:Config) (x1:List SEntry) (x2:Int) (x3:Int):Option ((Config×(List SEntry)×Int×Int)⊕((Unit)⊕(Int×Int))) := bif decide (x3<x2) then bif decide (0<=x3) then bif decide (x3<(↑x1.length:Int)) then match ZiF (x0,x1.getD x3.toNat ZaE) with
 | some y1 => bif y1 != 0 then some (Sum.inr (Sum.inr (x3,y1))) else some (Sum.inl (x0,x1,x2,Zad .i64 (x3+1)))
 | none=>none else none else none else some (Sum.inr (Sum.inl ()))
def ZgB (x:Config×(List SEntry)×Int×Int):Option ((Config×(List SEntry)×Int×Int)⊕((Unit)⊕(Int×Int))):=ZeZ x.1 x.2.1 x.2.2.1 x.2.2.2
def Ziw (x:Config×(List SEntry)×Int×Int):Option ((Unit)⊕(Int×Int)):=ZaI ZgB x
def ZkE (x0:Config) (x1:List SEntry):Option (Int×Int) := match Zdi x0 with
 | some y1 => bif y1 != 0 then some ((0,y1)) else bif decide ((↑x1.length:Int)>65536) then some ((0,2)) else match Ziw (x0,x1,(↑x1.length:Int),0) with
  | some (.inl y2) => some ((0,0))
  | some (.inr y3) => some y3
  | none=>none
 | none=>none
def ZhH (x:Config×(List SEntry)):Option (Int×Int):=ZkE x.1 x.2
def ZjN (x0:Config):Option Int := bif decide (x0.depth<0) then none else some (Zad .i64 (Zad .i64 (1*2 ^ min x0.depth.toNat IntKind.i64.bits)-1))
def ZfD (x:Config):Option Int:=ZjN x
def ZmA (x0:Config):Option Plan := match ZfD x0 with
 | some y1 => some (Plan.mk 1 (Zad .i64 (1+y1)) (Zad .i64 (Zad .i64 (1+y1)+Zad .i64 (x0.layers*x0.width))) (Zad .i64 (x0.items*Zad .i64 (Zad .i64 (1+y1)+Zad .i64 (x0.layers*x0.width)))))
 | none=>none
def Zco (x:Config):Option Plan:=ZmA x
def Zge (x0:Config) (x1:Int):Option Int := bif decide (x1<0) then some ((-1:Int)) else bif decide (x1>=x0.items) then some ((-1:Int)) else match Zco x0 with
 | some y1 => some (Zad .i64 (x1*y1.block))
 | none=>none
def ZcL (x:Config×Int):Option Int:=Zge x.1 x.2
def ZkT (x0:Int):Option (List Int) := bif decide (x0<1) then some (([]:List Int)) else bif decide (x0>10000) then some (([]:List Int)) else bif x0 == x0 then bif decide (0<=x0) then bif decide (x0<=Zbw) then some (List.replicate x0.toNat 0) else none else none else none
def ZhE (x:Int):Option (List Int):=ZkT x
def Zf9 (x0:Int):Option ((List (List Entry))) := bif decide (x0<1) then some (([]:List (List Entry))) else bif decide (x0>10000) then some (([]:List (List Entry))) else bif x0 == x0 then bif decide (0<=x0) then bif decide (x0<=Zbw) then some (List.replicate x0.toNat ([]:List Entry)) else none else none else none
def Zeu (x:Int):Option ((List (List Entry))):=Zf9 x
def ZmN (x0:Int) (x1:Int):Option Memo := match ZhE x0 with
 | some y1 => match Zeu x1 with
  | some y2 => some (Memo.mk y1 y2)
  | none=>none
 | none=>none
def ZmG (x:Int×Int):Option Memo:=ZmN x.1 x.2
def ZkH (x0:Config):Option Int := match Zco x0 with
 | some y1 => some (Zad .i64 (y1.lines+Zad .i64 (2*x0.threads)))
 | none=>none
def ZkM (x:Config):Option Int:=ZkH x
def ZeC (x0:Config) (x1:Memo) (x2:Memo) (x3:Int) (x4:Int):Option ((Config×Memo×Memo×Int×Int)⊕((Memo×Memo))) := bif decide (x4<x3) then match ZcL (x0,x4) with
 | some y1 => bif decide (0<=y1) then bif decide (y1<(↑x2.words.length:Int)) then some (Sum.inl (x0,x1,{ x2 with words:=x2.words.set (Int.toNat y1) x0.init },x3,Zad .i64 (x4+1))) else none else none
 | none=>none else some (Sum.inr (x1,x2))
def ZfX (x:Config×Memo×Memo×Int×Int):Option ((Config×Memo×Memo×Int×Int)⊕((Memo×Memo))):=ZeC x.1 x.2.1 x.2.2.1 x.2.2.2.1 x.2.2.2.2
def ZkY (x:Config×Memo×Memo×Int×Int):Option (Memo×Memo):=ZaI ZfX x
def Zjl (x0:Config):Option Memo := match ZkM x0 with
 | some y1 => match ZmG (y1,x0.threads) with
  | some y2 => match ZkY (x0,Memo.mk ([]:List Int) ([]:List (List Entry)),y2,x0.items,0) with
   | some y3 => some (y3.snd)
   | none=>none
  | none=>none
 | none=>none
def ZjJ (x:Config):Option Memo:=Zjl x
def Zt0:Option Thread :=
 some (Thread.mk 0 0 (Op.mk 0 0) ([]:List Entry) ([]:List Kid) ([]:List Int) 0 0 0 0 0 1 0 0 0 0)
def Zky (x:Unit):Option Thread:=Zt0
def ZdE (x0:List Int):Option (List Int) := bif fewB ((0:Nat)+x0.length) then some (x0) else none
def Zbx (x:(List Int)):Option (List Int):=ZdE x
def Zfw (x0:List Int) (x1:Int):Option (Int×Int) := bif decide (x1<0) then some ((0,30)) else bif decide (x1>=(↑x0.length:Int)) then some ((0,30)) else bif decide (0<=x1) then bif decide (x1<(↑x0.length:Int)) then some ((x0.getD x1.toNat 0,0)) else none else none
def ZbC (x:(List Int)×Int):Option (Int×Int):=Zfw x.1 x.2
def ZfL (x0:Memo) (x1:Int):Option (Int×Int) := match ZbC (x0.words,x1) with
 | some y1 => some y1
 | none=>none
def ZbU (x:Memo×Int):Option (Int×Int):=ZfL x.1 x.2
def ZoH (x0:Int) (x1:Int):Option (Int×Int) :=
 some ((Zad IntKind.u64 (Zad IntKind.u64 (Zad IntKind.u64 (x0.fdiv (2 ^ min (Int.toNat 32) IntKind.u64.bits)*x1.fdiv (2 ^ min (Int.toNat 32) IntKind.u64.bits))+(Zad IntKind.u64 (Zad IntKind.u64 (x0.fdiv (2 ^ min (Int.toNat 32) IntKind.u64.bits)*Zad IntKind.u64 (↑(BitVec.ofInt IntKind.u64.bits x1 &&& BitVec.ofInt IntKind.u64.bits 4294967295).toNat:Int))+(Zad IntKind.u64 (Zad IntKind.u64 (↑(BitVec.ofInt IntKind.u64.bits x0 &&& BitVec.ofInt IntKind.u64.bits 4294967295).toNat:Int)*Zad IntKind.u64 (↑(BitVec.ofInt IntKind.u64.bits x1 &&& BitVec.ofInt IntKind.u64.bits 4294967295).toNat:Int))).fdiv (2 ^ min (Int.toNat 32) IntKind.u64.bits))).fdiv (2 ^ min (Int.toNat 32) IntKind.u64.bits))+(Zad IntKind.u64 (Zad IntKind.u64 (↑(BitVec.ofInt IntKind.u64.bits (Zad IntKind.u64 (Zad IntKind.u64 (x0.fdiv (2 ^ min (Int.toNat 32) IntKind.u64.bits)*Zad IntKind.u64 (↑(BitVec.ofInt IntKind.u64.bits x1 &&& BitVec.ofInt IntKind.u64.bits 4294967295).toNat:Int))+(Zad IntKind.u64 (Zad IntKind.u64 (↑(BitVec.ofInt IntKind.u64.bits x0 &&& BitVec.ofInt IntKind.u64.bits 4294967295).toNat:Int)*Zad IntKind.u64 (↑(BitVec.ofInt IntKind.u64.bits x1 &&& BitVec.ofInt IntKind.u64.bits 4294967295).toNat:Int))).fdiv (2 ^ min (Int.toNat 32) IntKind.u64.bits))) &&& BitVec.ofInt IntKind.u64.bits 4294967295).toNat:Int)+Zad IntKind.u64 (Zad IntKind.u64 (↑(BitVec.ofInt IntKind.u64.bits x0 &&& BitVec.ofInt IntKind.u64.bits 4294967295).toNat:Int)*x1.fdiv (2 ^ min (Int.toNat 32) IntKind.u64.bits)))).fdiv (2 ^ min (Int.toNat 32) IntKind.u64.bits)),Zad IntKind.u64 (x0*x1)))
def ZjR (x:Int×Int):Option (Int×Int):=ZoH x.1 x.2
def ZqB (x0:Int) (x1:Int):Option (Int×Int) := match ZjR (x0,x1) with
 | some y1 => some y1
 | none=>none
def ZdH (x:Int×Int):Option (Int×Int):=ZqB x.1 x.2
def Zm5 (x0:Int) (x1:Int) (x2:Int) (x3:Int):Option Bool := bif decide (x1>=0) then bif decide (Zad .i64 (x0+x1)>=x0) then bif decide (Zad .i64 (x0+x1)<x2) then some (true) else some (decide (Zad .i64 (x0+x1)>x3)) else bif decide (x1<0) then bif decide (Zad .i64 (x0+x1)<x0) then bif decide (Zad .i64 (x0+x1)<x2) then some (true) else some (decide (Zad .i64 (x0+x1)>x3)) else some (true) else some (true) else bif decide (x1<0) then bif decide (Zad .i64 (x0+x1)<x0) then bif decide (Zad .i64 (x0+x1)<x2) then some (true) else some (decide (Zad .i64 (x0+x1)>x3)) else some (true) else some (true)
def Zjv (x:Int×Int×Int×Int):Option Bool:=Zm5 x.1 x.2.1 x.2.2.1 x.2.2.2
def ZhY (x0:Op) (x1:Int) (x2:Int) (x3:Int):Option (Int×Bool) := bif x0.tag == 2 then some ((Zad .i64 (x1+Zad .i64 (0-x0.v)),true)) else bif x0.tag == 1 then some ((Zad .i64 (x1+x0.v),true)) else bif x0.tag == 3 then some ((Zad .i64 (↑(BitVec.ofInt IntKind.i64.bits x1 ||| BitVec.ofInt IntKind.i64.bits x0.v).toNat:Int),true)) else bif x0.tag == 4 then some ((Zad .i64 (↑(BitVec.ofInt IntKind.i64.bits x1 &&& BitVec.ofInt IntKind.i64.bits x0.v).toNat:Int),true)) else bif x0.tag == 5 then some ((if x1>x0.v then x1 else x0.v,true)) else bif x0.tag == 6 then some ((if x1<x0.v then x1 else x0.v,true)) else bif x0.tag == 7 then some ((x0.v,true)) else bif x0.tag == 9 then bif decide (x0.v<0) then some ((x1,false)) else bif decide (x1<x2) then some ((x1,false)) else bif decide (Zad .i64 (x1-x0.v)<=x1) then bif decide (Zad .i64 (x1-x0.v)>=x2) then some ((Zad .i64 (x1-x0.v),true)) else some ((x2,true)) else some ((x2,true)) else bif x0.tag == 8 then match Zjv (x1,x0.v,x2,x3) with
 | some y1 => bif !y1 then some ((Zad .i64 (x1+x0.v),true)) else some ((x1,false))
 | none=>none else some ((x1,false))
def Zcg (x:Op×Int×Int×Int):Option (Int×Bool):=ZhY x.1 x.2.1 x.2.2.1 x.2.2.2
def Zf3 (x0:Memo) (x1:Int) (x2:Int):Option (Memo×Int) := match ZbC (x0.words,x1) with
 | some y1 => bif y1.snd != 0 then some ((x0,y1.snd)) else match Zbx x0.words with
  | some y2 => bif decide (0<=x1) then bif decide (x1<(↑(List.length y2):Int)) then some (({ x0 with words:=List.set y2 x1.toNat x2 },y1.snd)) else none else none
  | none=>none
 | none=>none
def Zca (x:Memo×Int×Int):Option (Memo×Int):=Zf3 x.1 x.2.1 x.2.2
def Zj9 (x0:Config) (x1:Int):Option Int := bif decide (x1<0) then some ((-1:Int)) else bif decide (x1>=x0.threads) then some ((-1:Int)) else match Zco x0 with
 | some y1 => some (Zad .i64 (y1.lines+Zad .i64 (2*x1)))
 | none=>none
def Zc2 (x:Config×Int):Option Int:=Zj9 x.1 x.2
def ZhM (x0:Turn):Option Turn := bif x0.c.backend == 2 then bif decide (x0.c.depth>0) then some ({ x0 with th:={ x0.th with phase:=4 } }) else bif x0.c.backend == 3 then bif decide (x0.c.layers>0) then some ({ x0 with th:={ x0.th with phase:=17,layer:=1 } }) else some ({ x0 with th:={ x0.th with phase:=2 } }) else some ({ x0 with th:={ x0.th with phase:=2 } }) else bif x0.c.backend == 3 then bif decide (x0.c.layers>0) then some ({ x0 with th:={ x0.th with phase:=17,layer:=1 } }) else some ({ x0 with th:={ x0.th with phase:=2 } }) else some ({ x0 with th:={ x0.th with phase:=2 } })
def ZhI (x:Turn):Option Turn:=ZhM x
def Zig (x0:Turn):Option (Turn×Bool) := bif x0.th.phase != 1 then some ((x0,false)) else match Zc2 (x0.c,x0.t) with
 | some y1 => match Zca (x0.m,y1,0) with
  | some y2 => bif y2.snd != 0 then some ((x0,true)) else match ZhI { x0 with m:=y2.fst } with
   | some y3 => some ((y3,true))
   | none=>none
  | none=>none
 | none=>none
def ZhU (x:Turn):Option (Turn×Bool):=Zig x
def Zkk (x0:Config) (x1:Int) (x2:Int):Option Int := bif decide (x1<0) then some ((-1:Int)) else bif decide (x1>=x0.items) then some ((-1:Int)) else match ZfD x0 with
 | some y1 => bif decide (x2<1) then some ((-1:Int)) else bif decide (x2>=Zad .i64 (1+y1)) then some ((-1:Int)) else match Zco x0 with
  | some y2 => some (Zad .i64 (Zad .i64 (x1*y2.block)+x2))
  | none=>none
 | none=>none
def Zep (x:Config×Int×Int):Option Int:=Zkk x.1 x.2.1 x.2.2
def Zdk (x0:Said):Option Int :=
 some (Zad .i64 (Zad .i64 (8*Zad .i64 (x0.n+1))+x0.kind))
def ZbP (x:Said):Option Int:=Zdk x
def Zkz (x0:Int):Option Int := match ZbP (Said.mk 1 x0) with
 | some y1 => some y1
 | none=>none
def Zfc (x:Int):Option Int:=Zkz x
def ZlL (x0:Int):Option Int :=
 some ((if 0>x0 then 0 else x0).fdiv (2 ^ min (Int.toNat 1) IntKind.i64.bits))
def Zis (x:Int):Option Int:=ZlL x
def Zki (x0:Turn):Option Turn := bif decide (x0.th.stop>0) then bif decide (x0.th.at_>=0) then bif decide (x0.th.at_<(↑x0.th.held.length:Int)) then some ({ x0 with th:={ x0.th with phase:=7 } }) else some ({ x0 with th:={ x0.th with phase:=11 } }) else some ({ x0 with th:={ x0.th with phase:=11 } }) else bif decide (x0.th.at_>=0) then bif decide (x0.th.at_<(↑x0.th.held.length:Int)) then some ({ x0 with th:={ x0.th with phase:=7 } }) else some ({ x0 with th:={ x0.th with phase:=2 } }) else some ({ x0 with th:={ x0.th with phase:=2 } })
def Zf1 (x:Turn):Option Turn:=Zki x
def Zkh (x0:Turn):Option Turn := match Zf1 { x0 with th:={ x0.th with at_:=0 } } with
 | some y1 => some y1
 | none=>none
def Zek (x:Turn):Option Turn:=Zkh x
def ZjB (x0:Turn):Option Turn := match Zbx x0.th.held with
 | some y1 => bif fewB (List.length y1+(x0.th.node::[]).length) then match Zis x0.th.node with
  | some y2 => bif decide (y2>0) then some ({ x0 with th:={ x0.th with held:=y1++x0.th.node::[],node:=y2 } }) else match Zek { x0 with th:={ x0.th with held:=y1++x0.th.node::[],node:=y2 } } with
   | some y3 => some y3
   | none=>none
  | none=>none else none
 | none=>none
def ZjG (x:Turn):Option Turn:=ZjB x
def ZhX (x0:Memo) (x1:Int) (x2:Int) (x3:Int):Option (Memo×Bool×Int) := match ZbC (x0.words,x1) with
 | some y1 => bif y1.snd != 0 then some ((x0,false,y1.snd)) else bif y1.fst == x2 then match Zbx x0.words with
  | some y2 => bif decide (0<=x1) then bif decide (x1<(↑(List.length y2):Int)) then some (({ x0 with words:=List.set y2 x1.toNat x3 },y1.fst == x2,y1.snd)) else none else none
  | none=>none else some ((x0,y1.fst == x2,y1.snd))
 | none=>none
def ZcP (x:Memo×Int×Int×Int):Option (Memo×Bool×Int):=ZhX x.1 x.2.1 x.2.2.1 x.2.2.2
def Zjj (x0:Turn):Option Bool := bif decide (0<x0.th.until_) then some (decide (x0.th.until_<=x0.now)) else some (false)
def Zd1 (x:Turn):Option Bool:=Zjj x
def ZnH (x0:Int):Option Said := bif Zad .i64 (↑(BitVec.ofInt IntKind.i64.bits x0 &&& BitVec.ofInt IntKind.i64.bits 7).toNat:Int) == 5 && (Zad .i64 (x0.fdiv (2 ^ min (Int.toNat 3) IntKind.i64.bits)-1) == (-1:Int) && true) then some (Said.mk (Zad .i64 (↑(BitVec.ofInt IntKind.i64.bits x0 &&& BitVec.ofInt IntKind.i64.bits 7).toNat:Int)) (Zad .i64 (x0.fdiv (2 ^ min (Int.toNat 3) IntKind.i64.bits)-1))) else bif decide (Zad .i64 (↑(BitVec.ofInt IntKind.i64.bits x0 &&& BitVec.ofInt IntKind.i64.bits 7).toNat:Int)>=1) then bif decide (Zad .i64 (↑(BitVec.ofInt IntKind.i64.bits x0 &&& BitVec.ofInt IntKind.i64.bits 7).toNat:Int)<=3) then bif decide (Zad .i64 (x0.fdiv (2 ^ min (Int.toNat 3) IntKind.i64.bits)-1)>=0) then bif decide (Zad .i64 (x0.fdiv (2 ^ min (Int.toNat 3) IntKind.i64.bits)-1)<16) then some (Said.mk (Zad .i64 (↑(BitVec.ofInt IntKind.i64.bits x0 &&& BitVec.ofInt IntKind.i64.bits 7).toNat:Int)) (Zad .i64 (x0.fdiv (2 ^ min (Int.toNat 3) IntKind.i64.bits)-1))) else bif Zad .i64 (↑(BitVec.ofInt IntKind.i64.bits x0 &&& BitVec.ofInt IntKind.i64.bits 7).toNat:Int) == 4 then bif decide ((Zad .i64 (x0.fdiv (2 ^ min (Int.toNat 3) IntKind.i64.bits)-1)).fdiv (2 ^ min (Int.toNat 4) IntKind.i64.bits)>=0) then bif decide ((Zad .i64 (x0.fdiv (2 ^ min (Int.toNat 3) IntKind.i64.bits)-1)).fdiv (2 ^ min (Int.toNat 4) IntKind.i64.bits)<4) then bif decide (Zad .i64 (↑(BitVec.ofInt IntKind.i64.bits (Zad .i64 (x0.fdiv (2 ^ min (Int.toNat 3) IntKind.i64.bits)-1)) &&& BitVec.ofInt IntKind.i64.bits 15).toNat:Int)>=1) then bif decide (Zad .i64 (↑(BitVec.ofInt IntKind.i64.bits (Zad .i64 (x0.fdiv (2 ^ min (Int.toNat 3) IntKind.i64.bits)-1)) &&& BitVec.ofInt IntKind.i64.bits 15).toNat:Int)<=3) then some (Said.mk (Zad .i64 (↑(BitVec.ofInt IntKind.i64.bits x0 &&& BitVec.ofInt IntKind.i64.bits 7).toNat:Int)) (Zad .i64 (x0.fdiv (2 ^ min (Int.toNat 3) IntKind.i64.bits)-1))) else some (Said.mk 0 0) else some (Said.mk 0 0) else some (Said.mk 0 0) else some (Said.mk 0 0) else some (Said.mk 0 0) else bif Zad .i64 (↑(BitVec.ofInt IntKind.i64.bits x0 &&& BitVec.ofInt IntKind.i64.bits 7).toNat:Int) == 4 then bif decide ((Zad .i64 (x0.fdiv (2 ^ min (Int.toNat 3) IntKind.i64.bits)-1)).fdiv (2 ^ min (Int.toNat 4) IntKind.i64.bits)>=0) then bif decide ((Zad .i64 (x0.fdiv (2 ^ min (Int.toNat 3) IntKind.i64.bits)-1)).fdiv (2 ^ min (Int.toNat 4) IntKind.i64.bits)<4) then bif decide (Zad .i64 (↑(BitVec.ofInt IntKind.i64.bits (Zad .i64 (x0.fdiv (2 ^ min (Int.toNat 3) IntKind.i64.bits)-1)) &&& BitVec.ofInt IntKind.i64.bits 15).toNat:Int)>=1) then bif decide (Zad .i64 (↑(BitVec.ofInt IntKind.i64.bits (Zad .i64 (x0.fdiv (2 ^ min (Int.toNat 3) IntKind.i64.bits)-1)) &&& BitVec.ofInt IntKind.i64.bits 15).toNat:Int)<=3) then some (Said.mk (Zad .i64 (↑(BitVec.ofInt IntKind.i64.bits x0 &&& BitVec.ofInt IntKind.i64.bits 7).toNat:Int)) (Zad .i64 (x0.fdiv (2 ^ min (Int.toNat 3) IntKind.i64.bits)-1))) else some (Said.mk 0 0) else some (Said.mk 0 0) else some (Said.mk 0 0) else some (Said.mk 0 0) else some (Said.mk 0 0) else bif Zad .i64 (↑(BitVec.ofInt IntKind.i64.bits x0 &&& BitVec.ofInt IntKind.i64.bits 7).toNat:Int) == 4 then bif decide ((Zad .i64 (x0.fdiv (2 ^ min (Int.toNat 3) IntKind.i64.bits)-1)).fdiv (2 ^ min (Int.toNat 4) IntKind.i64.bits)>=0) then bif decide ((Zad .i64 (x0.fdiv (2 ^ min (Int.toNat 3) IntKind.i64.bits)-1)).fdiv (2 ^ min (Int.toNat 4) IntKind.i64.bits)<4) then bif decide (Zad .i64 (↑(BitVec.ofInt IntKind.i64.bits (Zad .i64 (x0.fdiv (2 ^ min (Int.toNat 3) IntKind.i64.bits)-1)) &&& BitVec.ofInt IntKind.i64.bits 15).toNat:Int)>=1) then bif decide (Zad .i64 (↑(BitVec.ofInt IntKind.i64.bits (Zad .i64 (x0.fdiv (2 ^ min (Int.toNat 3) IntKind.i64.bits)-1)) &&& BitVec.ofInt IntKind.i64.bits 15).toNat:Int)<=3) then some (Said.mk (Zad .i64 (↑(BitVec.ofInt IntKind.i64.bits x0 &&& BitVec.ofInt IntKind.i64.bits 7).toNat:Int)) (Zad .i64 (x0.fdiv (2 ^ min (Int.toNat 3) IntKind.i64.bits)-1))) else some (Said.mk 0 0) else some (Said.mk 0 0) else some (Said.mk 0 0) else some (Said.mk 0 0) else some (Said.mk 0 0) else bif Zad .i64 (↑(BitVec.ofInt IntKind.i64.bits x0 &&& BitVec.ofInt IntKind.i64.bits 7).toNat:Int) == 4 then bif decide ((Zad .i64 (x0.fdiv (2 ^ min (Int.toNat 3) IntKind.i64.bits)-1)).fdiv (2 ^ min (Int.toNat 4) IntKind.i64.bits)>=0) then bif decide ((Zad .i64 (x0.fdiv (2 ^ min (Int.toNat 3) IntKind.i64.bits)-1)).fdiv (2 ^ min (Int.toNat 4) IntKind.i64.bits)<4) then bif decide (Zad .i64 (↑(BitVec.ofInt IntKind.i64.bits (Zad .i64 (x0.fdiv (2 ^ min (Int.toNat 3) IntKind.i64.bits)-1)) &&& BitVec.ofInt IntKind.i64.bits 15).toNat:Int)>=1) then bif decide (Zad .i64 (↑(BitVec.ofInt IntKind.i64.bits (Zad .i64 (x0.fdiv (2 ^ min (Int.toNat 3) IntKind.i64.bits)-1)) &&& BitVec.ofInt IntKind.i64.bits 15).toNat:Int)<=3) then some (Said.mk (Zad .i64 (↑(BitVec.ofInt IntKind.i64.bits x0 &&& BitVec.ofInt IntKind.i64.bits 7).toNat:Int)) (Zad .i64 (x0.fdiv (2 ^ min (Int.toNat 3) IntKind.i64.bits)-1))) else some (Said.mk 0 0) else some (Said.mk 0 0) else some (Said.mk 0 0) else some (Said.mk 0 0) else some (Said.mk 0 0)
def Zjf (x:Int):Option Said:=ZnH x
def Zln (x0:Int):Option Int := match Zjf x0 with
 | some y1 => bif x0 == 0 then some (y1.kind) else bif !(y1.kind == 0 && (y1.n == 0 && true)) then some (y1.kind) else some ((-1:Int))
 | none=>none
def ZgP (x:Int):Option Int:=Zln x
def Zko (x0:Turn) (x1:Int):Option Turn := match ZgP x1 with
 | some y1 => bif y1 == 1 then some ({ x0 with th:={ x0.th with phase:=6,x:=x1 } }) else bif y1 == 0 then some ({ x0 with th:={ x0.th with phase:=5 } }) else match Zd1 x0 with
  | some y2 => bif y2 then match Zek x0 with
   | some y3 => some y3
   | none=>none else some (x0)
  | none=>none
 | none=>none
def Zks (x:Turn×Int):Option Turn:=Zko x.1 x.2
def ZjO (x0:Int):Option Int := match ZbP (Said.mk 2 x0) with
 | some y1 => some y1
 | none=>none
def Zjn (x:Int):Option Int:=ZjO x
def Zim (x0:Turn):Option Turn := match Zek { x0 with th:={ x0.th with stop:=x0.th.node } } with
 | some y1 => some y1
 | none=>none
def Ziz (x:Turn):Option Turn:=Zim x
def Zkt (x0:Turn):Option (Turn×Bool) := match Zep (x0.c,x0.th.item,x0.th.node) with
 | some y1 => match Zfc x0.t with
  | some y2 => bif x0.th.phase == 4 then match ZbU (x0.m,y1) with
   | some y3 => bif y3.snd != 0 then some ((x0,true)) else match Zks (x0,y3.fst) with
     | some y4 => some ((y4,true))
     | none=>none
   | none=>none else bif x0.th.phase == 6 then match Zjn x0.t with
    | some y3 => match ZcP (x0.m,y1,x0.th.x,y3) with
     | some y4 => bif y4.snd.snd != 0 then some ((x0,true)) else bif y4.snd.fst then match Ziz { x0 with m:=y4.fst,th:={ x0.th with phase:=4 } } with
      | some y5 => some ((y5,true))
      | none=>none else some (({ x0 with m:=y4.fst,th:={ x0.th with phase:=4 } },true))
     | none=>none
    | none=>none else bif x0.th.phase == 5 then match ZcP (x0.m,y1,0,y2) with
     | some y3 => bif y3.snd.snd != 0 then some ((x0,true)) else bif y3.snd.fst then match ZjG { x0 with m:=y3.fst,th:={ x0.th with phase:=4 } } with
      | some y4 => some ((y4,true))
      | none=>none else some (({ x0 with m:=y3.fst,th:={ x0.th with phase:=4 } },true))
     | none=>none else some ((x0,false))
  | none=>none
 | none=>none
def ZkO (x:Turn):Option (Turn×Bool):=Zkt x
def ZjI (x0:Turn):Option Int := bif decide (x0.th.at_<0) then some ((-1:Int)) else bif decide (x0.th.at_>=(↑x0.th.held.length:Int)) then some ((-1:Int)) else bif decide (0<=x0.th.at_) then bif decide (x0.th.at_<(↑x0.th.held.length:Int)) then match Zep (x0.c,x0.th.item,x0.th.held.getD x0.th.at_.toNat 0) with
 | some y1 => some y1
 | none=>none else none else none
def Zfx (x:Turn):Option Int:=ZjI x
def ZmK (x0:Int):Option Int := match Zjf x0 with
 | some y1 => bif decide (y1.kind>=1) then bif decide (y1.kind<=3) then some (y1.n) else some ((-1:Int)) else some ((-1:Int))
 | none=>none
def ZmR (x:Int):Option Int:=ZmK x
def ZmX (x0:Turn):Option Turn := match Zfx x0 with
 | some y1 => match ZbU (x0.m,y1) with
  | some y2 => bif y2.snd != 0 then some (x0) else match Zfc x0.t with
   | some y3 => bif y2.fst == y3 then some ({ x0 with th:={ x0.th with phase:=8 } }) else match ZgP y2.fst with
    | some y4 => bif y4 == 3 then match ZmR y2.fst with
     | some y5 => some ({ x0 with th:={ x0.th with phase:=9,who:=y5 } })
     | none=>none else some (x0)
    | none=>none
   | none=>none
  | none=>none
 | none=>none
def Zjx (x:Turn):Option Turn:=ZmX x
def Zjz (x0:Turn):Option Turn := match Zf1 { x0 with th:={ x0.th with at_:=Zad .i64 (x0.th.at_+1) } } with
 | some y1 => some y1
 | none=>none
def Zg9 (x:Turn):Option Turn:=Zjz x
def Zm0 (x0:Turn):Option Turn := match Zfx x0 with
 | some y1 => match Zfc x0.t with
  | some y2 => match ZcP (x0.m,y1,y2,0) with
   | some y3 => bif !y3.snd.fst then bif y3.snd.snd != 0 then some (x0) else some ({ x0 with m:=y3.fst,th:={ x0.th with phase:=7 } }) else bif y3.snd.snd != 0 then some (x0) else match Zg9 { x0 with m:=y3.fst } with
    | some y4 => some y4
    | none=>none
   | none=>none
  | none=>none
 | none=>none
def Zjr (x:Turn):Option Turn:=Zm0 x
def ZcR (x0:List Entry):Option (List Entry) := bif fewB ((0:Nat)+x0.length) then some (x0) else none
def Zbj (x:(List Entry)):Option (List Entry):=ZcR x
def Zck (x0:List (List Entry)) (x1:Int):Option ((List Entry)×Int) := bif decide (x1<0) then some ((([]:List Entry),30)) else bif decide (x1>=(↑x0.length:Int)) then some ((([]:List Entry),30)) else bif decide (0<=x1) then bif decide (x1<(↑x0.length:Int)) then some ((x0.getD x1.toNat ([]:List Entry),0)) else none else none
def Zch (x:(List (List Entry))×Int):Option ((List Entry)×Int):=Zck x.1 x.2
def Zid (x0:Memo) (x1:Int):Option ((List Entry)×Int) := match Zch (x0.boxes,x1) with
 | some y1 => match Zbj y1.fst with
  | some y2 => some ((y2,y1.snd))
  | none=>none
 | none=>none
def Zia (x:Memo×Int):Option ((List Entry)×Int):=Zid x.1 x.2
def Zeg (x0:Unit) (x1:Int):Option (List Kid) := bif decide (x1<0) then none else bif decide (Zad .i64 (x1-Zad .i64 (0-0))>0) then bif decide (0<=Zad .i64 (x1-Zad .i64 (0-0))) then bif decide (Zad .i64 (x1-Zad .i64 (0-0))<=Zbw) then some (List.take (Int.toNat 0) (List.replicate (Zad .i64 (x1-Zad .i64 (0-0))).toNat (Kid.mk 0 0))) else none else none else some (([]:List Kid))
def Zel (x:Unit×Int):Option (List Kid):=Zeg x.1 x.2
def Zcr (x0:List Kid) (x1:List (List Kid)) (x2:Int) (x3:Int):Option (((List Kid)×(List (List Kid))×Int×Int)⊕(((List Kid)))) := bif decide (x3<x2) then bif decide (0<=x3) then bif decide (x3<(↑x1.length:Int)) then bif fewB (x0.length+List.length (x1.getD x3.toNat ([]:List Kid))) then some (Sum.inl (x0++x1.getD x3.toNat ([]:List Kid),x1,x2,Zad .i64 (x3+1))) else none else none else none else some (Sum.inr x0)
def ZbE (x:(List Kid)×(List (List Kid))×Int×Int):Option (((List Kid)×(List (List Kid))×Int×Int)⊕(((List Kid)))):=Zcr x.1 x.2.1 x.2.2.1 x.2.2.2
def Zdd (x:(List Kid)×(List (List Kid))×Int×Int):Option (((List Kid))):=ZaI ZbE x
def Zcz (x0:List (List Kid)) (x1:Int) (x2:List (List Kid)) (x3:Int) (x4:Int):Option (((List (List Kid))×Int×(List (List Kid))×Int×Int)⊕(((List (List Kid))×Int))) := bif decide (x4<x3) then bif decide (0<=x4) then bif decide (x4<(↑x2.length:Int)) then bif decide (Zad .i64 (x1+(↑(List.length (x2.getD x4.toNat ([]:List Kid))):Int))<0) then none else some (Sum.inl (x0,Zad .i64 (x1+(↑(List.length (x2.getD x4.toNat ([]:List Kid))):Int)),x2,x3,Zad .i64 (x4+1))) else none else none else some (Sum.inr (x0,x1))
def ZbL (x:(List (List Kid))×Int×(List (List Kid))×Int×Int):Option (((List (List Kid))×Int×(List (List Kid))×Int×Int)⊕(((List (List Kid))×Int))):=Zcz x.1 x.2.1 x.2.2.1 x.2.2.2.1 x.2.2.2.2
def Zdq (x:(List (List Kid))×Int×(List (List Kid))×Int×Int):Option (((List (List Kid))×Int)):=ZaI ZbL x
def ZdW (x0:List (List Kid)):Option (List Kid) := match Zdq (x0,0,x0,(↑x0.length:Int),0) with
 | some y1 => match Zel ((),y1.snd) with
  | some y2 => match Zdd (y2,y1.fst,(↑(List.length y1.fst):Int),0) with
   | some y3 => some y3
   | none=>none
  | none=>none
 | none=>none
def Zd2 (x:(List (List Kid))):Option (List Kid):=ZdW x
def Zd8 (x0:Unit) (x1:Int):Option (List Entry) := bif decide (x1<0) then none else bif decide (Zad .i64 (x1-Zad .i64 (0-0))>0) then bif decide (0<=Zad .i64 (x1-Zad .i64 (0-0))) then bif decide (Zad .i64 (x1-Zad .i64 (0-0))<=Zbw) then some (List.take (Int.toNat 0) (List.replicate (Zad .i64 (x1-Zad .i64 (0-0))).toNat (Entry.mk 0 (Op.mk 0 0)))) else none else none else some (([]:List Entry))
def Zd9 (x:Unit×Int):Option (List Entry):=Zd8 x.1 x.2
def Zcm (x0:List Entry) (x1:List (List Entry)) (x2:Int) (x3:Int):Option (((List Entry)×(List (List Entry))×Int×Int)⊕(((List Entry)))) := bif decide (x3<x2) then bif decide (0<=x3) then bif decide (x3<(↑x1.length:Int)) then bif fewB (x0.length+List.length (x1.getD x3.toNat ([]:List Entry))) then some (Sum.inl (x0++x1.getD x3.toNat ([]:List Entry),x1,x2,Zad .i64 (x3+1))) else none else none else none else some (Sum.inr x0)
def ZbA (x:(List Entry)×(List (List Entry))×Int×Int):Option (((List Entry)×(List (List Entry))×Int×Int)⊕(((List Entry)))):=Zcm x.1 x.2.1 x.2.2.1 x.2.2.2
def Zc9 (x:(List Entry)×(List (List Entry))×Int×Int):Option (((List Entry))):=ZaI ZbA x
def Zcp (x0:List (List Entry)) (x1:Int) (x2:List (List Entry)) (x3:Int) (x4:Int):Option (((List (List Entry))×Int×(List (List Entry))×Int×Int)⊕(((List (List Entry))×Int))) := bif decide (x4<x3) then bif decide (0<=x4) then bif decide (x4<(↑x2.length:Int)) then bif decide (Zad .i64 (x1+(↑(List.length (x2.getD x4.toNat ([]:List Entry))):Int))<0) then none else some (Sum.inl (x0,Zad .i64 (x1+(↑(List.length (x2.getD x4.toNat ([]:List Entry))):Int)),x2,x3,Zad .i64 (x4+1))) else none else none else some (Sum.inr (x0,x1))
def ZbG (x:(List (List Entry))×Int×(List (List Entry))×Int×Int):Option (((List (List Entry))×Int×(List (List Entry))×Int×Int)⊕(((List (List Entry))×Int))):=Zcp x.1 x.2.1 x.2.2.1 x.2.2.2.1 x.2.2.2.2
def Zdf (x:(List (List Entry))×Int×(List (List Entry))×Int×Int):Option (((List (List Entry))×Int)):=ZaI ZbG x
def Zdz (x0:List (List Entry)):Option (List Entry) := match Zdf (x0,0,x0,(↑x0.length:Int),0) with
 | some y1 => match Zd9 ((),y1.snd) with
  | some y2 => match Zc9 (y2,y1.fst,(↑(List.length y1.fst):Int),0) with
   | some y3 => some y3
   | none=>none
  | none=>none
 | none=>none
def ZdB (x:(List (List Entry))):Option (List Entry):=Zdz x
def ZnL (x0:List (List Entry)):Option (List Entry) := match ZdB x0 with
 | some y1 => some y1
 | none=>none
def Zkv (x:(List (List Entry))):Option (List Entry):=ZnL x
def Zjt (x0:Turn) (x1:Int) (x2:List Entry):Option Turn := match Zd2 (x0.th.kids::(Kid.mk x1 (↑x0.th.batch.length:Int)::[])::[]) with
 | some y1 => match Zkv (x0.th.batch::x2::[]) with
  | some y2 => some ({ x0 with th:={ x0.th with batch:=y2,kids:=y1 } })
  | none=>none
 | none=>none
def Zfv (x:Turn×Int×(List Entry)):Option Turn:=Zjt x.1 x.2.1 x.2.2
def Zka (x0:Turn):Option Turn := match Zia (x0.m,x0.th.who) with
 | some y1 => bif y1.snd != 0 then some (x0) else match Zfv (x0,x0.th.who,y1.fst) with
  | some y2 => some ({ y2 with th:={ y2.th with phase:=10 } })
  | none=>none
 | none=>none
def Zhh (x:Turn):Option Turn:=Zka x
def Znd (x0:Turn):Option Turn := match Zfx x0 with
 | some y1 => match Zca (x0.m,y1,0) with
  | some y2 => bif y2.snd != 0 then some (x0) else match Zg9 { x0 with m:=y2.fst } with
   | some y3 => some y3
   | none=>none
  | none=>none
 | none=>none
def ZjK (x:Turn):Option Turn:=Znd x
def ZdC (x0:List (List Entry)):Option ((List (List Entry))) := bif fewB ((0:Nat)+x0.length) then some (x0) else none
def ZdF (x:(List (List Entry))):Option ((List (List Entry))):=ZdC x
def Zml (x0:Memo) (x1:Int) (x2:List Entry):Option (Memo×Int) := match Zch (x0.boxes,x1) with
 | some y1 => bif y1.snd != 0 then some ((x0,y1.snd)) else match ZdF x0.boxes with
  | some y2 => match Zbj x2 with
   | some y3 => bif decide (0<=x1) then bif decide (x1<(↑(List.length y2):Int)) then some (({ x0 with boxes:=List.set y2 x1.toNat y3 },0)) else none else none
   | none=>none
  | none=>none
 | none=>none
def ZhW (x:Memo×Int×(List Entry)):Option (Memo×Int):=Zml x.1 x.2.1 x.2.2
def ZkF (x0:Turn):Option Turn := match ZhW (x0.m,x0.t,x0.th.batch) with
 | some y1 => bif y1.snd != 0 then some (x0) else some ({ x0 with m:=y1.fst,th:={ x0.th with phase:=12 } })
 | none=>none
def Zhq (x:Turn):Option Turn:=ZkF x
def Zhn (x0:Int):Option Int := match ZbP (Said.mk 3 x0) with
 | some y1 => some y1
 | none=>none
def Zhk (x:Int):Option Int:=Zhn x
def Zkb (x0:Turn):Option Turn := match Zep (x0.c,x0.th.item,x0.th.stop) with
 | some y1 => match Zhk x0.t with
  | some y2 => match Zca (x0.m,y1,y2) with
   | some y3 => bif y3.snd != 0 then some (x0) else some ({ x0 with m:=y3.fst,th:={ x0.th with phase:=13 } })
   | none=>none
  | none=>none
 | none=>none
def Zhc (x:Turn):Option Turn:=Zkb x
def Zjm (x0:Turn):Option (Turn×Bool) := bif x0.th.phase == 7 then match Zjx x0 with
 | some y1 => some ((y1,true))
 | none=>none else bif x0.th.phase == 8 then match Zjr x0 with
  | some y1 => some ((y1,true))
  | none=>none else bif x0.th.phase == 9 then match Zhh x0 with
   | some y1 => some ((y1,true))
   | none=>none else bif x0.th.phase == 10 then match ZjK x0 with
    | some y1 => some ((y1,true))
    | none=>none else bif x0.th.phase == 11 then match Zhq x0 with
     | some y1 => some ((y1,true))
     | none=>none else bif x0.th.phase == 12 then match Zhc x0 with
      | some y1 => some ((y1,true))
      | none=>none else some ((x0,false))
def ZjP (x:Turn):Option (Turn×Bool):=Zjm x
def ZhT (x0:Turn):Option Turn := bif decide (x0.th.layer<x0.c.layers) then match Zd1 { x0 with th:={ x0.th with phase:=2 } } with
 | some y1 => bif !y1 then some ({ x0 with th:={ x0.th with phase:=17,layer:=Zad .i64 (x0.th.layer+1) } }) else some ({ x0 with th:={ x0.th with phase:=2 } })
 | none=>none else some ({ x0 with th:={ x0.th with phase:=2 } })
def Zcn (x:Turn):Option Turn:=ZhT x
def ZiW (x0:Int) (x1:Int):Option Int := match ZbP (Said.mk 4 (Zad .i64 (Zad .i64 (x0*2 ^ min (Int.toNat 4) IntKind.i64.bits)+x1))) with
 | some y1 => some y1
 | none=>none
def ZiR (x:Int×Int):Option Int:=ZiW x.1 x.2
def ZhD (x0:Turn×Int) (x1:Int):Option Int := match Zc2 (x0.fst.c,x1) with
 | some y1 => some y1
 | none=>none
def Zb1 (x:(Turn×Int)×Int):Option Int:=ZhD x.1 x.2
def ZoW:Option Int := match ZbP (Said.mk 5 (-1:Int)) with
 | some y1 => some y1
 | none=>none
def ZgM (x:Unit):Option Int:=ZoW
def Zil (x0:Config) (x1:Int):Option Int := bif decide (x1<0) then some ((-1:Int)) else bif decide (x1>=x0.threads) then some ((-1:Int)) else match Zco x0 with
 | some y1 => some (Zad .i64 (Zad .i64 (y1.lines+Zad .i64 (2*x1))+1))
 | none=>none
def Ze9 (x:Config×Int):Option Int:=Zil x.1 x.2
def Zij (x0:Turn):Option Turn := bif decide (x0.th.at_<0) then some ({ x0 with th:={ x0.th with phase:=0 },done:=true }) else bif decide (x0.th.at_>=(↑x0.th.kids.length:Int)) then some ({ x0 with th:={ x0.th with phase:=0 },done:=true }) else bif decide (0<=x0.th.at_) then bif decide (x0.th.at_<(↑x0.th.kids.length:Int)) then some ({ x0 with th:={ x0.th with phase:=15 } }) else none else none
def Zdp (x:Turn):Option Turn:=Zij x
def Zkx (x0:List Entry) (x1:Int):Option (List Entry) := bif decide (0<=if (if (↑x0.length:Int)<x1 then (↑x0.length:Int) else x1)>0 then if (↑x0.length:Int)<x1 then (↑x0.length:Int) else x1 else 0) then bif decide ((if (if (↑x0.length:Int)<x1 then (↑x0.length:Int) else x1)>0 then if (↑x0.length:Int)<x1 then (↑x0.length:Int) else x1 else 0)<=(↑x0.length:Int)) then match Zbj (List.drop (Int.toNat 0) (List.take (if (if (↑x0.length:Int)<x1 then (↑x0.length:Int) else x1)>0 then if (↑x0.length:Int)<x1 then (↑x0.length:Int) else x1 else 0).toNat x0)) with
 | some y1 => some y1
 | none=>none else none else none
def Zke (x:(List Entry)×Int):Option (List Entry):=Zkx x.1 x.2
def ZgU (x0:Memo) (x1:Int) (x2:Int):Option (Memo×Int×Int) := match ZbC (x0.words,x1) with
 | some y1 => bif y1.snd != 0 then some ((x0,0,y1.snd)) else match Zbx x0.words with
  | some y2 => bif decide (0<=x1) then bif decide (x1<(↑(List.length y2):Int)) then some (({ x0 with words:=List.set y2 x1.toNat x2 },y1)) else none else none
  | none=>none
 | none=>none
def Zlm (x:Memo×Int×Int):Option (Memo×Int×Int):=ZgU x.1 x.2.1 x.2.2
def Zkd (x0:Config) (x1:Int) (x2:Int) (x3:Int):Option Int := bif decide (x1<0) then some ((-1:Int)) else bif decide (x1>=x0.items) then some ((-1:Int)) else bif decide (x2<1) then some ((-1:Int)) else bif decide (x2>=Zad .i64 (1+x0.layers)) then some ((-1:Int)) else bif decide (x3<0) then some ((-1:Int)) else bif decide (x3>=x0.width) then some ((-1:Int)) else match Zco x0 with
 | some y1 => match Zco x0 with
  | some y2 => some (Zad .i64 (Zad .i64 (Zad .i64 (Zad .i64 (x1*y1.block)+y2.slots)+Zad .i64 (Zad .i64 (x2-1)*x0.width))+x3))
  | none=>none
 | none=>none
def ZkC (x:Config×Int×Int×Int):Option Int:=Zkd x.1 x.2.1 x.2.2.1 x.2.2.2
def ZgV (x0:Tape):Option Int := bif decide (x0.at_<0) then some (0) else some (if Zad .i64 ((↑x0.l.length:Int)-x0.at_)>0 then Zad .i64 ((↑x0.l.length:Int)-x0.at_) else 0)
def ZfK (x:Tape):Option Int:=ZgV x
end Go.Proofs.Mill
