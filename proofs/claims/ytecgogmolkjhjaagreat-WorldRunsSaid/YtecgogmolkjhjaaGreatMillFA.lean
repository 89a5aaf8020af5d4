/- What the functions compute. -/
import Derived.Test.YtecgogmolkjhjaaGreatMillAll3
set_option linter.all false
noncomputable section
namespace Go.Proofs.Mill
def Zu9 (x0:Turn) (x1:Int):Option ((Turn×Int)⊕((Turn)⊕(Bool))) := bif decide (x1<(↑x0.m.boxes.length:Int)) then bif decide (x1<20) then bif decide (0<=x1) then bif decide (x1<(↑x0.m.boxes.length:Int)) then bif decide ((↑(List.length (x0.m.boxes.getD x1.toNat ([]:List Entry))):Int)>20) then some (Sum.inr (Sum.inr true)) else some (Sum.inl (x0,Zaf .i64 (x1+1))) else none else none else some (Sum.inr (Sum.inl x0)) else some (Sum.inr (Sum.inl x0))
def Zk1 (x:Turn×Int):Option ((Turn×Int)⊕((Turn)⊕(Bool))):=Zu9 x.1 x.2
def Zvk (x:Turn×Int):Option ((Turn)⊕(Bool)):=Zay Zk1 x
def Zxa (x0:Turn):Option Bool := match Zvk (x0,0) with
 | some (.inl y1) => bif decide ((↑y1.m.words.length:Int)>400) then some (true) else bif decide ((↑y1.m.boxes.length:Int)>16) then some (true) else bif decide ((↑y1.th.batch.length:Int)>20) then some (true) else bif decide ((↑y1.th.kids.length:Int)>20) then some (true) else bif decide ((↑y1.th.held.length:Int)>20) then some (true) else bif decide ((↑y1.tape.l.length:Int)>100) then some (true) else some (decide ((↑y1.log.length:Int)>50))
 | some (.inr y2) => some y2
 | none=>none
def Zox (x:Turn):Option Bool:=Zxa x
def ZdT (x0:Config):Option Int := bif decide (x0.threads<1) then some (50) else bif decide (x0.threads>16) then some (50) else bif decide (x0.items<1) then some (51) else bif decide (x0.items>4) then some (51) else bif decide (x0.backend<1) then some (52) else bif decide (x0.backend>3) then some (52) else bif decide (x0.depth<0) then some (53) else bif decide (x0.depth>4) then some (53) else bif decide (x0.layers<0) then some (54) else bif decide (x0.layers>3) then some (54) else bif decide (x0.width<1) then some (55) else bif decide (x0.width>8) then some (55) else bif decide (x0.spin<0) then some (56) else bif decide (x0.spin>20) then some (56) else bif decide (x0.wait<0) then some (57) else bif decide (x0.wait>1000) then some (57) else bif x0.bounded then bif decide (x0.lo>x0.init) then some (58) else bif decide (x0.init>x0.hi) then some (58) else some (0) else some (0)
def Zdc (x:Config):Option Int:=ZdT x
def Zi0 (x0:Config) (x1:Int) (x2:Int):Option ((Config×Int×Int)⊕((Int))) := bif decide (x2<x0.depth) then some (Sum.inl (x0,Zaf .i64 (2*x1),Zaf .i64 (x2+1))) else some (Sum.inr x1)
def Ze7 (x:Config×Int×Int):Option ((Config×Int×Int)⊕((Int))):=Zi0 x.1 x.2.1 x.2.2
def ZnK (x:Config×Int×Int):Option Int:=Zay Ze7 x
def Zlu (x0:Config):Option Int := match ZnK (x0,1,0) with
 | some y1 => some (Zaf .i64 (y1-1))
 | none=>none
def Zdf (x:Config):Option Int:=Zlu x
def ZkZ (x0:Config):Option Int := match Zdf x0 with
 | some y1 => some (Zaf .i64 (Zaf .i64 (1+y1)+Zaf .i64 (x0.layers*x0.width)))
 | none=>none
def Zb9 (x:Config):Option Int:=ZkZ x
def Zm2 (x0:Config):Option Int := match Zb9 x0 with
 | some y1 => some (Zaf .i64 (Zaf .i64 (x0.items*y1)+Zaf .i64 (2*x0.threads)))
 | none=>none
def Zfk (x:Config):Option Int:=Zm2 x
def ZxC (x0:Turn):Option Bool := match Zdc x0.c with
 | some y1 => bif y1 == 0 then bif decide (x0.t>=0) then bif decide (x0.t<x0.c.threads) then match Zfk x0.c with
  | some y2 => bif (↑x0.m.words.length:Int) == y2 then bif (↑x0.m.boxes.length:Int) == x0.c.threads then bif decide (x0.th.item>=0) then some (decide (x0.th.item<x0.c.items)) else some (false) else some (false) else some (false)
  | none=>none else some (false) else some (false) else some (false)
 | none=>none
def Zn3 (x:Turn):Option Bool:=ZxC x
def Zkd (x0:List Entry) (x1:List Entry) (x2:Int):Option (((List Entry)×(List Entry)×Int)⊕((Unit)⊕(Bool))) := bif decide (x2<(↑x0.length:Int)) then bif decide (0<=x2) then bif decide (x2<(↑x0.length:Int)) then bif decide (0<=x2) then bif decide (x2<(↑x1.length:Int)) then bif !((x0.getD x2.toNat Zce).t == (x1.getD x2.toNat Zce).t && ((x0.getD x2.toNat Zce).op.tag == (x1.getD x2.toNat Zce).op.tag && ((x0.getD x2.toNat Zce).op.v == (x1.getD x2.toNat Zce).op.v && true) && true)) then some (Sum.inr (Sum.inr false)) else some (Sum.inl (x0,x1,Zaf .i64 (x2+1))) else none else none else none else none else some (Sum.inr (Sum.inl ()))
def Zfs (x:(List Entry)×(List Entry)×Int):Option (((List Entry)×(List Entry)×Int)⊕((Unit)⊕(Bool))):=Zkd x.1 x.2.1 x.2.2
def ZoN (x:(List Entry)×(List Entry)×Int):Option ((Unit)⊕(Bool)):=Zay Zfs x
def ZiY (x0:List Entry) (x1:List Entry):Option Bool := bif (↑x0.length:Int) != (↑x1.length:Int) then some (false) else match ZoN (x0,x1,0) with
 | some (.inl y1) => some (true)
 | some (.inr y2) => some y2
 | none=>none
def ZgC (x:(List Entry)×(List Entry)):Option Bool:=ZiY x.1 x.2
def Zkj (x0:List Int) (x1:List Int) (x2:Int):Option (((List Int)×(List Int)×Int)⊕((Unit)⊕(Bool))) := bif decide (x2<(↑x0.length:Int)) then bif decide (0<=x2) then bif decide (x2<(↑x0.length:Int)) then bif decide (0<=x2) then bif decide (x2<(↑x1.length:Int)) then bif x0.getD x2.toNat 0 != x1.getD x2.toNat 0 then some (Sum.inr (Sum.inr false)) else some (Sum.inl (x0,x1,Zaf .i64 (x2+1))) else none else none else none else none else some (Sum.inr (Sum.inl ()))
def Zfo (x:(List Int)×(List Int)×Int):Option (((List Int)×(List Int)×Int)⊕((Unit)⊕(Bool))):=Zkj x.1 x.2.1 x.2.2
def ZoW (x:(List Int)×(List Int)×Int):Option ((Unit)⊕(Bool)):=Zay Zfo x
def ZlU (x0:List Int) (x1:List Int):Option Bool := bif (↑x0.length:Int) != (↑x1.length:Int) then some (false) else match ZoW (x0,x1,0) with
 | some (.inl y1) => some (true)
 | some (.inr y2) => some y2
 | none=>none
def Zgv (x:(List Int)×(List Int)):Option Bool:=ZlU x.1 x.2
def ZjS (x0:Memo) (x1:Memo) (x2:Int):Option ((Memo×Memo×Int)⊕((Unit)⊕(Bool))) := bif decide (x2<(↑x0.boxes.length:Int)) then bif decide (0<=x2) then bif decide (x2<(↑x0.boxes.length:Int)) then bif decide (0<=x2) then bif decide (x2<(↑x1.boxes.length:Int)) then match ZgC (x0.boxes.getD x2.toNat ([]:List Entry),x1.boxes.getD x2.toNat ([]:List Entry)) with
 | some y1 => bif !y1 then some (Sum.inr (Sum.inr false)) else some (Sum.inl (x0,x1,Zaf .i64 (x2+1)))
 | none=>none else none else none else none else none else some (Sum.inr (Sum.inl ()))
def Zfi (x:Memo×Memo×Int):Option ((Memo×Memo×Int)⊕((Unit)⊕(Bool))):=ZjS x.1 x.2.1 x.2.2
def ZoJ (x:Memo×Memo×Int):Option ((Unit)⊕(Bool)):=Zay Zfi x
def Zmz (x0:Memo) (x1:Memo):Option Bool := match Zgv (x0.words,x1.words) with
 | some y1 => bif !y1 then some (false) else bif (↑x0.boxes.length:Int) != (↑x1.boxes.length:Int) then some (false) else match ZoJ (x0,x1,0) with
  | some (.inl y2) => some (true)
  | some (.inr y3) => some y3
  | none=>none
 | none=>none
def Zix (x:Memo×Memo):Option Bool:=Zmz x.1 x.2
def Zj7 (x0:Thread) (x1:Thread) (x2:Int):Option ((Thread×Thread×Int)⊕((Thread×Thread)⊕(Bool))) := bif decide (x2<(↑x0.kids.length:Int)) then bif decide (0<=x2) then bif decide (x2<(↑x0.kids.length:Int)) then bif decide (0<=x2) then bif decide (x2<(↑x1.kids.length:Int)) then bif !((x0.kids.getD x2.toNat dKid).t == (x1.kids.getD x2.toNat dKid).t && ((x0.kids.getD x2.toNat dKid).ahead == (x1.kids.getD x2.toNat dKid).ahead && true)) then some (Sum.inr (Sum.inr false)) else some (Sum.inl (x0,x1,Zaf .i64 (x2+1))) else none else none else none else none else some (Sum.inr (Sum.inl (x0,x1)))
def Zfw (x:Thread×Thread×Int):Option ((Thread×Thread×Int)⊕((Thread×Thread)⊕(Bool))):=Zj7 x.1 x.2.1 x.2.2
def ZoO (x:Thread×Thread×Int):Option ((Thread×Thread)⊕(Bool)):=Zay Zfw x
def ZmX (x0:Thread) (x1:Thread):Option Bool := match ZgC (x0.batch,x1.batch) with
 | some y1 => bif !y1 then some (false) else match Zgv (x0.held,x1.held) with
  | some y2 => bif !y2 then some (false) else bif (↑x0.kids.length:Int) != (↑x1.kids.length:Int) then some (false) else match ZoO (x0,x1,0) with
   | some (.inl y3) => bif y3.fst.phase == y3.snd.phase then bif y3.fst.item == y3.snd.item then bif y3.fst.op.tag == y3.snd.op.tag && (y3.fst.op.v == y3.snd.op.v && true) then bif y3.fst.stop == y3.snd.stop then bif y3.fst.node == y3.snd.node then bif y3.fst.at_ == y3.snd.at_ then bif y3.fst.layer == y3.snd.layer then bif y3.fst.left == y3.snd.left then bif y3.fst.width == y3.snd.width then bif y3.fst.who == y3.snd.who then bif y3.fst.x == y3.snd.x then bif y3.fst.y == y3.snd.y then some (y3.fst.until_ == y3.snd.until_) else some (false) else some (false) else some (false) else some (false) else some (false) else some (false) else some (false) else some (false) else some (false) else some (false) else some (false) else some (false)
   | some (.inr y4) => some y4
   | none=>none
  | none=>none
 | none=>none
def ZiL (x:Thread×Thread):Option Bool:=ZmX x.1 x.2
def ZjJ (x0:Tape) (x1:Tape) (x2:Int):Option ((Tape×Tape×Int)⊕((Unit)⊕(Bool))) := bif decide (x2<(↑x0.l.length:Int)) then bif decide (0<=x2) then bif decide (x2<(↑x0.l.length:Int)) then bif decide (0<=x2) then bif decide (x2<(↑x1.l.length:Int)) then bif x0.l.getD x2.toNat 0 != x1.l.getD x2.toNat 0 then some (Sum.inr (Sum.inr false)) else some (Sum.inl (x0,x1,Zaf .i64 (x2+1))) else none else none else none else none else some (Sum.inr (Sum.inl ()))
def Zfv (x:Tape×Tape×Int):Option ((Tape×Tape×Int)⊕((Unit)⊕(Bool))):=ZjJ x.1 x.2.1 x.2.2
def ZoM (x:Tape×Tape×Int):Option ((Unit)⊕(Bool)):=Zay Zfv x
def ZmS (x0:Tape) (x1:Tape):Option Bool := bif x0.at_ != x1.at_ then some (false) else bif (↑x0.l.length:Int) != (↑x1.l.length:Int) then some (false) else match ZoM (x0,x1,0) with
 | some (.inl y1) => some (true)
 | some (.inr y2) => some y2
 | none=>none
def ZiV (x:Tape×Tape):Option Bool:=ZmS x.1 x.2
def ZiE (x0:List Mark) (x1:List Mark) (x2:Int):Option (((List Mark)×(List Mark)×Int)⊕((Unit)⊕(Bool))) := bif decide (x2<(↑x0.length:Int)) then bif decide (0<=x2) then bif decide (x2<(↑x0.length:Int)) then bif decide (0<=x2) then bif decide (x2<(↑x1.length:Int)) then bif !((x0.getD x2.toNat Za4).t == (x1.getD x2.toNat Za4).t && ((x0.getD x2.toNat Za4).item == (x1.getD x2.toNat Za4).item && ((x0.getD x2.toNat Za4).op.tag == (x1.getD x2.toNat Za4).op.tag && ((x0.getD x2.toNat Za4).op.v == (x1.getD x2.toNat Za4).op.v && true) && ((x0.getD x2.toNat Za4).prior == (x1.getD x2.toNat Za4).prior && ((x0.getD x2.toNat Za4).step == (x1.getD x2.toNat Za4).step && true))))) then some (Sum.inr (Sum.inr false)) else some (Sum.inl (x0,x1,Zaf .i64 (x2+1))) else none else none else none else none else some (Sum.inr (Sum.inl ()))
def Ze4 (x:(List Mark)×(List Mark)×Int):Option (((List Mark)×(List Mark)×Int)⊕((Unit)⊕(Bool))):=ZiE x.1 x.2.1 x.2.2
def ZnN (x:(List Mark)×(List Mark)×Int):Option ((Unit)⊕(Bool)):=Zay Ze4 x
def Zk9 (x0:List Mark) (x1:List Mark):Option Bool := bif (↑x0.length:Int) != (↑x1.length:Int) then some (false) else match ZnN (x0,x1,0) with
 | some (.inl y1) => some (true)
 | some (.inr y2) => some y2
 | none=>none
def ZhU (x:(List Mark)×(List Mark)):Option Bool:=Zk9 x.1 x.2
def Zu1 (x0:Turn) (x1:Turn):Option Bool := bif x0.c.threads == x1.c.threads && (x0.c.items == x1.c.items && (x0.c.backend == x1.c.backend && (x0.c.depth == x1.c.depth && (x0.c.layers == x1.c.layers && (x0.c.width == x1.c.width && (x0.c.spin == x1.c.spin && (x0.c.wait == x1.c.wait && (x0.c.bounded == x1.c.bounded && (x0.c.lo == x1.c.lo && (x0.c.hi == x1.c.hi && (x0.c.init == x1.c.init && true))))))))))) then bif x0.t == x1.t then bif x0.now == x1.now then match Zix (x0.m,x1.m) with
 | some y1 => bif y1 then match ZiL (x0.th,x1.th) with
  | some y2 => bif y2 then match ZiV (x0.tape,x1.tape) with
   | some y3 => bif y3 then match ZhU (x0.log,x1.log) with
    | some y4 => bif y4 then some (x0.done == x1.done) else some (false)
    | none=>none else some (false)
   | none=>none else some (false)
  | none=>none else some (false)
 | none=>none else some (false) else some (false) else some (false)
def ZkR (x:Turn×Turn):Option Bool:=Zu1 x.1 x.2
def ZrD (x0:List Entry) (x1:List Entry) (x2:Int):Option (((List Entry)×(List Entry)×Int)⊕(((List Entry)))) := bif decide (x2<(↑x0.length:Int)) then bif decide (0<=x2) then bif decide (x2<(↑x0.length:Int)) then bif decide (0<=x2) then bif decide (x2<(↑x0.length:Int)) then bif fewB (x1.length+(x0.getD x2.toNat Zce::[]).length) then some (Sum.inl (x0,x1++x0.getD x2.toNat Zce::[],Zaf .i64 (x2+1))) else none else none else none else none else none else some (Sum.inr x1)
def Zhh (x:(List Entry)×(List Entry)×Int):Option (((List Entry)×(List Entry)×Int)⊕(((List Entry)))):=ZrD x.1 x.2.1 x.2.2
def ZrB (x:(List Entry)×(List Entry)×Int):Option (((List Entry))):=Zay Zhh x
def ZsN (x0:List Entry):Option (List Entry) := match ZrB (x0,([]:List Entry),0) with
 | some y1 => some y1
 | none=>none
def Zi2 (x:(List Entry)):Option (List Entry):=ZsN x
def Zse (x0:Memo) (x1:Memo) (x2:Memo) (x3:Int):Option ((Memo×Memo×Memo×Int)⊕((Memo×Memo))) := bif decide (x3<(↑x0.boxes.length:Int)) then bif decide (0<=x3) then bif decide (x3<(↑x0.boxes.length:Int)) then match Zi2 (x0.boxes.getD x3.toNat ([]:List Entry)) with
 | some y1 => bif fewB (x2.boxes.length+(y1::[]).length) then some (Sum.inl (x0,x1,{ x2 with boxes:=x2.boxes++y1::[] },Zaf .i64 (x3+1))) else none
 | none=>none else none else none else some (Sum.inr (x1,x2))
def Zim (x:Memo×Memo×Memo×Int):Option ((Memo×Memo×Memo×Int)⊕((Memo×Memo))):=Zse x.1 x.2.1 x.2.2.1 x.2.2.2
def Zsa (x:Memo×Memo×Memo×Int):Option (Memo×Memo):=Zay Zim x
def Zue (x0:Memo):Option Memo := match Zsa (x0,Memo.mk ([]:List Int) ([]:List (List Entry)),{ x0 with boxes:=([]:List (List Entry)) },0) with
 | some y1 => some (y1.snd)
 | none=>none
def ZoP (x:Memo):Option Memo:=Zue x
def ZsX (x0:Thread) (x1:Thread) (x2:Thread) (x3:Int):Option ((Thread×Thread×Thread×Int)⊕((Thread×Thread))) := bif decide (x3<(↑x0.kids.length:Int)) then bif decide (0<=x3) then bif decide (x3<(↑x0.kids.length:Int)) then bif fewB (x2.kids.length+(x0.kids.getD x3.toNat dKid::[]).length) then some (Sum.inl (x0,x1,{ x2 with kids:=x2.kids++x0.kids.getD x3.toNat dKid::[] },Zaf .i64 (x3+1))) else none else none else none else some (Sum.inr (x1,x2))
def ZiK (x:Thread×Thread×Thread×Int):Option ((Thread×Thread×Thread×Int)⊕((Thread×Thread))):=ZsX x.1 x.2.1 x.2.2.1 x.2.2.2
def Zsu (x:Thread×Thread×Thread×Int):Option (Thread×Thread):=Zay ZiK x
def Zvj (x0:Thread):Option Thread := match Zi2 x0.batch with
 | some y1 => match Zsu (x0,Thread.mk 0 0 (Op.mk 0 0) ([]:List Entry) ([]:List Kid) ([]:List Int) 0 0 0 0 0 0 0 0 0 0,{ x0 with batch:=y1,kids:=([]:List Kid) },0) with
  | some y2 => some (y2.snd)
  | none=>none
 | none=>none
def Zp3 (x:Thread):Option Thread:=Zvj x
def ZsM (x0:List Mark) (x1:List Mark) (x2:Int):Option (((List Mark)×(List Mark)×Int)⊕(((List Mark)))) := bif decide (x2<(↑x0.length:Int)) then bif decide (0<=x2) then bif decide (x2<(↑x0.length:Int)) then bif decide (0<=x2) then bif decide (x2<(↑x0.length:Int)) then bif decide (0<=x2) then bif decide (x2<(↑x0.length:Int)) then bif decide (0<=x2) then bif decide (x2<(↑x0.length:Int)) then bif decide (0<=x2) then bif decide (x2<(↑x0.length:Int)) then bif fewB (x1.length+(x0.getD x2.toNat Za4::[]).length) then some (Sum.inl (x0,x1++x0.getD x2.toNat Za4::[],Zaf .i64 (x2+1))) else none else none else none else none else none else none else none else none else none else none else none else some (Sum.inr x1)
def ZiP (x:(List Mark)×(List Mark)×Int):Option (((List Mark)×(List Mark)×Int)⊕(((List Mark)))):=ZsM x.1 x.2.1 x.2.2
def ZsP (x:(List Mark)×(List Mark)×Int):Option (((List Mark))):=Zay ZiP x
def Zvc (x0:List Mark):Option (List Mark) := match ZsP (x0,([]:List Mark),0) with
 | some y1 => some y1
 | none=>none
def Zp5 (x:(List Mark)):Option (List Mark):=Zvc x
def Zxq (x0:Turn):Option Turn := match ZoP x0.m with
 | some y1 => match Zp3 x0.th with
  | some y2 => match Zp5 x0.log with
   | some y3 => some ({ x0 with m:=y1,th:=y2,log:=y3 })
   | none=>none
  | none=>none
 | none=>none
def Zhu (x:Turn):Option Turn:=Zxq x
def ZhD (x0:Int) (x1:Int):Option (Int×Bool) :=
 some ((Zaf .i64 (x0+x1),decide (x1>=0) == decide (Zaf .i64 (x0+x1)>=x0)))
def Zf6 (x:Int×Int):Option (Int×Bool):=ZhD x.1 x.2
def ZcW (x0:Op) (x1:Int) (x2:Int) (x3:Int):Option (Int×Bool) := bif x0.tag == 1 then some ((Zaf .i64 (x1+x0.v),true)) else bif x0.tag == 2 then some ((Zaf .i64 (x1-x0.v),true)) else bif x0.tag == 3 then some ((Zaf .i64 (↑(BitVec.ofInt IntKind.i64.bits x1 ||| BitVec.ofInt IntKind.i64.bits x0.v).toNat:Int),true)) else bif x0.tag == 4 then some ((Zaf .i64 (↑(BitVec.ofInt IntKind.i64.bits x1 &&& BitVec.ofInt IntKind.i64.bits x0.v).toNat:Int),true)) else bif x0.tag == 5 then some ((if x0.v>x1 then x0.v else x1,true)) else bif x0.tag == 6 then some ((if x0.v<x1 then x0.v else x1,true)) else bif x0.tag == 7 then some ((x0.v,true)) else bif x0.tag == 8 then match Zf6 (x1,x0.v) with
 | some y1 => bif !y1.snd then some ((x1,false)) else bif decide (y1.fst<x2) then some ((x1,false)) else bif decide (y1.fst>x3) then some ((x1,false)) else some ((y1.fst,true))
 | none=>none else bif x0.tag == 9 then bif decide (x0.v<0) then some ((x1,false)) else bif decide (x1<x2) then some ((x1,false)) else bif decide (IntKind.u64.wrap x0.v>=Zaf IntKind.u64 (IntKind.u64.wrap x1-IntKind.u64.wrap x2)) then some ((x2,true)) else some ((Zaf .i64 (x1-x0.v),true)) else some ((x1,false))
def ZcH (x:Op×Int×Int×Int):Option (Int×Bool):=ZcW x.1 x.2.1 x.2.2.1 x.2.2.2
def Zny (x0:Int):Option (List Int) := bif decide (x0<1) then some (([]:List Int)) else bif decide (x0>10000) then some (([]:List Int)) else bif x0 == x0 then bif decide (0<=x0) then bif decide (x0<=ZbH) then some (List.replicate x0.toNat 0) else none else none else none
def ZiI (x:Int):Option (List Int):=Zny x
def ZgD (x0:Int):Option ((List (List Entry))) := bif decide (x0<1) then some (([]:List (List Entry))) else bif decide (x0>10000) then some (([]:List (List Entry))) else bif x0 == x0 then bif decide (0<=x0) then bif decide (x0<=ZbH) then some (List.replicate x0.toNat ([]:List Entry)) else none else none else none
def Zez (x:Int):Option ((List (List Entry))):=ZgD x
def Zpp (x0:Int) (x1:Int):Option Memo := match ZiI x0 with
 | some y1 => match Zez x1 with
  | some y2 => some (Memo.mk y1 y2)
  | none=>none
 | none=>none
def ZpH (x:Int×Int):Option Memo:=Zpp x.1 x.2
def Zlq (x0:Config):Option Int := bif decide (x0.depth<0) then none else some (Zaf .i64 (Zaf .i64 (1*2 ^ min x0.depth.toNat IntKind.i64.bits)-1))
def ZfP (x:Config):Option Int:=Zlq x
def ZpD (x0:Config):Option Plan := match ZfP x0 with
 | some y1 => some (Plan.mk 1 (Zaf .i64 (1+y1)) (Zaf .i64 (Zaf .i64 (1+y1)+Zaf .i64 (x0.layers*x0.width))) (Zaf .i64 (x0.items*Zaf .i64 (Zaf .i64 (1+y1)+Zaf .i64 (x0.layers*x0.width)))))
 | none=>none
def ZcB (x:Config):Option Plan:=ZpD x
def Zmi (x0:Config):Option Int := match ZcB x0 with
 | some y1 => some (Zaf .i64 (y1.lines+Zaf .i64 (2*x0.threads)))
 | none=>none
def Zmt (x:Config):Option Int:=Zmi x
def Zje (x0:Config) (x1:Int):Option Int := bif decide (x1<0) then some ((-1:Int)) else bif decide (x1>=x0.items) then some ((-1:Int)) else match ZcB x0 with
 | some y1 => some (Zaf .i64 (x1*y1.block))
 | none=>none
def Zdz (x:Config×Int):Option Int:=Zje x.1 x.2
def Ze3 (x0:Config) (x1:Memo) (x2:Memo) (x3:Int) (x4:Int):Option ((Config×Memo×Memo×Int×Int)⊕((Memo×Memo))) := bif decide (x4<x3) then match Zdz (x0,x4) with
 | some y1 => bif decide (0<=y1) then bif decide (y1<(↑x2.words.length:Int)) then some (Sum.inl (x0,x1,{ x2 with words:=x2.words.set (Int.toNat y1) x0.init },x3,Zaf .i64 (x4+1))) else none else none
 | none=>none else some (Sum.inr (x1,x2))
def Zgn (x:Config×Memo×Memo×Int×Int):Option ((Config×Memo×Memo×Int×Int)⊕((Memo×Memo))):=Ze3 x.1 x.2.1 x.2.2.1 x.2.2.2.1 x.2.2.2.2
def ZnD (x:Config×Memo×Memo×Int×Int):Option (Memo×Memo):=Zay Zgn x
def Zll (x0:Config):Option Memo := match Zmt x0 with
 | some y1 => match ZpH (y1,x0.threads) with
  | some y2 => match ZnD (x0,Memo.mk ([]:List Int) ([]:List (List Entry)),y2,x0.items,0) with
   | some y3 => some (y3.snd)
   | none=>none
  | none=>none
 | none=>none
def Zd1 (x:Config):Option Memo:=Zll x
def ZeC (x0:Int) (x1:Int):Option Int := bif decide (x0<1) then some (0) else bif decide (Zaf .i64 (x0-1)<0) then none else some (Zaf .i64 (↑(BitVec.ofInt IntKind.i64.bits (Zaf .i64 (1*2 ^ min (Zaf .i64 (x0-1)).toNat IntKind.i64.bits)) ||| BitVec.ofInt IntKind.i64.bits (Zaf .i64 (↑(BitVec.ofInt IntKind.i64.bits (x1.fdiv (2 ^ min (Int.toNat 1) IntKind.i64.bits)) &&& BitVec.ofInt IntKind.i64.bits (Zaf .i64 (Zaf .i64 (1*2 ^ min (Zaf .i64 (x0-1)).toNat IntKind.i64.bits)-1))).toNat:Int))).toNat:Int))
def ZmJ (x:Int×Int):Option Int:=ZeC x.1 x.2
def Zjw (x0:Config) (x1:Int) (x2:Thread) (x3:Int) (x4:Op) (x5:Int):Option Thread := match ZmJ (x0.depth,x1) with
 | some y1 => bif decide (x0.wait>0) then some (Thread.mk 1 x3 x4 (Entry.mk x1 x4::[]) ([]:List Kid) ([]:List Int) 0 y1 0 0 0 x2.width 0 0 0 (Zaf .i64 (x5+x0.wait))) else some (Thread.mk 1 x3 x4 (Entry.mk x1 x4::[]) ([]:List Kid) ([]:List Int) 0 y1 0 0 0 x2.width 0 0 0 0)
 | none=>none
def Zc2 (x:Config×Int×Thread×Int×Op×Int):Option Thread:=Zjw x.1 x.2.1 x.2.2.1 x.2.2.2.1 x.2.2.2.2.1 x.2.2.2.2.2
def ZwN:Option Thread :=
 some (Thread.mk 0 0 (Op.mk 0 0) ([]:List Entry) ([]:List Kid) ([]:List Int) 0 0 0 0 0 1 0 0 0 0)
def Zew (x:Unit):Option Thread:=ZwN
def ZsC (x0:Turn):Option Bool := match Zn3 x0 with
 | some y1 => bif y1 then bif decide (x0.th.phase<17) then some (true) else bif decide (x0.th.layer>=1) then some (decide (x0.th.layer<=3)) else some (false) else some (false)
 | none=>none
def ZnJ (x:Turn):Option Bool:=ZsC x
def Zot (x0:Op) (x1:Bool):Option Bool := bif x1 then bif x0.tag == 8 then some (true) else bif x0.tag == 9 then some (decide (x0.v>=0)) else some (false) else bif decide (x0.tag>=1) then some (decide (x0.tag<=7)) else some (false)
def Zkk (x:Op×Bool):Option Bool:=Zot x.1 x.2
def ZtR (x0:Config):Option Int :=
 some (Zaf .i64 (Zaf .i64 (20+Zaf .i64 (8*x0.depth))+Zaf .i64 (x0.layers*Zaf .i64 (20+Zaf .i64 (2*x0.spin)))))
def Zo3 (x:Config):Option Int:=ZtR x
def ZeP (x0:Thread):Option Bool :=
 some (x0.phase != 0)
def ZbE (x:Thread):Option Bool:=ZeP x
def ZiD (x0:Config) (x1:Int):Option Int := bif decide (x1<0) then some ((-1:Int)) else bif decide (x1>=x0.items) then some ((-1:Int)) else match Zb9 x0 with
 | some y1 => some (Zaf .i64 (x1*y1))
 | none=>none
def ZdC (x:Config×Int):Option Int:=ZiD x.1 x.2
def Zma (x0:Config) (x1:Int) (x2:Int):Option Int := bif decide (x1<0) then some ((-1:Int)) else bif decide (x1>=x0.items) then some ((-1:Int)) else bif decide (x2<1) then some ((-1:Int)) else match Zdf x0 with
 | some y1 => bif decide (x2>y1) then some ((-1:Int)) else match Zb9 x0 with
  | some y2 => some (Zaf .i64 (Zaf .i64 (x1*y2)+x2))
  | none=>none
 | none=>none
def ZdD (x:Config×Int×Int):Option Int:=Zma x.1 x.2.1 x.2.2
def Zns (x0:Config) (x1:Int):Option Int := bif decide (x1<0) then some ((-1:Int)) else bif decide (x1>=x0.threads) then some ((-1:Int)) else match Zb9 x0 with
 | some y1 => some (Zaf .i64 (Zaf .i64 (x0.items*y1)+Zaf .i64 (2*x1)))
 | none=>none
def Zcq (x:Config×Int):Option Int:=Zns x.1 x.2
def Zmg (x0:List SEntry) (x1:List Int):Option Bool := bif decide ((↑x0.length:Int)>400) then some (true) else some (decide ((↑x1.length:Int)>200))
def Zl1 (x:(List SEntry)×(List Int)):Option Bool:=Zmg x.1 x.2
def ZfS (x0:Int) (x1:Memo) (x2:Memo) (x3:Int):Option ((Int×Memo×Memo×Int)⊕((Memo×Memo))) := bif decide (x3<x0) then bif decide (x0<=10000) then bif fewB (x2.boxes.length+(([]:List Entry)::[]).length) then some (Sum.inl (x0,x1,{ x2 with boxes:=x2.boxes++([]:List Entry)::[] },Zaf .i64 (x3+1))) else none else some (Sum.inr (x1,x2)) else some (Sum.inr (x1,x2))
def ZhT (x:Int×Memo×Memo×Int):Option ((Int×Memo×Memo×Int)⊕((Memo×Memo))):=ZfS x.1 x.2.1 x.2.2.1 x.2.2.2
def Zp8 (x:Int×Memo×Memo×Int):Option (Memo×Memo):=Zay ZhT x
def Zf3 (x0:Int) (x1:Int) (x2:Memo) (x3:Memo) (x4:Int):Option ((Int×Int×Memo×Memo×Int)⊕((Int×Memo×Memo))) := bif decide (x4<x0) then bif decide (x0<=10000) then bif fewB (x3.words.length+(0::[]).length) then some (Sum.inl (x0,x1,x2,{ x3 with words:=x3.words++0::[] },Zaf .i64 (x4+1))) else none else some (Sum.inr (x1,x2,x3)) else some (Sum.inr (x1,x2,x3))
def ZhN (x:Int×Int×Memo×Memo×Int):Option ((Int×Int×Memo×Memo×Int)⊕((Int×Memo×Memo))):=Zf3 x.1 x.2.1 x.2.2.1 x.2.2.2.1 x.2.2.2.2
def ZpR (x:Int×Int×Memo×Memo×Int):Option (Int×Memo×Memo):=Zay ZhN x
def Zof (x0:Int) (x1:Int):Option Memo := match ZpR (x0,x1,Memo.mk ([]:List Int) ([]:List (List Entry)),Memo.mk ([]:List Int) ([]:List (List Entry)),0) with
 | some y1 => match Zp8 (y1.fst,y1.snd.fst,y1.snd.snd,0) with
  | some y2 => some (y2.snd)
  | none=>none
 | none=>none
def Zom (x:Int×Int):Option Memo:=Zof x.1 x.2
def ZfR (x0:Memo) (x1:Int) (x2:Int):Option (Memo×Int) := bif decide (x1<0) then some ((x0,30)) else bif decide (x1>=(↑x0.words.length:Int)) then some ((x0,30)) else bif fewB ((0:Nat)+x0.words.length) then bif decide (0<=x1) then bif decide (x1<(↑x0.words.length:Int)) then some (({ x0 with words:=x0.words.set x1.toNat x2 },0)) else none else none else none
def Zbn (x:Memo×Int×Int):Option (Memo×Int):=ZfR x.1 x.2.1 x.2.2
def ZeZ (x0:Config) (x1:Memo) (x2:Memo) (x3:Int):Option ((Config×Memo×Memo×Int)⊕((Memo×Memo))) := bif decide (x3<x0.items) then match ZdC (x0,x3) with
 | some y1 => match Zbn (x2,y1,x0.init) with
  | some y2 => some (Sum.inl (x0,x1,y2.fst,Zaf .i64 (x3+1)))
  | none=>none
 | none=>none else some (Sum.inr (x1,x2))
def Zgh (x:Config×Memo×Memo×Int):Option ((Config×Memo×Memo×Int)⊕((Memo×Memo))):=ZeZ x.1 x.2.1 x.2.2.1 x.2.2.2
def ZnR (x:Config×Memo×Memo×Int):Option (Memo×Memo):=Zay Zgh x
def ZkS (x0:Config):Option Memo := match Zfk x0 with
 | some y1 => match Zom (y1,x0.threads) with
  | some y2 => match ZnR (x0,Memo.mk ([]:List Int) ([]:List (List Entry)),y2,0) with
   | some y3 => some (y3.snd)
   | none=>none
  | none=>none
 | none=>none
def ZkO (x:Config):Option Memo:=ZkS x
def ZrG:Option Thread :=
 some (Thread.mk 0 0 (Op.mk 0 0) ([]:List Entry) ([]:List Kid) ([]:List Int) 0 0 0 0 0 1 0 0 0 0)
def Zog (x:Unit):Option Thread:=ZrG
def Zf4 (x0:Config) (x1:Wld) (x2:Wld) (x3:Int):Option ((Config×Wld×Wld×Int)⊕((Wld×Wld))) := bif decide (x3<x0.threads) then match Zog () with
 | some y1 => bif fewB (x2.t.length+(y1::[]).length) then some (Sum.inl (x0,x1,{ x2 with t:=x2.t++y1::[] },Zaf .i64 (x3+1))) else none
 | none=>none else some (Sum.inr (x1,x2))
def Zh0 (x:Config×Wld×Wld×Int):Option ((Config×Wld×Wld×Int)⊕((Wld×Wld))):=Zf4 x.1 x.2.1 x.2.2.1 x.2.2.2
def ZpW (x:Config×Wld×Wld×Int):Option (Wld×Wld):=Zay Zh0 x
def Zoc (x0:Config) (x1:List Int):Option (Wld×Int) := match Zdc x0 with
 | some y1 => bif y1 != 0 then some ((Wld.mk (Config.mk 0 0 0 0 0 0 0 0 false 0 0 0) (Memo.mk ([]:List Int) ([]:List (List Entry))) ([]:List Thread) 0 0 (Tape.mk ([]:List Int) 0) ([]:List Mark) ([]:List Event),y1)) else match ZkO x0 with
  | some y2 => bif fewB ((0:Nat)+x1.length) then match ZpW (x0,Wld.mk (Config.mk 0 0 0 0 0 0 0 0 false 0 0 0) (Memo.mk ([]:List Int) ([]:List (List Entry))) ([]:List Thread) 0 0 (Tape.mk ([]:List Int) 0) ([]:List Mark) ([]:List Event),Wld.mk x0 y2 ([]:List Thread) 0 0 (Tape.mk x1 0) ([]:List Mark) ([]:List Event),0) with
   | some y3 => some ((y3.snd,0))
   | none=>none else none
  | none=>none
 | none=>none
def Zn2 (x:Config×(List Int)):Option (Wld×Int):=Zoc x.1 x.2
def Zk4 (x0:Config) (x1:SEntry):Option Int := bif decide (x1.kind<1) then some (90) else bif decide (x1.kind>3) then some (90) else bif x1.kind == 3 then some (0) else bif decide (x1.t<0) then some (91) else bif decide (x1.t>=x0.threads) then some (91) else bif x1.kind == 2 then some (0) else bif decide (x1.item<0) then some (92) else bif decide (x1.item>=x0.items) then some (92) else match Zkk (x1.op,x0.bounded) with
 | some y1 => bif !y1 then some (93) else some (0)
 | none=>none
def ZhW (x:Config×SEntry):Option Int:=Zk4 x.1 x.2
def ZiB (x0:Thread):Option Bool :=
 some (x0.phase != 0)
def ZeE (x:Thread):Option Bool:=ZiB x
def Zne (x0:Wld) (x1:Event):Option Wld := bif fewB ((0:Nat)+x0.hist.length) then bif fewB (x0.hist.length+({ x1 with step:=x0.steps }::[]).length) then some ({ x0 with hist:=x0.hist++{ x1 with step:=x0.steps }::[] }) else none else none
def ZgG (x:Wld×Event):Option Wld:=Zne x.1 x.2
def ZjL (x0:Wld) (x1:Int) (x2:Thread):Option Wld := bif fewB ((0:Nat)+x0.t.length) then bif decide (0<=x1) then bif decide (x1<(↑x0.t.length:Int)) then some ({ x0 with t:=x0.t.set x1.toNat x2 }) else none else none else none
def ZgW (x:Wld×Int×Thread):Option Wld:=ZjL x.1 x.2.1 x.2.2
def Zt0 (x0:Int) (x1:Int) (x2:Int) (x3:Int):Option ((Int×Int×Int×Int)⊕((Int×Int))) := bif decide (x3<x0) then some (Sum.inl (x0,x1,Zaf .i64 (2*x2),Zaf .i64 (x3+1))) else some (Sum.inr (x1,x2))
def Zkh (x:Int×Int×Int×Int):Option ((Int×Int×Int×Int)⊕((Int×Int))):=Zt0 x.1 x.2.1 x.2.2.1 x.2.2.2
def ZtZ (x:Int×Int×Int×Int):Option (Int×Int):=Zay Zkh x
def ZlW (x0:Int) (x1:Int):Option Int := bif decide (x0<1) then some (0) else match ZtZ (x0,x1,1,1) with
 | some y1 => bif decide (y1.snd=0) then none else some (Zaf .i64 (y1.snd+(Zaf .i64 (Int.tdiv y1.fst 2)).tmod y1.snd))
 | none=>none
def Zmn (x:Int×Int):Option Int:=ZlW x.1 x.2
def ZkL (x0:Config) (x1:Int) (x2:Thread) (x3:Int) (x4:Op) (x5:Int):Option Thread := match Zmn (x0.depth,x1) with
 | some y1 => bif decide (x0.wait>0) then some (Thread.mk 1 x3 x4 (Entry.mk x1 x4::[]) ([]:List Kid) ([]:List Int) 0 y1 0 0 0 x2.width 0 0 0 (Zaf .i64 (x5+x0.wait))) else some (Thread.mk 1 x3 x4 (Entry.mk x1 x4::[]) ([]:List Kid) ([]:List Int) 0 y1 0 0 0 x2.width 0 0 0 0)
 | none=>none
def Zlk (x:Config×Int×Thread×Int×Op×Int):Option Thread:=ZkL x.1 x.2.1 x.2.2.1 x.2.2.2.1 x.2.2.2.2.1 x.2.2.2.2.2
def ZkX (x0:Turn):Option Turn := bif x0.c.backend == 2 then bif decide (x0.c.depth>0) then bif x0.c.backend == 3 then bif decide (x0.c.layers>0) then some ({ x0 with th:={ x0.th with phase:=17,layer:=1 } }) else some ({ x0 with th:={ x0.th with phase:=4 } }) else some ({ x0 with th:={ x0.th with phase:=4 } }) else bif x0.c.backend == 3 then bif decide (x0.c.layers>0) then some ({ x0 with th:={ x0.th with phase:=17,layer:=1 } }) else some ({ x0 with th:={ x0.th with phase:=2 } }) else some ({ x0 with th:={ x0.th with phase:=2 } }) else bif x0.c.backend == 3 then bif decide (x0.c.layers>0) then some ({ x0 with th:={ x0.th with phase:=17,layer:=1 } }) else some ({ x0 with th:={ x0.th with phase:=2 } }) else some ({ x0 with th:={ x0.th with phase:=2 } })
def ZkM (x:Turn):Option Turn:=ZkX x
def ZgQ (x0:Memo) (x1:Int):Option (Int×Int) := bif decide (x1<0) then some ((0,30)) else bif decide (x1>=(↑x0.words.length:Int)) then some ((0,30)) else bif decide (0<=x1) then bif decide (x1<(↑x0.words.length:Int)) then some ((x0.words.getD x1.toNat 0,0)) else none else none
def Zbq (x:Memo×Int):Option (Int×Int):=ZgQ x.1 x.2
def Znh:Option Int :=
 some (5)
def ZeD (x:Unit):Option Int:=Znh
def ZjP (x0:Config) (x1:Int):Option Int := bif decide (x1<0) then some ((-1:Int)) else bif decide (x1>=x0.threads) then some ((-1:Int)) else match Zb9 x0 with
 | some y1 => some (Zaf .i64 (Zaf .i64 (Zaf .i64 (x0.items*y1)+Zaf .i64 (2*x1))+1))
 | none=>none
def Zfz (x:Config×Int):Option Int:=ZjP x.1 x.2
def ZjI (x0:Turn):Option Turn := bif decide (x0.th.at_>=0) then bif decide (x0.th.at_<(↑x0.th.kids.length:Int)) then some ({ x0 with th:={ x0.th with phase:=15 } }) else some ({ x0 with th:={ x0.th with phase:=0 },done:=true }) else some ({ x0 with th:={ x0.th with phase:=0 },done:=true })
def Zdm (x:Turn):Option Turn:=ZjI x
def ZfX (x0:List Entry) (x1:Int) (x2:Int) (x3:Int) (x4:Int):Option (((List Entry)×Int×Int×Int×Int)⊕((Int))) := bif decide (x4<(↑x0.length:Int)) then bif decide (0<=x4) then bif decide (x4<(↑x0.length:Int)) then match ZcH ((x0.getD x4.toNat Zce).op,x1,x2,x3) with
 | some y1 => some (Sum.inl (x0,y1.fst,x2,x3,Zaf .i64 (x4+1)))
 | none=>none else none else none else some (Sum.inr x1)
def ZhS (x:(List Entry)×Int×Int×Int×Int):Option (((List Entry)×Int×Int×Int×Int)⊕((Int))):=ZfX x.1 x.2.1 x.2.2.1 x.2.2.2.1 x.2.2.2.2
def Zln (x:(List Entry)×Int×Int×Int×Int):Option Int:=Zay ZhS x
def Zn7 (x0:List Entry) (x1:Int) (x2:Int) (x3:Int):Option Int := match Zln (x0,x1,x2,x3,0) with
 | some y1 => some y1
 | none=>none
def Zeg (x:(List Entry)×Int×Int×Int):Option Int:=Zn7 x.1 x.2.1 x.2.2.1 x.2.2.2
def ZjM (x0:List Entry) (x1:Int) (x2:List Entry) (x3:Int):Option (((List Entry)×Int×(List Entry)×Int)⊕(((List Entry)))) := bif decide (x3<(↑x0.length:Int)) then bif decide (x3<x1) then bif decide (0<=x3) then bif decide (x3<(↑x0.length:Int)) then bif fewB (x2.length+(x0.getD x3.toNat Zce::[]).length) then some (Sum.inl (x0,x1,x2++x0.getD x3.toNat Zce::[],Zaf .i64 (x3+1))) else none else none else none else some (Sum.inr x2) else some (Sum.inr x2)
def Zfj (x:(List Entry)×Int×(List Entry)×Int):Option (((List Entry)×Int×(List Entry)×Int)⊕(((List Entry)))):=ZjM x.1 x.2.1 x.2.2.1 x.2.2.2
def Zo1 (x:(List Entry)×Int×(List Entry)×Int):Option (((List Entry))):=Zay Zfj x
def ZlZ (x0:List Entry) (x1:Int):Option (List Entry) := match Zo1 (x0,x1,([]:List Entry),0) with
 | some y1 => some y1
 | none=>none
def ZgH (x:(List Entry)×Int):Option (List Entry):=ZlZ x.1 x.2
def Zm3 (x0:Turn):Option Turn := bif decide (0<=x0.th.at_) then bif decide (x0.th.at_<(↑x0.th.kids.length:Int)) then bif x0.th.phase == 15 then match Zfz (x0.c,(x0.th.kids.getD x0.th.at_.toNat dKid).t) with
 | some y1 => match ZgH (x0.th.batch,(x0.th.kids.getD x0.th.at_.toNat dKid).ahead) with
  | some y2 => match Zeg (y2,x0.th.x,x0.c.lo,x0.c.hi) with
   | some y3 => match Zbn (x0.m,y1,y3) with
    | some y4 => bif y4.snd == 0 then some ({ x0 with m:=y4.fst,th:={ x0.th with phase:=16 } }) else some (x0)
    | none=>none
   | none=>none
  | none=>none
 | none=>none else match Zcq (x0.c,(x0.th.kids.getD x0.th.at_.toNat dKid).t) with
 | some y1 => match ZeD () with
  | some y2 => match Zbn (x0.m,y1,y2) with
   | some y3 => bif y3.snd != 0 then some (x0) else match Zdm { x0 with m:=y3.fst,th:={ x0.th with at_:=Zaf .i64 (x0.th.at_+1) } } with
     | some y4 => some y4
     | none=>none
   | none=>none
  | none=>none
 | none=>none else none else none
def Zgo (x:Turn):Option Turn:=Zm3 x
def Zm0 (x0:Turn):Option (Turn×Bool) := bif x0.th.phase == 13 then match Zcq (x0.c,x0.t) with
 | some y1 => match Zbq (x0.m,y1) with
  | some y2 => bif y2.snd == 0 then match ZeD () with
    | some y3 => bif y2.fst == y3 then some (({ x0 with th:={ x0.th with phase:=14 } },true)) else some ((x0,true))
    | none=>none else some ((x0,true))
  | none=>none
 | none=>none else bif x0.th.phase == 14 then match Zfz (x0.c,x0.t) with
  | some y1 => match Zbq (x0.m,y1) with
   | some y2 => bif y2.snd != 0 then some ((x0,true)) else match Zdm { x0 with th:={ x0.th with at_:=0,x:=y2.fst } } with
     | some y3 => some ((y3,true))
     | none=>none
   | none=>none
  | none=>none else bif x0.th.phase == 15 then bif x0.th.phase == 15 then bif decide (x0.th.at_<0) then some ((x0,true)) else bif decide (x0.th.at_>=(↑x0.th.kids.length:Int)) then some ((x0,true)) else match Zgo x0 with
      | some y1 => some ((y1,true))
      | none=>none else some ((x0,false)) else bif x0.th.phase == 16 then bif decide (x0.th.at_<0) then some ((x0,true)) else bif decide (x0.th.at_>=(↑x0.th.kids.length:Int)) then some ((x0,true)) else match Zgo x0 with
      | some y1 => some ((y1,true))
      | none=>none else some ((x0,false))
def Zm1 (x:Turn):Option (Turn×Bool):=Zm0 x
def Zia (x0:List Entry) (x1:Int) (x2:Int) (x3:Int) (x4:List Int) (x5:Int):Option (((List Entry)×Int×Int×Int×(List Int)×Int)⊕(((List Int)))) := bif decide (x5<(↑x0.length:Int)) then match ZgH (x0,x5) with
 | some y1 => match Zeg (y1,x1,x2,x3) with
  | some y2 => bif fewB (x4.length+(y2::[]).length) then some (Sum.inl (x0,x1,x2,x3,x4++y2::[],Zaf .i64 (x5+1))) else none
  | none=>none
 | none=>none else some (Sum.inr x4)
def ZeB (x:(List Entry)×Int×Int×Int×(List Int)×Int):Option (((List Entry)×Int×Int×Int×(List Int)×Int)⊕(((List Int)))):=Zia x.1 x.2.1 x.2.2.1 x.2.2.2.1 x.2.2.2.2.1 x.2.2.2.2.2
def ZmF (x:(List Entry)×Int×Int×Int×(List Int)×Int):Option (((List Int))):=Zay ZeB x
def Zjs (x0:List Entry) (x1:Int) (x2:Int) (x3:Int):Option (List Int) := match ZmF (x0,x1,x2,x3,([]:List Int),0) with
 | some y1 => some y1
 | none=>none
def ZjE (x:(List Entry)×Int×Int×Int):Option (List Int):=Zjs x.1 x.2.1 x.2.2.1 x.2.2.2
def Zeo (x0:Int) (x1:Turn) (x2:Turn) (x3:List Int) (x4:List Mark) (x5:Int):Option ((Int×Turn×Turn×(List Int)×(List Mark)×Int)⊕((Int×Turn×Turn×(List Mark)))) := bif decide (x5<(↑x1.th.batch.length:Int)) then bif decide (0<=x5) then bif decide (x5<(↑x1.th.batch.length:Int)) then bif decide (0<=x5) then bif decide (x5<(↑x1.th.batch.length:Int)) then bif decide (0<=x5) then bif decide (x5<(↑x3.length:Int)) then bif fewB (x4.length+(Mark.mk (x1.th.batch.getD x5.toNat Zce).t x1.th.item (x1.th.batch.getD x5.toNat Zce).op (x3.getD x5.toNat 0) 0::[]).length) then some (Sum.inl (x0,x1,x2,x3,x4++Mark.mk (x1.th.batch.getD x5.toNat Zce).t x1.th.item (x1.th.batch.getD x5.toNat Zce).op (x3.getD x5.toNat 0) 0::[],Zaf .i64 (x5+1))) else none else none else none else none else none else none else none else some (Sum.inr (x0,x1,x2,x4))
def ZeJ (x:Int×Turn×Turn×(List Int)×(List Mark)×Int):Option ((Int×Turn×Turn×(List Int)×(List Mark)×Int)⊕((Int×Turn×Turn×(List Mark)))):=Zeo x.1 x.2.1 x.2.2.1 x.2.2.2.1 x.2.2.2.2.1 x.2.2.2.2.2
def Zl8 (x:Int×Turn×Turn×(List Int)×(List Mark)×Int):Option ((Int×Turn×Turn×(List Mark))):=Zay ZeJ x
def Zjy (x0:Turn) (x1:Int):Option Turn := match ZjE (x0.th.batch,x1,x0.c.lo,x0.c.hi) with
 | some y1 => bif fewB ((0:Nat)+x0.log.length) then match Zl8 (x1,x0,Turn.mk (Config.mk 0 0 0 0 0 0 0 0 false 0 0 0) 0 0 (Memo.mk ([]:List Int) ([]:List (List Entry))) (Thread.mk 0 0 (Op.mk 0 0) ([]:List Entry) ([]:List Kid) ([]:List Int) 0 0 0 0 0 0 0 0 0 0) (Tape.mk ([]:List Int) 0) ([]:List Mark) false,y1,x0.log,0) with
  | some y2 => match Zdm { y2.snd.fst with th:={ y2.snd.fst.th with at_:=0,x:=y2.fst },log:=y2.snd.snd.snd } with
   | some y3 => some y3
   | none=>none
  | none=>none else none
 | none=>none
def Zek (x:Turn×Int):Option Turn:=Zjy x.1 x.2
def ZmL (x0:Turn):Option Bool := bif decide (x0.th.until_>0) then some (decide (x0.now>=x0.th.until_)) else some (false)
def Zen (x:Turn):Option Bool:=ZmL x
def Zjt (x0:Turn):Option Turn := bif decide (x0.th.layer<x0.c.layers) then match Zen x0 with
 | some y1 => bif !y1 then some ({ x0 with th:={ x0.th with phase:=17,layer:=Zaf .i64 (x0.th.layer+1) } }) else some ({ x0 with th:={ x0.th with phase:=2 } })
 | none=>none else some ({ x0 with th:={ x0.th with phase:=2 } })
def Zeh (x:Turn):Option Turn:=Zjt x
def ZhI (x0:Memo) (x1:Int) (x2:Int) (x3:Int):Option (Memo×Bool×Int) := match Zbq (x0,x1) with
 | some y1 => bif y1.snd != 0 then some ((x0,false,y1.snd)) else bif y1.fst != x2 then some ((x0,false,y1.snd)) else match Zbn (x0,x1,x3) with
  | some y2 => some ((y2.fst,true,0))
  | none=>none
 | none=>none
def ZcT (x:Memo×Int×Int×Int):Option (Memo×Bool×Int):=ZhI x.1 x.2.1 x.2.2.1 x.2.2.2
def Zli (x0:Int) (x1:Int):Option Int := bif decide (x0>x1) then some (x1) else some (if x1<Zaf .i64 (2*x0) then x1 else Zaf .i64 (2*x0))
def ZhV (x:Int×Int):Option Int:=Zli x.1 x.2
def Zl0 (x0:Turn):Option (Turn×Bool) := match ZdC (x0.c,x0.th.item) with
 | some y1 => bif x0.th.phase == 2 then bif x0.th.phase == 2 then match Zbq (x0.m,y1) with
  | some y2 => bif y2.snd != 0 then some ((x0,true)) else match Zeg (x0.th.batch,y2.fst,x0.c.lo,x0.c.hi) with
    | some y3 => bif y3 == y2.fst then match Zek (x0,y2.fst) with
     | some y4 => some ((y4,true))
     | none=>none else bif x0.th.phase == 25 then match Zeh x0 with
      | some y4 => some ((y4,true))
      | none=>none else some (({ x0 with th:={ x0.th with phase:=3,x:=y2.fst,y:=y3 } },true))
    | none=>none
  | none=>none else bif x0.th.phase == 3 then match ZcT (x0.m,y1,x0.th.x,x0.th.y) with
   | some y2 => bif y2.snd.snd != 0 then some ((x0,true)) else bif y2.snd.fst then match Zek ({ x0 with m:=y2.fst },x0.th.x) with
     | some y3 => some ((y3,true))
     | none=>none else match ZhV (x0.th.width,x0.c.width) with
     | some y3 => some (({ x0 with m:=y2.fst,th:={ x0.th with phase:=2,width:=y3 } },true))
     | none=>none
   | none=>none else some ((x0,false)) else bif x0.th.phase == 25 then match Zbq (x0.m,y1) with
  | some y2 => bif y2.snd != 0 then some ((x0,true)) else match Zeg (x0.th.batch,y2.fst,x0.c.lo,x0.c.hi) with
    | some y3 => bif y3 == y2.fst then match Zek (x0,y2.fst) with
     | some y4 => some ((y4,true))
     | none=>none else bif x0.th.phase == 25 then match Zeh x0 with
      | some y4 => some ((y4,true))
      | none=>none else some (({ x0 with th:={ x0.th with phase:=3,x:=y2.fst,y:=y3 } },true))
    | none=>none
  | none=>none else bif x0.th.phase == 3 then match ZcT (x0.m,y1,x0.th.x,x0.th.y) with
   | some y2 => bif y2.snd.snd != 0 then some ((x0,true)) else bif y2.snd.fst then match Zek ({ x0 with m:=y2.fst },x0.th.x) with
     | some y3 => some ((y3,true))
     | none=>none else match ZhV (x0.th.width,x0.c.width) with
     | some y3 => some (({ x0 with m:=y2.fst,th:={ x0.th with phase:=2,width:=y3 } },true))
     | none=>none
   | none=>none else some ((x0,false))
 | none=>none
def ZmR (x:Turn):Option (Turn×Bool):=Zl0 x
def ZkT (x0:Int):Option Int :=
 some (Zaf .i64 (Zaf .i64 (8*Zaf .i64 (x0+1))+1))
def Zdd (x:Int):Option Int:=ZkT x
def ZjC (x0:Int):Option Int :=
 some (Zaf .i64 (Zaf .i64 (8*Zaf .i64 (x0+1))+2))
def Zfg (x:Int):Option Int:=ZjC x
def Zhn (x0:Int):Option Int :=
 some (Zaf .i64 (Zaf .i64 (8*Zaf .i64 (x0+1))+3))
def Zd4 (x:Int):Option Int:=Zhn x
def Zm5 (x0:Int) (x1:Int):Option Int :=
 some (Zaf .i64 (Zaf .i64 (8*Zaf .i64 (Zaf .i64 (Zaf .i64 (16*x0)+x1)+1))+4))
def Zdv (x:Int×Int):Option Int:=Zm5 x.1 x.2
def Zjd (x0:Int) (x1:Int) (x2:Int):Option ((Int×Int×Int)⊕((Int×Int)⊕(Int))) := bif decide (x2<=3) then match Zdv (x1,x2) with
 | some y1 => bif x0 == y1 then some (Sum.inr (Sum.inr 4)) else some (Sum.inl (x0,x1,Zaf .i64 (x2+1)))
 | none=>none else some (Sum.inr (Sum.inl (x0,x1)))
def Ze1 (x:Int×Int×Int):Option ((Int×Int×Int)⊕((Int×Int)⊕(Int))):=Zjd x.1 x.2.1 x.2.2
def Zgk (x:Int×Int×Int):Option ((Int×Int)⊕(Int)):=Zay Ze1 x
def ZiU (x0:Int) (x1:Int):Option ((Int×Int)⊕((Unit)⊕(Int))) := bif decide (x1<4) then match Zgk (x0,x1,1) with
 | some (.inl y1) => some (Sum.inl (y1.fst,Zaf .i64 (y1.snd+1)))
 | some (.inr y2) => some (Sum.inr (Sum.inr y2))
 | none=>none else some (Sum.inr (Sum.inl ()))
def ZeT (x:Int×Int):Option ((Int×Int)⊕((Unit)⊕(Int))):=ZiU x.1 x.2
def Zgi (x:Int×Int):Option ((Unit)⊕(Int)):=Zay ZeT x
def Zj6 (x0:Int) (x1:Int):Option ((Int×Int)⊕((Int)⊕(Int))) := bif decide (x1<16) then match Zdd x1 with
 | some y1 => bif x0 == y1 then some (Sum.inr (Sum.inr 1)) else match Zfg x1 with
  | some y2 => bif x0 == y2 then some (Sum.inr (Sum.inr 2)) else match Zd4 x1 with
   | some y3 => bif x0 == y3 then some (Sum.inr (Sum.inr 3)) else some (Sum.inl (x0,Zaf .i64 (x1+1)))
   | none=>none
  | none=>none
 | none=>none else some (Sum.inr (Sum.inl x0))
def ZfF (x:Int×Int):Option ((Int×Int)⊕((Int)⊕(Int))):=Zj6 x.1 x.2
def ZgX (x:Int×Int):Option ((Int)⊕(Int)):=Zay ZfF x
def ZmK (x0:Int):Option Int := bif x0 == 0 then some (0) else match ZeD () with
 | some y1 => bif x0 == y1 then some (5) else match ZgX (x0,0) with
  | some (.inl y2) => match Zgi (y2,0) with
   | some (.inl y3) => some ((-1:Int))
   | some (.inr y4) => some y4
   | none=>none
  | some (.inr y3) => some y3
  | none=>none
 | none=>none
def ZdH (x:Int):Option Int:=ZmK x
def Zni (x0:Turn):Option Turn := bif decide (x0.th.at_>=0) then bif decide (x0.th.at_<(↑x0.th.held.length:Int)) then some ({ x0 with th:={ x0.th with phase:=7 } }) else bif decide (x0.th.stop>0) then some ({ x0 with th:={ x0.th with phase:=11 } }) else some ({ x0 with th:={ x0.th with phase:=2 } }) else bif decide (x0.th.stop>0) then some ({ x0 with th:={ x0.th with phase:=11 } }) else some ({ x0 with th:={ x0.th with phase:=2 } })
def ZgL (x:Turn):Option Turn:=Zni x
def Zmh (x0:Turn):Option Turn := match ZgL { x0 with th:={ x0.th with at_:=0 } } with
 | some y1 => some y1
 | none=>none
def ZgK (x:Turn):Option Turn:=Zmh x
def ZjX (x0:Int):Option Int := bif decide (x0<2) then some (0) else some (Zaf .i64 (x0.tdiv 2))
def Zj8 (x:Int):Option Int:=ZjX x
def Zmr (x0:Turn):Option (Turn×Bool) := match ZdD (x0.c,x0.th.item,x0.th.node) with
 | some y1 => bif x0.th.phase == 4 then match Zbq (x0.m,y1) with
  | some y2 => bif y2.snd != 0 then some ((x0,true)) else match ZdH y2.fst with
    | some y3 => bif y3 == 0 then some (({ x0 with th:={ x0.th with phase:=5 } },true)) else match ZdH y2.fst with
      | some y4 => bif y4 == 1 then some (({ x0 with th:={ x0.th with phase:=6,x:=y2.fst } },true)) else match Zen x0 with
       | some y5 => bif y5 then match ZgK x0 with
         | some y6 => some ((y6,true))
         | none=>none else some ((x0,true))
       | none=>none
      | none=>none
    | none=>none
  | none=>none else bif x0.th.phase == 5 then match Zdd x0.t with
   | some y2 => match ZcT (x0.m,y1,0,y2) with
    | some y3 => bif y3.snd.snd != 0 then some ((x0,true)) else bif !y3.snd.fst then some (({ x0 with th:={ x0.th with phase:=4 } },true)) else bif fewB ((0:Nat)+x0.th.held.length) then bif fewB (x0.th.held.length+(x0.th.node::[]).length) then match Zj8 x0.th.node with
        | some y4 => bif y4 == 0 then match ZgK { x0 with m:=y3.fst,th:={ x0.th with phase:=4,held:=x0.th.held++x0.th.node::[],node:=y4 } } with
          | some y5 => some ((y5,true))
          | none=>none else some (({ x0 with m:=y3.fst,th:={ x0.th with phase:=4,held:=x0.th.held++x0.th.node::[],node:=y4 } },true))
        | none=>none else none else none
    | none=>none
   | none=>none else bif x0.th.phase == 6 then match Zfg x0.t with
    | some y2 => match ZcT (x0.m,y1,x0.th.x,y2) with
     | some y3 => bif y3.snd.snd != 0 then some ((x0,true)) else bif !y3.snd.fst then some (({ x0 with th:={ x0.th with phase:=4 } },true)) else match ZgK { x0 with m:=y3.fst,th:={ x0.th with phase:=4,stop:=x0.th.node } } with
       | some y4 => some ((y4,true))
       | none=>none
     | none=>none
    | none=>none else some ((x0,false))
 | none=>none
def Zir (x:Turn):Option (Turn×Bool):=Zmr x
def ZlX (x0:Turn):Option Int := bif decide (x0.th.at_<0) then some ((-1:Int)) else bif decide (x0.th.at_>=(↑x0.th.held.length:Int)) then some ((-1:Int)) else bif decide (0<=x0.th.at_) then bif decide (x0.th.at_<(↑x0.th.held.length:Int)) then match ZdD (x0.c,x0.th.item,x0.th.held.getD x0.th.at_.toNat 0) with
 | some y1 => some y1
 | none=>none else none else none
def ZlY (x:Turn):Option Int:=ZlX x
def Zor (x0:Int):Option Int := match ZdH x0 with
 | some y1 => bif decide (y1<1) then some ((-1:Int)) else bif decide (y1>3) then some ((-1:Int)) else some (Zaf .i64 (Zaf .i64 (x0.tdiv 8)-1))
 | none=>none
def Zoz (x:Int):Option Int:=Zor x
def ZmG (x0:Turn):Option Turn := match ZgL { x0 with th:={ x0.th with at_:=Zaf .i64 (x0.th.at_+1) } } with
 | some y1 => some y1
 | none=>none
def Zi1 (x:Turn):Option Turn:=ZmG x
def ZhE (x0:Memo) (x1:Int):Option ((List Entry)×Int) := bif decide (x1<0) then some ((([]:List Entry),30)) else bif decide (x1>=(↑x0.boxes.length:Int)) then some ((([]:List Entry),30)) else bif decide (0<=x1) then bif decide (x1<(↑x0.boxes.length:Int)) then bif fewB ((0:Nat)+List.length (x0.boxes.getD x1.toNat ([]:List Entry))) then some ((x0.boxes.getD x1.toNat ([]:List Entry),0)) else none else none else none
def Zhw (x:Memo×Int):Option ((List Entry)×Int):=ZhE x.1 x.2
def Zg2 (x0:List (List Entry)) (x1:List Entry) (x2:Int):Option (((List (List Entry))×(List Entry)×Int)⊕(((List Entry)))) := bif decide (x2<(↑x0.length:Int)) then bif decide (0<=x2) then bif decide (x2<(↑x0.length:Int)) then bif fewB (x1.length+List.length (x0.getD x2.toNat ([]:List Entry))) then some (Sum.inl (x0,x1++x0.getD x2.toNat ([]:List Entry),Zaf .i64 (x2+1))) else none else none else none else some (Sum.inr x1)
def Zej (x:(List (List Entry))×(List Entry)×Int):Option (((List (List Entry))×(List Entry)×Int)⊕(((List Entry)))):=Zg2 x.1 x.2.1 x.2.2
def ZjQ (x:(List (List Entry))×(List Entry)×Int):Option (((List Entry))):=Zay Zej x
def Zm4 (x0:List (List Entry)):Option (List Entry) := match ZjQ (x0,([]:List Entry),0) with
 | some y1 => some y1
 | none=>none
def Zmj (x:(List (List Entry))):Option (List Entry):=Zm4 x
def Zno (x0:Turn) (x1:Int) (x2:List Entry):Option Turn := bif fewB ((0:Nat)+x0.th.kids.length) then bif fewB (x0.th.kids.length+(Kid.mk x1 (↑x0.th.batch.length:Int)::[]).length) then match Zmj (x0.th.batch::x2::[]) with
 | some y1 => some ({ x0 with th:={ x0.th with batch:=y1,kids:=x0.th.kids++Kid.mk x1 (↑x0.th.batch.length:Int)::[] } })
 | none=>none else none else none
def ZgF (x:Turn×Int×(List Entry)):Option Turn:=Zno x.1 x.2.1 x.2.2
def Zob (x0:Memo) (x1:Int) (x2:List Entry):Option (Memo×Int) := bif decide (x1<0) then some ((x0,30)) else bif decide (x1>=(↑x0.boxes.length:Int)) then some ((x0,30)) else bif fewB ((0:Nat)+x0.boxes.length) then bif fewB ((0:Nat)+x2.length) then bif decide (0<=x1) then bif decide (x1<(↑x0.boxes.length:Int)) then some (({ x0 with boxes:=x0.boxes.set x1.toNat x2 },0)) else none else none else none else none
def Zhq (x:Memo×Int×(List Entry)):Option (Memo×Int):=Zob x.1 x.2.1 x.2.2
def ZmT (x0:Turn):Option (Turn×Bool) := match ZlY x0 with
 | some y1 => bif x0.th.phase == 7 then match Zbq (x0.m,y1) with
  | some y2 => bif y2.snd != 0 then some ((x0,true)) else match Zdd x0.t with
    | some y3 => bif y2.fst == y3 then some (({ x0 with th:={ x0.th with phase:=8 } },true)) else match ZdH y2.fst with
      | some y4 => bif y4 == 3 then match Zoz y2.fst with
        | some y5 => some (({ x0 with th:={ x0.th with phase:=9,who:=y5 } },true))
        | none=>none else some ((x0,true))
      | none=>none
    | none=>none
  | none=>none else bif x0.th.phase == 8 then match Zdd x0.t with
   | some y2 => match ZcT (x0.m,y1,y2,0) with
    | some y3 => bif y3.snd.snd != 0 then some ((x0,true)) else bif y3.snd.fst then match Zi1 { x0 with m:=y3.fst } with
       | some y4 => some ((y4,true))
       | none=>none else some (({ x0 with m:=y3.fst,th:={ x0.th with phase:=7 } },true))
    | none=>none
   | none=>none else bif x0.th.phase == 9 then match Zhw (x0.m,x0.th.who) with
    | some y2 => bif y2.snd != 0 then some ((x0,true)) else match ZgF (x0,x0.th.who,y2.fst) with
      | some y3 => some (({ y3 with th:={ y3.th with phase:=10 } },true))
      | none=>none
    | none=>none else bif x0.th.phase == 10 then match Zbn (x0.m,y1,0) with
     | some y2 => bif y2.snd != 0 then some ((x0,true)) else match Zi1 { x0 with m:=y2.fst } with
       | some y3 => some ((y3,true))
       | none=>none
     | none=>none else bif x0.th.phase == 11 then match Zhq (x0.m,x0.t,x0.th.batch) with
      | some y2 => bif y2.snd != 0 then some ((x0,true)) else some (({ x0 with m:=y2.fst,th:={ x0.th with phase:=12 } },true))
      | none=>none else bif x0.th.phase == 12 then match ZdD (x0.c,x0.th.item,x0.th.stop) with
       | some y2 => match Zd4 x0.t with
        | some y3 => match Zbn (x0.m,y2,y3) with
         | some y4 => bif y4.snd != 0 then some ((x0,true)) else some (({ x0 with m:=y4.fst,th:={ x0.th with phase:=13 } },true))
         | none=>none
        | none=>none
       | none=>none else some ((x0,false))
 | none=>none
def Zfx (x:Turn):Option (Turn×Bool):=ZmT x
def ZoS (x0:Turn) (x1:Int):Option Turn := match Zcq (x0.c,x0.t) with
 | some y1 => match Zdv (x0.th.item,x0.th.layer) with
  | some y2 => match Zbn (x0.m,y1,y2) with
   | some y3 => bif y3.snd != 0 then some (x0) else bif x1 == 23 then some ({ x0 with m:=y3.fst,th:={ x0.th with phase:=x1,left:=x0.c.spin } }) else some ({ x0 with m:=y3.fst,th:={ x0.th with phase:=x1 } })
   | none=>none
  | none=>none
 | none=>none
def ZgY (x:Turn×Int):Option Turn:=ZoS x.1 x.2
def Zmk (x0:Tape):Option (Int×Tape) := bif decide (x0.at_<0) then some ((0,x0)) else bif decide (x0.at_>=(↑x0.l.length:Int)) then some ((0,x0)) else bif decide (0<=x0.at_) then bif decide (x0.at_<(↑x0.l.length:Int)) then some ((x0.l.getD x0.at_.toNat 0,{ x0 with at_:=Zaf .i64 (x0.at_+1) })) else none else none
def ZmY (x:Tape):Option (Int×Tape):=Zmk x
def ZkI (x0:Tape) (x1:Int):Option (Int×Tape) := bif decide (x1<1) then some ((0,x0)) else match ZmY x0 with
 | some y1 => bif decide (x1=0) then none else bif decide (Int.tmod y1.fst x1<0) then some ((Zaf .i64 (Int.tmod y1.fst x1+x1),y1.snd)) else some ((Int.tmod y1.fst x1,y1.snd))
 | none=>none
def Zk2 (x:Tape×Int):Option (Int×Tape):=ZkI x.1 x.2
def ZgE (x0:Memo) (x1:Int) (x2:Int):Option (Memo×Int×Int) := match Zbq (x0,x1) with
 | some y1 => match Zbn (x0,x1,x2) with
  | some y2 => some ((y2.fst,y1))
  | none=>none
 | none=>none
def Zml (x:Memo×Int×Int):Option (Memo×Int×Int):=ZgE x.1 x.2.1 x.2.2
def Znf (x0:Config) (x1:Int) (x2:Int) (x3:Int):Option Int := bif decide (x1<0) then some ((-1:Int)) else bif decide (x1>=x0.items) then some ((-1:Int)) else bif decide (x2<1) then some ((-1:Int)) else bif decide (x2>x0.layers) then some ((-1:Int)) else bif decide (x3<0) then some ((-1:Int)) else bif decide (x3>=x0.width) then some ((-1:Int)) else match Zb9 x0 with
 | some y1 => match Zdf x0 with
  | some y2 => some (Zaf .i64 (Zaf .i64 (Zaf .i64 (Zaf .i64 (Zaf .i64 (x1*y1)+1)+y2)+Zaf .i64 (Zaf .i64 (x2-1)*x0.width))+x3))
  | none=>none
 | none=>none
def Znn (x:Config×Int×Int×Int):Option Int:=Znf x.1 x.2.1 x.2.2.1 x.2.2.2
def Zq0 (x0:Turn):Option Turn := match Zk2 (x0.tape,x0.th.width) with
 | some y1 => match Znn (x0.c,x0.th.item,x0.th.layer,y1.fst) with
  | some y2 => match Zml (x0.m,y2,Zaf .i64 (x0.t+1)) with
   | some y3 => bif y3.snd.snd != 0 then some (x0) else bif decide (y3.snd.fst>=1) then bif decide (y3.snd.fst<=x0.c.threads) then bif y3.snd.fst != Zaf .i64 (x0.t+1) then some ({ x0 with m:=y3.fst,th:={ x0.th with phase:=20,who:=Zaf .i64 (y3.snd.fst-1) },tape:=y1.snd }) else some ({ x0 with m:=y3.fst,th:={ x0.th with phase:=23,left:=x0.c.spin },tape:=y1.snd }) else some ({ x0 with m:=y3.fst,th:={ x0.th with phase:=23,left:=x0.c.spin },tape:=y1.snd }) else some ({ x0 with m:=y3.fst,th:={ x0.th with phase:=23,left:=x0.c.spin },tape:=y1.snd })
   | none=>none
  | none=>none
 | none=>none
def Znm (x:Turn):Option Turn:=Zq0 x
def Zig (x0:Turn) (x1:Int) (x2:Int) (x3:Int):Option Turn := match Zcq (x0.c,x1) with
 | some y1 => match Zdv (x0.th.item,x0.th.layer) with
  | some y2 => match ZcT (x0.m,y1,y2,0) with
   | some y3 => bif y3.snd.snd != 0 then some (x0) else bif y3.snd.fst then some ({ x0 with m:=y3.fst,th:={ x0.th with phase:=x2 } }) else some ({ x0 with m:=y3.fst,th:={ x0.th with phase:=x3 } })
   | none=>none
  | none=>none
 | none=>none
def ZeH (x:Turn×Int×Int×Int):Option Turn:=Zig x.1 x.2.1 x.2.2.1 x.2.2.2
def ZqQ (x0:Turn):Option Turn := match Zcq (x0.c,x0.t) with
 | some y1 => match Zbq (x0.m,y1) with
  | some y2 => bif y2.snd != 0 then some (x0) else match Zdv (x0.th.item,x0.th.layer) with
   | some y3 => bif y2.fst != y3 then some ({ x0 with th:={ x0.th with phase:=13 } }) else bif decide (x0.th.left<1) then some ({ x0 with th:={ x0.th with phase:=26 } }) else match Zen x0 with
    | some y4 => bif y4 then some ({ x0 with th:={ x0.th with phase:=26 } }) else some ({ x0 with th:={ x0.th with left:=Zaf .i64 (x0.th.left-1) } })
    | none=>none
   | none=>none
  | none=>none
 | none=>none
def Zmd (x:Turn):Option Turn:=ZqQ x
def ZmQ (x0:Int):Option Int := bif decide (x0<0) then some ((-1:Int)) else some (Zaf .i64 (x0.tdiv 2))
def Zmc (x:Int):Option Int:=ZmQ x
def Zgs (x0:Turn):Option (Turn×Bool) := bif x0.th.phase == 17 then match Zhq (x0.m,x0.t,x0.th.batch) with
 | some y1 => bif y1.snd == 0 then some (({ x0 with m:=y1.fst,th:={ x0.th with phase:=18 } },true)) else some ((x0,true))
 | none=>none else bif x0.th.phase == 18 then match ZgY (x0,19) with
  | some y1 => some ((y1,true))
  | none=>none else bif x0.th.phase == 19 then match Znm x0 with
   | some y1 => some ((y1,true))
   | none=>none else bif x0.th.phase == 20 then match ZeH (x0,x0.t,21,13) with
    | some y1 => some ((y1,true))
    | none=>none else bif x0.th.phase == 21 then match ZeH (x0,x0.th.who,22,24) with
     | some y1 => some ((y1,true))
     | none=>none else bif x0.th.phase == 22 then match Zhw (x0.m,x0.th.who) with
      | some y1 => bif y1.snd == 0 then match ZgF (x0,x0.th.who,y1.fst) with
        | some y2 => some (({ y2 with th:={ y2.th with phase:=25 } },true))
        | none=>none else some ((x0,true))
      | none=>none else bif x0.th.phase == 23 then match Zmd x0 with
       | some y1 => some ((y1,true))
       | none=>none else bif x0.th.phase == 24 then match ZgY (x0,23) with
        | some y1 => some ((y1,true))
        | none=>none else bif x0.th.phase == 26 then match ZeH (x0,x0.t,2,13) with
         | some y1 => bif y1.th.phase == 2 then match Zmc y1.th.width with
          | some y2 => match Zeh { y1 with th:={ y1.th with width:=if y2>1 then y2 else 1 } } with
           | some y3 => some ((y3,true))
           | none=>none
          | none=>none else some ((y1,true))
         | none=>none else some ((x0,false))
def ZcS (x:Turn):Option (Turn×Bool):=Zgs x
def ZiF (x0:Turn):Option Turn := bif x0.th.phase == 0 then some (x0) else bif x0.th.phase == 1 then match Zcq (x0.c,x0.t) with
 | some y1 => match Zbn (x0.m,y1,0) with
  | some y2 => bif y2.snd != 0 then some ({ x0 with log:=([]:List Mark),done:=false }) else match ZkM { x0 with m:=y2.fst,log:=([]:List Mark),done:=false } with
    | some y3 => some y3
    | none=>none
  | none=>none
 | none=>none else match Zm1 { x0 with log:=([]:List Mark),done:=false } with
 | some y1 => bif !y1.snd then match ZmR { x0 with log:=([]:List Mark),done:=false } with
   | some y2 => bif !y2.snd then match Zir { x0 with log:=([]:List Mark),done:=false } with
     | some y3 => bif !y3.snd then match Zfx { x0 with log:=([]:List Mark),done:=false } with
       | some y4 => bif !y4.snd then match ZcS { x0 with log:=([]:List Mark),done:=false } with
         | some y5 => some (y5.fst)
         | none=>none else some (y4.fst)
       | none=>none else bif !y3.snd then match ZcS { x0 with log:=([]:List Mark),done:=false } with
        | some y4 => some (y4.fst)
        | none=>none else some (y3.fst)
     | none=>none else bif !y2.snd then match Zfx { x0 with log:=([]:List Mark),done:=false } with
      | some y3 => bif !y3.snd then match ZcS { x0 with log:=([]:List Mark),done:=false } with
        | some y4 => some (y4.fst)
        | none=>none else some (y3.fst)
      | none=>none else bif !y2.snd then match ZcS { x0 with log:=([]:List Mark),done:=false } with
       | some y3 => some (y3.fst)
       | none=>none else some (y2.fst)
   | none=>none else bif !y1.snd then match Zir { x0 with log:=([]:List Mark),done:=false } with
    | some y2 => bif !y2.snd then match Zfx { x0 with log:=([]:List Mark),done:=false } with
      | some y3 => bif !y3.snd then match ZcS { x0 with log:=([]:List Mark),done:=false } with
        | some y4 => some (y4.fst)
        | none=>none else some (y3.fst)
      | none=>none else bif !y2.snd then match ZcS { x0 with log:=([]:List Mark),done:=false } with
       | some y3 => some (y3.fst)
       | none=>none else some (y2.fst)
    | none=>none else bif !y1.snd then match Zfx { x0 with log:=([]:List Mark),done:=false } with
     | some y2 => bif !y2.snd then match ZcS { x0 with log:=([]:List Mark),done:=false } with
       | some y3 => some (y3.fst)
       | none=>none else some (y2.fst)
     | none=>none else bif !y1.snd then match ZcS { x0 with log:=([]:List Mark),done:=false } with
      | some y2 => some (y2.fst)
      | none=>none else some (y1.fst)
 | none=>none
def Zl7 (x:Turn):Option Turn:=ZiF x
def Zfy (x0:Int) (x1:Wld) (x2:Wld) (x3:Turn) (x4:List Mark) (x5:Int):Option ((Int×Wld×Wld×Turn×(List Mark)×Int)⊕((Int×Wld×Wld×Turn×(List Mark)))) := bif decide (x5<(↑x3.log.length:Int)) then bif decide (0<=x5) then bif decide (x5<(↑x3.log.length:Int)) then bif fewB (x4.length+({ x3.log.getD x5.toNat Za4 with step:=x1.steps }::[]).length) then some (Sum.inl (x0,x1,x2,x3,x4++{ x3.log.getD x5.toNat Za4 with step:=x1.steps }::[],Zaf .i64 (x5+1))) else none else none else none else some (Sum.inr (x0,x1,x2,x3,x4))
def Zhe (x:Int×Wld×Wld×Turn×(List Mark)×Int):Option ((Int×Wld×Wld×Turn×(List Mark)×Int)⊕((Int×Wld×Wld×Turn×(List Mark)))):=Zfy x.1 x.2.1 x.2.2.1 x.2.2.2.1 x.2.2.2.2.1 x.2.2.2.2.2
def ZoB (x:Int×Wld×Wld×Turn×(List Mark)×Int):Option ((Int×Wld×Wld×Turn×(List Mark))):=Zay Zhe x
def Zmv (x0:Wld) (x1:Int):Option Wld := bif decide (0<=x1) then bif decide (x1<(↑x0.t.length:Int)) then match Zl7 (Turn.mk x0.c x1 x0.now x0.m (x0.t.getD x1.toNat Zaw) x0.tape ([]:List Mark) false) with
 | some y1 => match ZgW ({ x0 with steps:=Zaf .i64 (x0.steps+1) },x1,y1.th) with
  | some y2 => bif fewB ((0:Nat)+y2.log.length) then match ZoB (x1,{ y2 with m:=y1.m,tape:=y1.tape },Wld.mk (Config.mk 0 0 0 0 0 0 0 0 false 0 0 0) (Memo.mk ([]:List Int) ([]:List (List Entry))) ([]:List Thread) 0 0 (Tape.mk ([]:List Int) 0) ([]:List Mark) ([]:List Event),y1,y2.log,0) with
   | some y3 => bif !y3.snd.snd.snd.fst.done then some ({ y3.snd.fst with log:=y3.snd.snd.snd.snd }) else match ZcH (y3.snd.snd.snd.fst.th.op,y3.snd.snd.snd.fst.th.x,y3.snd.fst.c.lo,y3.snd.fst.c.hi) with
    | some y4 => match ZgG ({ y3.snd.fst with log:=y3.snd.snd.snd.snd },Event.mk 2 y3.fst y3.snd.snd.snd.fst.th.item y3.snd.snd.snd.fst.th.op y3.snd.snd.snd.fst.th.x y4.snd 0) with
     | some y5 => some y5
     | none=>none
    | none=>none
   | none=>none else none
  | none=>none
 | none=>none else none else none
def Zl2 (x:Wld×Int):Option Wld:=Zmv x.1 x.2
def Zmq (x0:Wld) (x1:SEntry):Option (Wld×Int) := match ZhW (x0.c,x1) with
 | some y1 => bif y1 != 0 then some ((x0,y1)) else bif x1.kind == 3 then some (({ x0 with now:=Zaf .i64 (x0.now+1) },0)) else bif decide (0<=x1.t) then bif decide (x1.t<(↑x0.t.length:Int)) then bif x1.kind == 1 then match ZeE (x0.t.getD x1.t.toNat Zaw) with
  | some y2 => bif y2 then match ZgG (x0,Event.mk 3 x1.t x1.item x1.op 0 false 0) with
   | some y3 => some ((y3,170))
   | none=>none else match Zlk (x0.c,x1.t,x0.t.getD x1.t.toNat Zaw,x1.item,x1.op,x0.now) with
   | some y3 => match ZgW (x0,x1.t,y3) with
    | some y4 => match ZgG (y4,Event.mk 1 x1.t x1.item x1.op 0 false 0) with
     | some y5 => some ((y5,0))
     | none=>none
    | none=>none
   | none=>none
  | none=>none else match ZeE (x0.t.getD x1.t.toNat Zaw) with
  | some y2 => bif !y2 then some ((x0,0)) else match Zl2 (x0,x1.t) with
   | some y3 => some ((y3,0))
   | none=>none
  | none=>none else none else none
 | none=>none
def ZmV (x:Wld×SEntry):Option (Wld×Int):=Zmq x.1 x.2
def ZfT (x0:List SEntry) (x1:Config) (x2:Int):Option (((List SEntry)×Config×Int)⊕((Unit)⊕(Int×Int))) := bif decide (x2<(↑x0.length:Int)) then bif decide (0<=x2) then bif decide (x2<(↑x0.length:Int)) then match ZhW (x1,x0.getD x2.toNat Za6) with
 | some y1 => bif y1 != 0 then some (Sum.inr (Sum.inr (x2,y1))) else some (Sum.inl (x0,x1,Zaf .i64 (x2+1)))
 | none=>none else none else none else some (Sum.inr (Sum.inl ()))
def ZhL (x:(List SEntry)×Config×Int):Option (((List SEntry)×Config×Int)⊕((Unit)⊕(Int×Int))):=ZfT x.1 x.2.1 x.2.2
def Zlj (x:(List SEntry)×Config×Int):Option ((Unit)⊕(Int×Int)):=Zay ZhL x
def Zov (x0:Config) (x1:List SEntry):Option (Int×Int) := match Zdc x0 with
 | some y1 => bif y1 != 0 then some ((0,y1)) else bif decide ((↑x1.length:Int)>65536) then some ((0,2)) else match Zlj (x1,x0,0) with
  | some (.inl y2) => some ((0,0))
  | some (.inr y3) => some y3
  | none=>none
 | none=>none
def Zoe (x:Config×(List SEntry)):Option (Int×Int):=Zov x.1 x.2
def ZfO (x0:List SEntry) (x1:Wld) (x2:Wld) (x3:Int):Option (((List SEntry)×Wld×Wld×Int)⊕((Wld×Wld))) := bif decide (x3<(↑x0.length:Int)) then bif decide (0<=x3) then bif decide (x3<(↑x0.length:Int)) then match ZmV (x2,x0.getD x3.toNat Za6) with
 | some y1 => some (Sum.inl (x0,x1,y1.fst,Zaf .i64 (x3+1)))
 | none=>none else none else none else some (Sum.inr (x1,x2))
def ZhQ (x:(List SEntry)×Wld×Wld×Int):Option (((List SEntry)×Wld×Wld×Int)⊕((Wld×Wld))):=ZfO x.1 x.2.1 x.2.2.1 x.2.2.2
def Zlb (x:(List SEntry)×Wld×Wld×Int):Option (Wld×Wld):=Zay ZhQ x
def Zoh (x0:Config) (x1:List SEntry) (x2:List Int):Option (Wld×Int×Int) := match Zoe (x0,x1) with
 | some y1 => bif y1.snd != 0 then some ((Wld.mk (Config.mk 0 0 0 0 0 0 0 0 false 0 0 0) (Memo.mk ([]:List Int) ([]:List (List Entry))) ([]:List Thread) 0 0 (Tape.mk ([]:List Int) 0) ([]:List Mark) ([]:List Event),y1)) else match Zn2 (x0,x2) with
  | some y2 => match Zlb (x1,Wld.mk (Config.mk 0 0 0 0 0 0 0 0 false 0 0 0) (Memo.mk ([]:List Int) ([]:List (List Entry))) ([]:List Thread) 0 0 (Tape.mk ([]:List Int) 0) ([]:List Mark) ([]:List Event),y2.fst,0) with
   | some y3 => some ((y3.snd,0,0))
   | none=>none
  | none=>none
 | none=>none
def Zoa (x:Config×(List SEntry)×(List Int)):Option (Wld×Int×Int):=Zoh x.1 x.2.1 x.2.2
def Zis (x0:List SEntry) (x1:List SEntry) (x2:Int):Option (((List SEntry)×(List SEntry)×Int)⊕(((List SEntry)))) := bif decide (x2<(↑x0.length:Int)) then bif decide (0<=x2) then bif decide (x2<(↑x0.length:Int)) then bif decide (0<=x2) then bif decide (x2<(↑x0.length:Int)) then bif decide (0<=x2) then bif decide (x2<(↑x0.length:Int)) then bif decide (0<=x2) then bif decide (x2<(↑x0.length:Int)) then bif fewB (x1.length+(x0.getD x2.toNat Za6::[]).length) then some (Sum.inl (x0,x1++x0.getD x2.toNat Za6::[],Zaf .i64 (x2+1))) else none else none else none else none else none else none else none else none else none else some (Sum.inr x1)
def ZeY (x:(List SEntry)×(List SEntry)×Int):Option (((List SEntry)×(List SEntry)×Int)⊕(((List SEntry)))):=Zis x.1 x.2.1 x.2.2
def ZnB (x:(List SEntry)×(List SEntry)×Int):Option (((List SEntry))):=Zay ZeY x
def Zlf (x0:List SEntry):Option (List SEntry) := match ZnB (x0,([]:List SEntry),0) with
 | some y1 => some y1
 | none=>none
def ZkV (x:(List SEntry)):Option (List SEntry):=Zlf x
def Zid (x0:List Event) (x1:List Event) (x2:Int):Option (((List Event)×(List Event)×Int)⊕((Unit)⊕(Bool))) := bif decide (x2<(↑x0.length:Int)) then bif decide (0<=x2) then bif decide (x2<(↑x0.length:Int)) then bif decide (0<=x2) then bif decide (x2<(↑x1.length:Int)) then bif !((x0.getD x2.toNat Zbv).kind == (x1.getD x2.toNat Zbv).kind && ((x0.getD x2.toNat Zbv).t == (x1.getD x2.toNat Zbv).t && ((x0.getD x2.toNat Zbv).item == (x1.getD x2.toNat Zbv).item && ((x0.getD x2.toNat Zbv).op.tag == (x1.getD x2.toNat Zbv).op.tag && ((x0.getD x2.toNat Zbv).op.v == (x1.getD x2.toNat Zbv).op.v && true) && ((x0.getD x2.toNat Zbv).prior == (x1.getD x2.toNat Zbv).prior && ((x0.getD x2.toNat Zbv).did == (x1.getD x2.toNat Zbv).did && ((x0.getD x2.toNat Zbv).step == (x1.getD x2.toNat Zbv).step && true))))))) then some (Sum.inr (Sum.inr false)) else some (Sum.inl (x0,x1,Zaf .i64 (x2+1))) else none else none else none else none else some (Sum.inr (Sum.inl ()))
def Zeq (x:(List Event)×(List Event)×Int):Option (((List Event)×(List Event)×Int)⊕((Unit)⊕(Bool))):=Zid x.1 x.2.1 x.2.2
def Zl3 (x:(List Event)×(List Event)×Int):Option ((Unit)⊕(Bool)):=Zay Zeq x
def Zj3 (x0:List Event) (x1:List Event):Option Bool := bif (↑x0.length:Int) != (↑x1.length:Int) then some (false) else match Zl3 (x0,x1,0) with
 | some (.inl y1) => some (true)
 | some (.inr y2) => some y2
 | none=>none
def Zki (x:(List Event)×(List Event)):Option Bool:=Zj3 x.1 x.2
def Zjz (x0:Wld) (x1:Wld) (x2:Int):Option ((Wld×Wld×Int)⊕((Unit)⊕(Bool))) := bif decide (x2<(↑x0.t.length:Int)) then bif decide (0<=x2) then bif decide (x2<(↑x0.t.length:Int)) then bif decide (0<=x2) then bif decide (x2<(↑x1.t.length:Int)) then match ZiL (x0.t.getD x2.toNat Zaw,x1.t.getD x2.toNat Zaw) with
 | some y1 => bif !y1 then some (Sum.inr (Sum.inr false)) else some (Sum.inl (x0,x1,Zaf .i64 (x2+1)))
 | none=>none else none else none else none else none else some (Sum.inr (Sum.inl ()))
def Zfq (x:Wld×Wld×Int):Option ((Wld×Wld×Int)⊕((Unit)⊕(Bool))):=Zjz x.1 x.2.1 x.2.2
def ZoZ (x:Wld×Wld×Int):Option ((Unit)⊕(Bool)):=Zay Zfq x
def ZmB (x0:Wld) (x1:Wld):Option Bool := bif !(x0.c.threads == x1.c.threads && (x0.c.items == x1.c.items && (x0.c.backend == x1.c.backend && (x0.c.depth == x1.c.depth && (x0.c.layers == x1.c.layers && (x0.c.width == x1.c.width && (x0.c.spin == x1.c.spin && (x0.c.wait == x1.c.wait && (x0.c.bounded == x1.c.bounded && (x0.c.lo == x1.c.lo && (x0.c.hi == x1.c.hi && (x0.c.init == x1.c.init && true)))))))))))) then some (false) else bif x0.now != x1.now then some (false) else bif x0.steps != x1.steps then some (false) else bif (↑x0.t.length:Int) != (↑x1.t.length:Int) then some (false) else match Zix (x0.m,x1.m) with
 | some y1 => bif !y1 then some (false) else match ZiV (x0.tape,x1.tape) with
  | some y2 => bif !y2 then some (false) else match ZhU (x0.log,x1.log) with
   | some y3 => bif !y3 then some (false) else match Zki (x0.hist,x1.hist) with
    | some y4 => bif !y4 then some (false) else match ZoZ (x0,x1,0) with
     | some (.inl y5) => some (true)
     | some (.inr y6) => some y6
     | none=>none
    | none=>none
   | none=>none
  | none=>none
 | none=>none
def Zit (x:Wld×Wld):Option Bool:=ZmB x.1 x.2
def Zhi (x0:List Entry) (x1:List Entry) (x2:Int):Option (((List Entry)×(List Entry)×Int)⊕(((List Entry)))) := bif decide (x2<(↑x0.length:Int)) then bif decide (0<=x2) then bif decide (x2<(↑x0.length:Int)) then bif decide (0<=x2) then bif decide (x2<(↑x0.length:Int)) then bif fewB (x1.length+(x0.getD x2.toNat Zce::[]).length) then some (Sum.inl (x0,x1++x0.getD x2.toNat Zce::[],Zaf .i64 (x2+1))) else none else none else none else none else none else some (Sum.inr x1)
def Zd5 (x:(List Entry)×(List Entry)×Int):Option (((List Entry)×(List Entry)×Int)⊕(((List Entry)))):=Zhi x.1 x.2.1 x.2.2
def Zly (x:(List Entry)×(List Entry)×Int):Option (((List Entry))):=Zay Zd5 x
def Zgl (x0:List Entry):Option (List Entry) := match Zly (x0,([]:List Entry),0) with
 | some y1 => some y1
 | none=>none
def Ze9 (x:(List Entry)):Option (List Entry):=Zgl x
def Zh4 (x0:Memo) (x1:Memo) (x2:Memo) (x3:Int):Option ((Memo×Memo×Memo×Int)⊕((Memo×Memo))) := bif decide (x3<(↑x0.boxes.length:Int)) then bif decide (0<=x3) then bif decide (x3<(↑x0.boxes.length:Int)) then match Ze9 (x0.boxes.getD x3.toNat ([]:List Entry)) with
 | some y1 => bif fewB (x2.boxes.length+(y1::[]).length) then some (Sum.inl (x0,x1,{ x2 with boxes:=x2.boxes++y1::[] },Zaf .i64 (x3+1))) else none
 | none=>none else none else none else some (Sum.inr (x1,x2))
def Zep (x:Memo×Memo×Memo×Int):Option ((Memo×Memo×Memo×Int)⊕((Memo×Memo))):=Zh4 x.1 x.2.1 x.2.2.1 x.2.2.2
def ZlS (x:Memo×Memo×Memo×Int):Option (Memo×Memo):=Zay Zep x
def ZjK (x0:Memo):Option Memo := match ZlS (x0,Memo.mk ([]:List Int) ([]:List (List Entry)),{ x0 with boxes:=([]:List (List Entry)) },0) with
 | some y1 => some (y1.snd)
 | none=>none
def Zj9 (x:Memo):Option Memo:=ZjK x
def Zjm (x0:List Mark) (x1:List Mark) (x2:Int):Option (((List Mark)×(List Mark)×Int)⊕(((List Mark)))) := bif decide (x2<(↑x0.length:Int)) then bif decide (0<=x2) then bif decide (x2<(↑x0.length:Int)) then bif decide (0<=x2) then bif decide (x2<(↑x0.length:Int)) then bif decide (0<=x2) then bif decide (x2<(↑x0.length:Int)) then bif decide (0<=x2) then bif decide (x2<(↑x0.length:Int)) then bif decide (0<=x2) then bif decide (x2<(↑x0.length:Int)) then bif fewB (x1.length+(x0.getD x2.toNat Za4::[]).length) then some (Sum.inl (x0,x1++x0.getD x2.toNat Za4::[],Zaf .i64 (x2+1))) else none else none else none else none else none else none else none else none else none else none else none else some (Sum.inr x1)
def Ze8 (x:(List Mark)×(List Mark)×Int):Option (((List Mark)×(List Mark)×Int)⊕(((List Mark)))):=Zjm x.1 x.2.1 x.2.2
def ZnX (x:(List Mark)×(List Mark)×Int):Option (((List Mark))):=Zay Ze8 x
def Zle (x0:List Mark):Option (List Mark) := match ZnX (x0,([]:List Mark),0) with
 | some y1 => some y1
 | none=>none
def ZkJ (x:(List Mark)):Option (List Mark):=Zle x
def ZiO (x0:Thread) (x1:Thread) (x2:Thread) (x3:Int):Option ((Thread×Thread×Thread×Int)⊕((Thread×Thread))) := bif decide (x3<(↑x0.kids.length:Int)) then bif decide (0<=x3) then bif decide (x3<(↑x0.kids.length:Int)) then bif fewB (x2.kids.length+(x0.kids.getD x3.toNat dKid::[]).length) then some (Sum.inl (x0,x1,{ x2 with kids:=x2.kids++x0.kids.getD x3.toNat dKid::[] },Zaf .i64 (x3+1))) else none else none else none else some (Sum.inr (x1,x2))
def Zfa (x:Thread×Thread×Thread×Int):Option ((Thread×Thread×Thread×Int)⊕((Thread×Thread))):=ZiO x.1 x.2.1 x.2.2.1 x.2.2.2
def ZnS (x:Thread×Thread×Thread×Int):Option (Thread×Thread):=Zay Zfa x
def Zk0 (x0:Thread):Option Thread := match Ze9 x0.batch with
 | some y1 => match ZnS (x0,Thread.mk 0 0 (Op.mk 0 0) ([]:List Entry) ([]:List Kid) ([]:List Int) 0 0 0 0 0 0 0 0 0 0,{ x0 with batch:=y1,kids:=([]:List Kid) },0) with
  | some y2 => some (y2.snd)
  | none=>none
 | none=>none
def Zld (x:Thread):Option Thread:=Zk0 x
def Zh7 (x0:Wld) (x1:Wld) (x2:Wld) (x3:Int):Option ((Wld×Wld×Wld×Int)⊕((Wld×Wld))) := bif decide (x3<(↑x0.hist.length:Int)) then bif decide (0<=x3) then bif decide (x3<(↑x0.hist.length:Int)) then bif fewB (x2.hist.length+(x0.hist.getD x3.toNat Zbv::[]).length) then some (Sum.inl (x0,x1,{ x2 with hist:=x2.hist++x0.hist.getD x3.toNat Zbv::[] },Zaf .i64 (x3+1))) else none else none else none else some (Sum.inr (x1,x2))
def Zer (x:Wld×Wld×Wld×Int):Option ((Wld×Wld×Wld×Int)⊕((Wld×Wld))):=Zh7 x.1 x.2.1 x.2.2.1 x.2.2.2
def ZlV (x:Wld×Wld×Wld×Int):Option (Wld×Wld):=Zay Zer x
def Zie (x0:Wld) (x1:Wld) (x2:Wld) (x3:Int):Option ((Wld×Wld×Wld×Int)⊕((Wld×Wld×Wld))) := bif decide (x3<(↑x0.t.length:Int)) then bif decide (0<=x3) then bif decide (x3<(↑x0.t.length:Int)) then match Zld (x0.t.getD x3.toNat Zaw) with
 | some y1 => bif fewB (x2.t.length+(y1::[]).length) then some (Sum.inl (x0,x1,{ x2 with t:=x2.t++y1::[] },Zaf .i64 (x3+1))) else none
 | none=>none else none else none else some (Sum.inr (x0,x1,x2))
def Zem (x:Wld×Wld×Wld×Int):Option ((Wld×Wld×Wld×Int)⊕((Wld×Wld×Wld))):=Zie x.1 x.2.1 x.2.2.1 x.2.2.2
def Zmp (x:Wld×Wld×Wld×Int):Option (Wld×Wld×Wld):=Zay Zem x
def ZjF (x0:Wld):Option Wld := match Zj9 x0.m with
 | some y1 => match ZkJ x0.log with
  | some y2 => match Zmp (x0,Wld.mk (Config.mk 0 0 0 0 0 0 0 0 false 0 0 0) (Memo.mk ([]:List Int) ([]:List (List Entry))) ([]:List Thread) 0 0 (Tape.mk ([]:List Int) 0) ([]:List Mark) ([]:List Event),{ x0 with m:=y1,t:=([]:List Thread),log:=y2,hist:=([]:List Event) },0) with
   | some y3 => match ZlV (y3.fst,y3.snd.fst,y3.snd.snd,0) with
    | some y4 => some (y4.snd)
    | none=>none
   | none=>none
  | none=>none
 | none=>none
def Zg7 (x:Wld):Option Wld:=ZjF x
def ZfE (x0:Int) (x1:List Thread) (x2:Int) (x3:Int):Option ((Int×(List Thread)×Int×Int)⊕((Int))) := bif decide (x3<x2) then bif decide (0<=x3) then bif decide (x3<(↑x1.length:Int)) then match ZbE (x1.getD x3.toNat Zaw) with
 | some y1 => bif y1 then some (Sum.inl (Zaf .i64 (x0+1),x1,x2,Zaf .i64 (x3+1))) else some (Sum.inl (x0,x1,x2,Zaf .i64 (x3+1)))
 | none=>none else none else none else some (Sum.inr x0)
def Zg9 (x:Int×(List Thread)×Int×Int):Option ((Int×(List Thread)×Int×Int)⊕((Int))):=ZfE x.1 x.2.1 x.2.2.1 x.2.2.2
def ZjV (x:Int×(List Thread)×Int×Int):Option Int:=Zay Zg9 x
def Zm6 (x0:Wld):Option Int := match ZjV (0,x0.t,(↑x0.t.length:Int),0) with
 | some y1 => some y1
 | none=>none
def Zgy (x:Wld):Option Int:=Zm6 x
def Zdp (x0:Wld) (x1:Int) (x2:Int):Option ((Wld×Int×Int)⊕((Int))) := bif decide (x2<(↑x0.t.length:Int)) then bif decide (0<=x2) then bif decide (x2<(↑x0.t.length:Int)) then match ZeE (x0.t.getD x2.toNat Zaw) with
 | some y1 => bif y1 then some (Sum.inl (x0,Zaf .i64 (x1+1),Zaf .i64 (x2+1))) else some (Sum.inl (x0,x1,Zaf .i64 (x2+1)))
 | none=>none else none else none else some (Sum.inr x1)
def Zj1 (x:Wld×Int×Int):Option ((Wld×Int×Int)⊕((Int))):=Zdp x.1 x.2.1 x.2.2
def ZjW (x:Wld×Int×Int):Option Int:=Zay Zj1 x
def ZmI (x0:Wld):Option Int := match ZjW (x0,0,0) with
 | some y1 => some y1
 | none=>none
def ZiW (x:Wld):Option Int:=ZmI x
def Ztg (x0:Config) (x1:Wld) (x2:Config) (x3:Int) (x4:Int) (x5:Int):Option ((Config×Wld×Config×Int×Int×Int)⊕((Config×Wld×Config×Int×Int)⊕(Bool))) := bif decide (x5<(↑x1.log.length:Int)) then bif decide (0<=x5) then bif decide (x5<(↑x1.log.length:Int)) then bif (x1.log.getD x5.toNat Za4).item != x3 then some (Sum.inl (x0,x1,x2,x3,x4,Zaf .i64 (x5+1))) else bif (x1.log.getD x5.toNat Za4).prior != x4 then some (Sum.inr (Sum.inr false)) else bif decide (x5>0) then bif decide (0<=Zaf .i64 (x5-1)) then bif decide (Zaf .i64 (x5-1)<(↑x1.log.length:Int)) then bif decide ((x1.log.getD x5.toNat Za4).step<(x1.log.getD (Zaf .i64 (x5-1)).toNat Za4).step) then some (Sum.inr (Sum.inr false)) else match ZcH ((x1.log.getD x5.toNat Za4).op,x4,x0.lo,x0.hi) with
  | some y1 => bif x0.bounded then bif decide (y1.fst<x0.lo) then some (Sum.inr (Sum.inr false)) else bif decide (y1.fst>x0.hi) then some (Sum.inr (Sum.inr false)) else some (Sum.inl (x0,x1,x2,x3,y1.fst,Zaf .i64 (x5+1))) else some (Sum.inl (x0,x1,x2,x3,y1.fst,Zaf .i64 (x5+1)))
  | none=>none else none else none else match ZcH ((x1.log.getD x5.toNat Za4).op,x4,x0.lo,x0.hi) with
 | some y1 => bif x0.bounded then bif decide (y1.fst<x0.lo) then some (Sum.inr (Sum.inr false)) else bif decide (y1.fst>x0.hi) then some (Sum.inr (Sum.inr false)) else some (Sum.inl (x0,x1,x2,x3,y1.fst,Zaf .i64 (x5+1))) else some (Sum.inl (x0,x1,x2,x3,y1.fst,Zaf .i64 (x5+1)))
 | none=>none else none else none else some (Sum.inr (Sum.inl (x0,x1,x2,x3,x4)))
def ZiA (x:Config×Wld×Config×Int×Int×Int):Option ((Config×Wld×Config×Int×Int×Int)⊕((Config×Wld×Config×Int×Int)⊕(Bool))):=Ztg x.1 x.2.1 x.2.2.1 x.2.2.2.1 x.2.2.2.2.1 x.2.2.2.2.2
def Zta (x:Config×Wld×Config×Int×Int×Int):Option ((Config×Wld×Config×Int×Int)⊕(Bool)):=Zay ZiA x
def ZtH (x0:Config) (x1:Wld) (x2:Config) (x3:Int):Option ((Config×Wld×Config×Int)⊕((Unit)⊕(Bool))) := bif decide (x3<x0.items) then match Zta (x0,x1,x2,x3,x0.init,0) with
 | some (.inl y1) => match ZdC (y1.snd.snd.fst,y1.snd.snd.snd.fst) with
  | some y2 => bif decide (0<=y2) then bif decide (y2<(↑y1.snd.fst.m.words.length:Int)) then bif y1.snd.fst.m.words.getD (Int.toNat y2) 0 != y1.snd.snd.snd.snd then some (Sum.inr (Sum.inr false)) else some (Sum.inl (y1.fst,y1.snd.fst,y1.snd.snd.fst,Zaf .i64 (y1.snd.snd.snd.fst+1))) else none else none
  | none=>none
 | some (.inr y2) => some (Sum.inr (Sum.inr y2))
 | none=>none else some (Sum.inr (Sum.inl ()))
def Ziv (x:Config×Wld×Config×Int):Option ((Config×Wld×Config×Int)⊕((Unit)⊕(Bool))):=ZtH x.1 x.2.1 x.2.2.1 x.2.2.2
def Ztq (x:Config×Wld×Config×Int):Option ((Unit)⊕(Bool)):=Zay Ziv x
def Zvb (x0:Config) (x1:Wld):Option Bool := match Zfk x0 with
 | some y1 => bif (↑x1.m.words.length:Int) != y1 then some (false) else bif decide ((↑x1.log.length:Int)>1000) then some (false) else match Ztq (x0,x1,x0,0) with
  | some (.inl y2) => some (true)
  | some (.inr y3) => some y3
  | none=>none
 | none=>none
def Zve (x:Config×Wld):Option Bool:=Zvb x.1 x.2
def Zq3 (x0:Config) (x1:Wld) (x2:Int) (x3:List Mark) (x4:Int) (x5:Bool) (x6:Event) (x7:Int):Option ((Config×Wld×Int×(List Mark)×Int×Bool×Event×Int)⊕((Config×Wld×Int×(List Mark)×Int×Bool×Event)⊕(Bool))) := bif decide (x7<(↑x1.hist.length:Int)) then bif decide (0<=x7) then bif decide (x7<(↑x1.hist.length:Int)) then bif (x1.hist.getD x7.toNat Zbv).t != x2 then some (Sum.inl (x0,x1,x2,x3,x4,x5,x6,Zaf .i64 (x7+1))) else bif (x1.hist.getD x7.toNat Zbv).kind == 3 then some (Sum.inl (x0,x1,x2,x3,x4,x5,x6,Zaf .i64 (x7+1))) else bif ((x1.hist.getD x7.toNat Zbv).kind == 1) == x5 then some (Sum.inr (Sum.inr false)) else bif (x1.hist.getD x7.toNat Zbv).kind == 1 then some (Sum.inl (x0,x1,x2,x3,x4,true,x1.hist.getD x7.toNat Zbv,Zaf .i64 (x7+1))) else match ZcH ((x1.hist.getD x7.toNat Zbv).op,(x1.hist.getD x7.toNat Zbv).prior,x0.lo,x0.hi) with
 | some y1 => bif decide (x4>=(↑x3.length:Int)) then some (Sum.inr (Sum.inr false)) else bif decide (0<=x4) then bif decide (x4<(↑x3.length:Int)) then bif !((x3.getD x4.toNat Za4).op.tag == (x1.hist.getD x7.toNat Zbv).op.tag && ((x3.getD x4.toNat Za4).op.v == (x1.hist.getD x7.toNat Zbv).op.v && true)) then some (Sum.inr (Sum.inr false)) else bif decide (0<=x4) then bif decide (x4<(↑x3.length:Int)) then bif (x3.getD x4.toNat Za4).item != (x1.hist.getD x7.toNat Zbv).item then some (Sum.inr (Sum.inr false)) else bif decide (0<=x4) then bif decide (x4<(↑x3.length:Int)) then bif (x3.getD x4.toNat Za4).prior != (x1.hist.getD x7.toNat Zbv).prior then some (Sum.inr (Sum.inr false)) else bif !(x1.hist.getD x7.toNat Zbv).did == y1.snd then some (Sum.inr (Sum.inr false)) else bif !(x6.op.tag == (x1.hist.getD x7.toNat Zbv).op.tag && (x6.op.v == (x1.hist.getD x7.toNat Zbv).op.v && true)) then some (Sum.inr (Sum.inr false)) else bif x6.item != (x1.hist.getD x7.toNat Zbv).item then some (Sum.inr (Sum.inr false)) else bif decide (0<=x4) then bif decide (x4<(↑x3.length:Int)) then bif decide ((x3.getD x4.toNat Za4).step<=x6.step) then some (Sum.inr (Sum.inr false)) else bif decide (0<=x4) then bif decide (x4<(↑x3.length:Int)) then bif decide ((x3.getD x4.toNat Za4).step>(x1.hist.getD x7.toNat Zbv).step) then some (Sum.inr (Sum.inr false)) else some (Sum.inl (x0,x1,x2,x3,Zaf .i64 (x4+1),false,x6,Zaf .i64 (x7+1))) else none else none else none else none else none else none else none else none else none else none
 | none=>none else none else none else some (Sum.inr (Sum.inl (x0,x1,x2,x3,x4,x5,x6)))
def ZgI (x:Config×Wld×Int×(List Mark)×Int×Bool×Event×Int):Option ((Config×Wld×Int×(List Mark)×Int×Bool×Event×Int)⊕((Config×Wld×Int×(List Mark)×Int×Bool×Event)⊕(Bool))):=Zq3 x.1 x.2.1 x.2.2.1 x.2.2.2.1 x.2.2.2.2.1 x.2.2.2.2.2.1 x.2.2.2.2.2.2.1 x.2.2.2.2.2.2.2
def Zqn (x:Config×Wld×Int×(List Mark)×Int×Bool×Event×Int):Option ((Config×Wld×Int×(List Mark)×Int×Bool×Event)⊕(Bool)):=Zay ZgI x
def Zry (x0:Config) (x1:Wld) (x2:Int) (x3:List Mark) (x4:Int):Option ((Config×Wld×Int×(List Mark)×Int)⊕((Config×Wld×Int×(List Mark)))) := bif decide (x4<(↑x1.log.length:Int)) then bif decide (0<=x4) then bif decide (x4<(↑x1.log.length:Int)) then bif (x1.log.getD x4.toNat Za4).t == x2 then bif decide (0<=x4) then bif decide (x4<(↑x1.log.length:Int)) then bif fewB (x3.length+(x1.log.getD x4.toNat Za4::[]).length) then some (Sum.inl (x0,x1,x2,x3++x1.log.getD x4.toNat Za4::[],Zaf .i64 (x4+1))) else none else none else none else some (Sum.inl (x0,x1,x2,x3,Zaf .i64 (x4+1))) else none else none else some (Sum.inr (x0,x1,x2,x3))
def Zhl (x:Config×Wld×Int×(List Mark)×Int):Option ((Config×Wld×Int×(List Mark)×Int)⊕((Config×Wld×Int×(List Mark)))):=Zry x.1 x.2.1 x.2.2.1 x.2.2.2.1 x.2.2.2.2
def Zrx (x:Config×Wld×Int×(List Mark)×Int):Option ((Config×Wld×Int×(List Mark))):=Zay Zhl x
def Zrz (x0:Config) (x1:Wld) (x2:Int):Option ((Config×Wld×Int)⊕((Unit)⊕(Bool))) := bif decide (x2<x0.threads) then match Zrx (x0,x1,x2,([]:List Mark),0) with
 | some y1 => match Zqn (y1.fst,y1.snd.fst,y1.snd.snd.fst,y1.snd.snd.snd,0,false,Event.mk 0 0 0 (Op.mk 0 0) 0 false 0,0) with
  | some (.inl y2) => bif (↑(List.length y2.snd.snd.snd.fst):Int) != y2.snd.snd.snd.snd.fst then bif !y2.snd.snd.snd.snd.snd.fst then some (Sum.inr (Sum.inr false)) else bif (↑(List.length y2.snd.snd.snd.fst):Int) != Zaf .i64 (y2.snd.snd.snd.snd.fst+1) then some (Sum.inr (Sum.inr false)) else bif decide (0<=y2.snd.snd.snd.snd.fst) then bif decide (y2.snd.snd.snd.snd.fst<(↑(List.length y2.snd.snd.snd.fst):Int)) then bif !((List.getD y2.snd.snd.snd.fst (Int.toNat y2.snd.snd.snd.snd.fst) Za4).op.tag == y2.snd.snd.snd.snd.snd.snd.op.tag && ((List.getD y2.snd.snd.snd.fst (Int.toNat y2.snd.snd.snd.snd.fst) Za4).op.v == y2.snd.snd.snd.snd.snd.snd.op.v && true)) then some (Sum.inr (Sum.inr false)) else bif decide (0<=y2.snd.snd.snd.snd.fst) then bif decide (y2.snd.snd.snd.snd.fst<(↑(List.length y2.snd.snd.snd.fst):Int)) then bif (List.getD y2.snd.snd.snd.fst (Int.toNat y2.snd.snd.snd.snd.fst) Za4).item != y2.snd.snd.snd.snd.snd.snd.item then some (Sum.inr (Sum.inr false)) else bif decide (0<=y2.snd.snd.snd.snd.fst) then bif decide (y2.snd.snd.snd.snd.fst<(↑(List.length y2.snd.snd.snd.fst):Int)) then bif decide ((List.getD y2.snd.snd.snd.fst (Int.toNat y2.snd.snd.snd.snd.fst) Za4).step<=y2.snd.snd.snd.snd.snd.snd.step) then some (Sum.inr (Sum.inr false)) else some (Sum.inl (y2.fst,y2.snd.fst,Zaf .i64 (y2.snd.snd.fst+1))) else none else none else none else none else none else none else some (Sum.inl (y2.fst,y2.snd.fst,Zaf .i64 (y2.snd.snd.fst+1)))
  | some (.inr y3) => some (Sum.inr (Sum.inr y3))
  | none=>none
 | none=>none else some (Sum.inr (Sum.inl ()))
def Zhj (x:Config×Wld×Int):Option ((Config×Wld×Int)⊕((Unit)⊕(Bool))):=Zrz x.1 x.2.1 x.2.2
def Zrv (x:Config×Wld×Int):Option ((Unit)⊕(Bool)):=Zay Zhj x
def ZsF (x0:Config) (x1:Wld):Option Bool := bif decide ((↑x1.hist.length:Int)>1000) then some (false) else match Zrv (x0,x1,0) with
 | some (.inl y1) => some (true)
 | some (.inr y2) => some y2
 | none=>none
def ZtE (x:Config×Wld):Option Bool:=ZsF x.1 x.2
def ZiQ (x0:Turn):Option Turn := bif x0.c.backend == 2 then bif decide (x0.c.depth>0) then some ({ x0 with th:={ x0.th with phase:=4 } }) else bif x0.c.backend == 3 then bif decide (x0.c.layers>0) then some ({ x0 with th:={ x0.th with phase:=17,layer:=1 } }) else some ({ x0 with th:={ x0.th with phase:=2 } }) else some ({ x0 with th:={ x0.th with phase:=2 } }) else bif x0.c.backend == 3 then bif decide (x0.c.layers>0) then some ({ x0 with th:={ x0.th with phase:=17,layer:=1 } }) else some ({ x0 with th:={ x0.th with phase:=2 } }) else some ({ x0 with th:={ x0.th with phase:=2 } })
def Zgf (x:Turn):Option Turn:=ZiQ x
def Zdw (x0:List Int):Option (List Int) := bif fewB ((0:Nat)+x0.length) then some (x0) else none
def ZbI (x:(List Int)):Option (List Int):=Zdw x
def ZfU (x0:List Int) (x1:Int):Option (Int×Int) := bif decide (x1<0) then some ((0,30)) else bif decide (x1>=(↑x0.length:Int)) then some ((0,30)) else bif decide (0<=x1) then bif decide (x1<(↑x0.length:Int)) then some ((x0.getD x1.toNat 0,0)) else none else none
def ZbP (x:(List Int)×Int):Option (Int×Int):=ZfU x.1 x.2
def ZgR (x0:Memo) (x1:Int) (x2:Int):Option (Memo×Int) := match ZbP (x0.words,x1) with
 | some y1 => bif y1.snd != 0 then some ((x0,y1.snd)) else match ZbI x0.words with
  | some y2 => bif decide (0<=x1) then bif decide (x1<(↑(List.length y2):Int)) then some (({ x0 with words:=List.set y2 x1.toNat x2 },y1.snd)) else none else none
  | none=>none
 | none=>none
def Zck (x:Memo×Int×Int):Option (Memo×Int):=ZgR x.1 x.2.1 x.2.2
def Zng (x0:Config) (x1:Int):Option Int := bif decide (x1<0) then some ((-1:Int)) else bif decide (x1>=x0.threads) then some ((-1:Int)) else match ZcB x0 with
 | some y1 => some (Zaf .i64 (y1.lines+Zaf .i64 (2*x1)))
 | none=>none
def Zc9 (x:Config×Int):Option Int:=Zng x.1 x.2
def Zjp (x0:Turn):Option (Turn×Bool) := bif x0.th.phase != 1 then some ((x0,false)) else match Zc9 (x0.c,x0.t) with
 | some y1 => match Zck (x0.m,y1,0) with
  | some y2 => bif y2.snd != 0 then some ((x0,true)) else match Zgf { x0 with m:=y2.fst } with
   | some y3 => some ((y3,true))
   | none=>none
  | none=>none
 | none=>none
def Zja (x:Turn):Option (Turn×Bool):=Zjp x
def ZmZ (x0:Config) (x1:Int) (x2:Int):Option Int := bif decide (x1<0) then some ((-1:Int)) else bif decide (x1>=x0.items) then some ((-1:Int)) else match ZfP x0 with
 | some y1 => bif decide (x2<1) then some ((-1:Int)) else bif decide (x2>=Zaf .i64 (1+y1)) then some ((-1:Int)) else match ZcB x0 with
  | some y2 => some (Zaf .i64 (Zaf .i64 (x1*y2.block)+x2))
  | none=>none
 | none=>none
def ZeM (x:Config×Int×Int):Option Int:=ZmZ x.1 x.2.1 x.2.2
def Zdo (x0:Said):Option Int :=
 some (Zaf .i64 (Zaf .i64 (8*Zaf .i64 (x0.n+1))+x0.kind))
def Zb0 (x:Said):Option Int:=Zdo x
def ZmP (x0:Int):Option Int := match Zb0 (Said.mk 1 x0) with
 | some y1 => some y1
 | none=>none
def Zfl (x:Int):Option Int:=ZmP x
def ZoH (x0:Int):Option Int :=
 some ((if 0>x0 then 0 else x0).fdiv (2 ^ min (Int.toNat 1) IntKind.i64.bits))
def Zka (x:Int):Option Int:=ZoH x
def Zm9 (x0:Turn):Option Turn := bif decide (x0.th.stop>0) then bif decide (x0.th.at_>=0) then bif decide (x0.th.at_<(↑x0.th.held.length:Int)) then some ({ x0 with th:={ x0.th with phase:=7 } }) else some ({ x0 with th:={ x0.th with phase:=11 } }) else some ({ x0 with th:={ x0.th with phase:=11 } }) else bif decide (x0.th.at_>=0) then bif decide (x0.th.at_<(↑x0.th.held.length:Int)) then some ({ x0 with th:={ x0.th with phase:=7 } }) else some ({ x0 with th:={ x0.th with phase:=2 } }) else some ({ x0 with th:={ x0.th with phase:=2 } })
def Zgw (x:Turn):Option Turn:=Zm9 x
def Znp (x0:Turn):Option Turn := match Zgw { x0 with th:={ x0.th with at_:=0 } } with
 | some y1 => some y1
 | none=>none
def Zex (x:Turn):Option Turn:=Znp x
def Zk6 (x0:Turn):Option Turn := match ZbI x0.th.held with
 | some y1 => bif fewB (List.length y1+(x0.th.node::[]).length) then match Zka x0.th.node with
  | some y2 => bif decide (y2>0) then some ({ x0 with th:={ x0.th with held:=y1++x0.th.node::[],node:=y2 } }) else match Zex { x0 with th:={ x0.th with held:=y1++x0.th.node::[],node:=y2 } } with
   | some y3 => some y3
   | none=>none
  | none=>none else none
 | none=>none
def Zk5 (x:Turn):Option Turn:=Zk6 x
def Ziz (x0:Memo) (x1:Int) (x2:Int) (x3:Int):Option (Memo×Bool×Int) := match ZbP (x0.words,x1) with
 | some y1 => bif y1.snd != 0 then some ((x0,false,y1.snd)) else bif y1.fst == x2 then match ZbI x0.words with
  | some y2 => bif decide (0<=x1) then bif decide (x1<(↑(List.length y2):Int)) then some (({ x0 with words:=List.set y2 x1.toNat x3 },y1.fst == x2,y1.snd)) else none else none
  | none=>none else some ((x0,y1.fst == x2,y1.snd))
 | none=>none
def ZcV (x:Memo×Int×Int×Int):Option (Memo×Bool×Int):=Ziz x.1 x.2.1 x.2.2.1 x.2.2.2
def Zgd (x0:Memo) (x1:Int):Option (Int×Int) := match ZbP (x0.words,x1) with
 | some y1 => some y1
 | none=>none
def Zcs (x:Memo×Int):Option (Int×Int):=Zgd x.1 x.2
def ZkN (x0:Turn):Option Bool := bif decide (0<x0.th.until_) then some (decide (x0.th.until_<=x0.now)) else some (false)
def ZdV (x:Turn):Option Bool:=ZkN x
def Zqx (x0:Int):Option Said := bif Zaf .i64 (↑(BitVec.ofInt IntKind.i64.bits x0 &&& BitVec.ofInt IntKind.i64.bits 7).toNat:Int) == 5 && (Zaf .i64 (x0.fdiv (2 ^ min (Int.toNat 3) IntKind.i64.bits)-1) == (-1:Int) && true) then some (Said.mk (Zaf .i64 (↑(BitVec.ofInt IntKind.i64.bits x0 &&& BitVec.ofInt IntKind.i64.bits 7).toNat:Int)) (Zaf .i64 (x0.fdiv (2 ^ min (Int.toNat 3) IntKind.i64.bits)-1))) else bif decide (Zaf .i64 (↑(BitVec.ofInt IntKind.i64.bits x0 &&& BitVec.ofInt IntKind.i64.bits 7).toNat:Int)>=1) then bif decide (Zaf .i64 (↑(BitVec.ofInt IntKind.i64.bits x0 &&& BitVec.ofInt IntKind.i64.bits 7).toNat:Int)<=3) then bif decide (Zaf .i64 (x0.fdiv (2 ^ min (Int.toNat 3) IntKind.i64.bits)-1)>=0) then bif decide (Zaf .i64 (x0.fdiv (2 ^ min (Int.toNat 3) IntKind.i64.bits)-1)<16) then some (Said.mk (Zaf .i64 (↑(BitVec.ofInt IntKind.i64.bits x0 &&& BitVec.ofInt IntKind.i64.bits 7).toNat:Int)) (Zaf .i64 (x0.fdiv (2 ^ min (Int.toNat 3) IntKind.i64.bits)-1))) else bif Zaf .i64 (↑(BitVec.ofInt IntKind.i64.bits x0 &&& BitVec.ofInt IntKind.i64.bits 7).toNat:Int) == 4 then bif decide ((Zaf .i64 (x0.fdiv (2 ^ min (Int.toNat 3) IntKind.i64.bits)-1)).fdiv (2 ^ min (Int.toNat 4) IntKind.i64.bits)>=0) then bif decide ((Zaf .i64 (x0.fdiv (2 ^ min (Int.toNat 3) IntKind.i64.bits)-1)).fdiv (2 ^ min (Int.toNat 4) IntKind.i64.bits)<4) then bif decide (Zaf .i64 (↑(BitVec.ofInt IntKind.i64.bits (Zaf .i64 (x0.fdiv (2 ^ min (Int.toNat 3) IntKind.i64.bits)-1)) &&& BitVec.ofInt IntKind.i64.bits 15).toNat:Int)>=1) then bif decide (Zaf .i64 (↑(BitVec.ofInt IntKind.i64.bits (Zaf .i64 (x0.fdiv (2 ^ min (Int.toNat 3) IntKind.i64.bits)-1)) &&& BitVec.ofInt IntKind.i64.bits 15).toNat:Int)<=3) then some (Said.mk (Zaf .i64 (↑(BitVec.ofInt IntKind.i64.bits x0 &&& BitVec.ofInt IntKind.i64.bits 7).toNat:Int)) (Zaf .i64 (x0.fdiv (2 ^ min (Int.toNat 3) IntKind.i64.bits)-1))) else some (Said.mk 0 0) else some (Said.mk 0 0) else some (Said.mk 0 0) else some (Said.mk 0 0) else some (Said.mk 0 0) else bif Zaf .i64 (↑(BitVec.ofInt IntKind.i64.bits x0 &&& BitVec.ofInt IntKind.i64.bits 7).toNat:Int) == 4 then bif decide ((Zaf .i64 (x0.fdiv (2 ^ min (Int.toNat 3) IntKind.i64.bits)-1)).fdiv (2 ^ min (Int.toNat 4) IntKind.i64.bits)>=0) then bif decide ((Zaf .i64 (x0.fdiv (2 ^ min (Int.toNat 3) IntKind.i64.bits)-1)).fdiv (2 ^ min (Int.toNat 4) IntKind.i64.bits)<4) then bif decide (Zaf .i64 (↑(BitVec.ofInt IntKind.i64.bits (Zaf .i64 (x0.fdiv (2 ^ min (Int.toNat 3) IntKind.i64.bits)-1)) &&& BitVec.ofInt IntKind.i64.bits 15).toNat:Int)>=1) then bif decide (Zaf .i64 (↑(BitVec.ofInt IntKind.i64.bits (Zaf .i64 (x0.fdiv (2 ^ min (Int.toNat 3) IntKind.i64.bits)-1)) &&& BitVec.ofInt IntKind.i64.bits 15).toNat:Int)<=3) then some (Said.mk (Zaf .i64 (↑(BitVec.ofInt IntKind.i64.bits x0 &&& BitVec.ofInt IntKind.i64.bits 7).toNat:Int)) (Zaf .i64 (x0.fdiv (2 ^ min (Int.toNat 3) IntKind.i64.bits)-1))) else some (Said.mk 0 0) else some (Said.mk 0 0) else some (Said.mk 0 0) else some (Said.mk 0 0) else some (Said.mk 0 0) else bif Zaf .i64 (↑(BitVec.ofInt IntKind.i64.bits x0 &&& BitVec.ofInt IntKind.i64.bits 7).toNat:Int) == 4 then bif decide ((Zaf .i64 (x0.fdiv (2 ^ min (Int.toNat 3) IntKind.i64.bits)-1)).fdiv (2 ^ min (Int.toNat 4) IntKind.i64.bits)>=0) then bif decide ((Zaf .i64 (x0.fdiv (2 ^ min (Int.toNat 3) IntKind.i64.bits)-1)).fdiv (2 ^ min (Int.toNat 4) IntKind.i64.bits)<4) then bif decide (Zaf .i64 (↑(BitVec.ofInt IntKind.i64.bits (Zaf .i64 (x0.fdiv (2 ^ min (Int.toNat 3) IntKind.i64.bits)-1)) &&& BitVec.ofInt IntKind.i64.bits 15).toNat:Int)>=1) then bif decide (Zaf .i64 (↑(BitVec.ofInt IntKind.i64.bits (Zaf .i64 (x0.fdiv (2 ^ min (Int.toNat 3) IntKind.i64.bits)-1)) &&& BitVec.ofInt IntKind.i64.bits 15).toNat:Int)<=3) then some (Said.mk (Zaf .i64 (↑(BitVec.ofInt IntKind.i64.bits x0 &&& BitVec.ofInt IntKind.i64.bits 7).toNat:Int)) (Zaf .i64 (x0.fdiv (2 ^ min (Int.toNat 3) IntKind.i64.bits)-1))) else some (Said.mk 0 0) else some (Said.mk 0 0) else some (Said.mk 0 0) else some (Said.mk 0 0) else some (Said.mk 0 0) else bif Zaf .i64 (↑(BitVec.ofInt IntKind.i64.bits x0 &&& BitVec.ofInt IntKind.i64.bits 7).toNat:Int) == 4 then bif decide ((Zaf .i64 (x0.fdiv (2 ^ min (Int.toNat 3) IntKind.i64.bits)-1)).fdiv (2 ^ min (Int.toNat 4) IntKind.i64.bits)>=0) then bif decide ((Zaf .i64 (x0.fdiv (2 ^ min (Int.toNat 3) IntKind.i64.bits)-1)).fdiv (2 ^ min (Int.toNat 4) IntKind.i64.bits)<4) then bif decide (Zaf .i64 (↑(BitVec.ofInt IntKind.i64.bits (Zaf .i64 (x0.fdiv (2 ^ min (Int.toNat 3) IntKind.i64.bits)-1)) &&& BitVec.ofInt IntKind.i64.bits 15).toNat:Int)>=1) then bif decide (Zaf .i64 (↑(BitVec.ofInt IntKind.i64.bits (Zaf .i64 (x0.fdiv (2 ^ min (Int.toNat 3) IntKind.i64.bits)-1)) &&& BitVec.ofInt IntKind.i64.bits 15).toNat:Int)<=3) then some (Said.mk (Zaf .i64 (↑(BitVec.ofInt IntKind.i64.bits x0 &&& BitVec.ofInt IntKind.i64.bits 7).toNat:Int)) (Zaf .i64 (x0.fdiv (2 ^ min (Int.toNat 3) IntKind.i64.bits)-1))) else some (Said.mk 0 0) else some (Said.mk 0 0) else some (Said.mk 0 0) else some (Said.mk 0 0) else some (Said.mk 0 0)
def ZkA (x:Int):Option Said:=Zqx x
def Zn6 (x0:Int):Option Int := match ZkA x0 with
 | some y1 => bif x0 == 0 then some (y1.kind) else bif !(y1.kind == 0 && (y1.n == 0 && true)) then some (y1.kind) else some ((-1:Int))
 | none=>none
def Zht (x:Int):Option Int:=Zn6 x
def Zm8 (x0:Turn) (x1:Int):Option Turn := match Zht x1 with
 | some y1 => bif y1 == 1 then some ({ x0 with th:={ x0.th with phase:=6,x:=x1 } }) else bif y1 == 0 then some ({ x0 with th:={ x0.th with phase:=5 } }) else match ZdV x0 with
  | some y2 => bif y2 then match Zex x0 with
   | some y3 => some y3
   | none=>none else some (x0)
  | none=>none
 | none=>none
def ZmW (x:Turn×Int):Option Turn:=Zm8 x.1 x.2
def Zlc (x0:Int):Option Int := match Zb0 (Said.mk 2 x0) with
 | some y1 => some y1
 | none=>none
def Zlt (x:Int):Option Int:=Zlc x
def Zj5 (x0:Turn):Option Turn := match Zex { x0 with th:={ x0.th with stop:=x0.th.node } } with
 | some y1 => some y1
 | none=>none
def ZjY (x:Turn):Option Turn:=Zj5 x
def Zmf (x0:Turn):Option (Turn×Bool) := match ZeM (x0.c,x0.th.item,x0.th.node) with
 | some y1 => match Zfl x0.t with
  | some y2 => bif x0.th.phase == 4 then match Zcs (x0.m,y1) with
   | some y3 => bif y3.snd != 0 then some ((x0,true)) else match ZmW (x0,y3.fst) with
     | some y4 => some ((y4,true))
     | none=>none
   | none=>none else bif x0.th.phase == 6 then match Zlt x0.t with
    | some y3 => match ZcV (x0.m,y1,x0.th.x,y3) with
     | some y4 => bif y4.snd.snd != 0 then some ((x0,true)) else bif y4.snd.fst then match ZjY { x0 with m:=y4.fst,th:={ x0.th with phase:=4 } } with
      | some y5 => some ((y5,true))
      | none=>none else some (({ x0 with m:=y4.fst,th:={ x0.th with phase:=4 } },true))
     | none=>none
    | none=>none else bif x0.th.phase == 5 then match ZcV (x0.m,y1,0,y2) with
     | some y3 => bif y3.snd.snd != 0 then some ((x0,true)) else bif y3.snd.fst then match Zk5 { x0 with m:=y3.fst,th:={ x0.th with phase:=4 } } with
      | some y4 => some ((y4,true))
      | none=>none else some (({ x0 with m:=y3.fst,th:={ x0.th with phase:=4 } },true))
     | none=>none else some ((x0,false))
  | none=>none
 | none=>none
def Zmx (x:Turn):Option (Turn×Bool):=Zmf x
def ZkK (x0:Turn):Option Int := bif decide (x0.th.at_<0) then some ((-1:Int)) else bif decide (x0.th.at_>=(↑x0.th.held.length:Int)) then some ((-1:Int)) else bif decide (0<=x0.th.at_) then bif decide (x0.th.at_<(↑x0.th.held.length:Int)) then match ZeM (x0.c,x0.th.item,x0.th.held.getD x0.th.at_.toNat 0) with
 | some y1 => some y1
 | none=>none else none else none
def ZfY (x:Turn):Option Int:=ZkK x
def Zpg (x0:Int):Option Int := match ZkA x0 with
 | some y1 => bif decide (y1.kind>=1) then bif decide (y1.kind<=3) then some (y1.n) else some ((-1:Int)) else some ((-1:Int))
 | none=>none
def ZpG (x:Int):Option Int:=Zpg x
def Zp9 (x0:Turn):Option Turn := match ZfY x0 with
 | some y1 => match Zcs (x0.m,y1) with
  | some y2 => bif y2.snd != 0 then some (x0) else match Zfl x0.t with
   | some y3 => bif y2.fst == y3 then some ({ x0 with th:={ x0.th with phase:=8 } }) else match Zht y2.fst with
    | some y4 => bif y4 == 3 then match ZpG y2.fst with
     | some y5 => some ({ x0 with th:={ x0.th with phase:=9,who:=y5 } })
     | none=>none else some (x0)
    | none=>none
   | none=>none
  | none=>none
 | none=>none
def Zlx (x:Turn):Option Turn:=Zp9 x
def Zlp (x0:Turn):Option Turn := match Zgw { x0 with th:={ x0.th with at_:=Zaf .i64 (x0.th.at_+1) } } with
 | some y1 => some y1
 | none=>none
def ZhM (x:Turn):Option Turn:=Zlp x
def Zp4 (x0:Turn):Option Turn := match ZfY x0 with
 | some y1 => match Zfl x0.t with
  | some y2 => match ZcV (x0.m,y1,y2,0) with
   | some y3 => bif !y3.snd.fst then bif y3.snd.snd != 0 then some (x0) else some ({ x0 with m:=y3.fst,th:={ x0.th with phase:=7 } }) else bif y3.snd.snd != 0 then some (x0) else match ZhM { x0 with m:=y3.fst } with
    | some y4 => some y4
    | none=>none
   | none=>none
  | none=>none
 | none=>none
def Zlh (x:Turn):Option Turn:=Zp4 x
def ZcX (x0:List Entry):Option (List Entry) := bif fewB ((0:Nat)+x0.length) then some (x0) else none
def Zbx (x:(List Entry)):Option (List Entry):=ZcX x
def Zcx (x0:List (List Entry)) (x1:Int):Option ((List Entry)×Int) := bif decide (x1<0) then some ((([]:List Entry),30)) else bif decide (x1>=(↑x0.length:Int)) then some ((([]:List Entry),30)) else bif decide (0<=x1) then bif decide (x1<(↑x0.length:Int)) then some ((x0.getD x1.toNat ([]:List Entry),0)) else none else none
def Zcz (x:(List (List Entry))×Int):Option ((List Entry)×Int):=Zcx x.1 x.2
def Zi7 (x0:Memo) (x1:Int):Option ((List Entry)×Int) := match Zcz (x0.boxes,x1) with
 | some y1 => match Zbx y1.fst with
  | some y2 => some ((y2,y1.snd))
  | none=>none
 | none=>none
def ZiR (x:Memo×Int):Option ((List Entry)×Int):=Zi7 x.1 x.2
def Zet (x0:Unit) (x1:Int):Option (List Kid) := bif decide (x1<0) then none else bif decide (Zaf .i64 (x1-Zaf .i64 (0-0))>0) then bif decide (0<=Zaf .i64 (x1-Zaf .i64 (0-0))) then bif decide (Zaf .i64 (x1-Zaf .i64 (0-0))<=ZbH) then some (List.take (Int.toNat 0) (List.replicate (Zaf .i64 (x1-Zaf .i64 (0-0))).toNat (Kid.mk 0 0))) else none else none else some (([]:List Kid))
def ZeI (x:Unit×Int):Option (List Kid):=Zet x.1 x.2
def ZcF (x0:List Kid) (x1:List (List Kid)) (x2:Int) (x3:Int):Option (((List Kid)×(List (List Kid))×Int×Int)⊕(((List Kid)))) := bif decide (x3<x2) then bif decide (0<=x3) then bif decide (x3<(↑x1.length:Int)) then bif fewB (x0.length+List.length (x1.getD x3.toNat ([]:List Kid))) then some (Sum.inl (x0++x1.getD x3.toNat ([]:List Kid),x1,x2,Zaf .i64 (x3+1))) else none else none else none else some (Sum.inr x0)
def ZbR (x:(List Kid)×(List (List Kid))×Int×Int):Option (((List Kid)×(List (List Kid))×Int×Int)⊕(((List Kid)))):=ZcF x.1 x.2.1 x.2.2.1 x.2.2.2
def Zdi (x:(List Kid)×(List (List Kid))×Int×Int):Option (((List Kid))):=Zay ZbR x
def ZcJ (x0:List (List Kid)) (x1:Int) (x2:List (List Kid)) (x3:Int) (x4:Int):Option (((List (List Kid))×Int×(List (List Kid))×Int×Int)⊕(((List (List Kid))×Int))) := bif decide (x4<x3) then bif decide (0<=x4) then bif decide (x4<(↑x2.length:Int)) then bif decide (Zaf .i64 (x1+(↑(List.length (x2.getD x4.toNat ([]:List Kid))):Int))<0) then none else some (Sum.inl (x0,Zaf .i64 (x1+(↑(List.length (x2.getD x4.toNat ([]:List Kid))):Int)),x2,x3,Zaf .i64 (x4+1))) else none else none else some (Sum.inr (x0,x1))
def ZbW (x:(List (List Kid))×Int×(List (List Kid))×Int×Int):Option (((List (List Kid))×Int×(List (List Kid))×Int×Int)⊕(((List (List Kid))×Int))):=ZcJ x.1 x.2.1 x.2.2.1 x.2.2.2.1 x.2.2.2.2
def Zdl (x:(List (List Kid))×Int×(List (List Kid))×Int×Int):Option (((List (List Kid))×Int)):=Zay ZbW x
def ZdW (x0:List (List Kid)):Option (List Kid) := match Zdl (x0,0,x0,(↑x0.length:Int),0) with
 | some y1 => match ZeI ((),y1.snd) with
  | some y2 => match Zdi (y2,y1.fst,(↑(List.length y1.fst):Int),0) with
   | some y3 => some y3
   | none=>none
  | none=>none
 | none=>none
def ZdU (x:(List (List Kid))):Option (List Kid):=ZdW x
def Zeb (x0:Unit) (x1:Int):Option (List Entry) := bif decide (x1<0) then none else bif decide (Zaf .i64 (x1-Zaf .i64 (0-0))>0) then bif decide (0<=Zaf .i64 (x1-Zaf .i64 (0-0))) then bif decide (Zaf .i64 (x1-Zaf .i64 (0-0))<=ZbH) then some (List.take (Int.toNat 0) (List.replicate (Zaf .i64 (x1-Zaf .i64 (0-0))).toNat (Entry.mk 0 (Op.mk 0 0)))) else none else none else some (([]:List Entry))
def Zec (x:Unit×Int):Option (List Entry):=Zeb x.1 x.2
def ZcA (x0:List Entry) (x1:List (List Entry)) (x2:Int) (x3:Int):Option (((List Entry)×(List (List Entry))×Int×Int)⊕(((List Entry)))) := bif decide (x3<x2) then bif decide (0<=x3) then bif decide (x3<(↑x1.length:Int)) then bif fewB (x0.length+List.length (x1.getD x3.toNat ([]:List Entry))) then some (Sum.inl (x0++x1.getD x3.toNat ([]:List Entry),x1,x2,Zaf .i64 (x3+1))) else none else none else none else some (Sum.inr x0)
def ZbN (x:(List Entry)×(List (List Entry))×Int×Int):Option (((List Entry)×(List (List Entry))×Int×Int)⊕(((List Entry)))):=ZcA x.1 x.2.1 x.2.2.1 x.2.2.2
def Zc8 (x:(List Entry)×(List (List Entry))×Int×Int):Option (((List Entry))):=Zay ZbN x
def ZcE (x0:List (List Entry)) (x1:Int) (x2:List (List Entry)) (x3:Int) (x4:Int):Option (((List (List Entry))×Int×(List (List Entry))×Int×Int)⊕(((List (List Entry))×Int))) := bif decide (x4<x3) then bif decide (0<=x4) then bif decide (x4<(↑x2.length:Int)) then bif decide (Zaf .i64 (x1+(↑(List.length (x2.getD x4.toNat ([]:List Entry))):Int))<0) then none else some (Sum.inl (x0,Zaf .i64 (x1+(↑(List.length (x2.getD x4.toNat ([]:List Entry))):Int)),x2,x3,Zaf .i64 (x4+1))) else none else none else some (Sum.inr (x0,x1))
def ZbU (x:(List (List Entry))×Int×(List (List Entry))×Int×Int):Option (((List (List Entry))×Int×(List (List Entry))×Int×Int)⊕(((List (List Entry))×Int))):=ZcE x.1 x.2.1 x.2.2.1 x.2.2.2.1 x.2.2.2.2
def Zdh (x:(List (List Entry))×Int×(List (List Entry))×Int×Int):Option (((List (List Entry))×Int)):=Zay ZbU x
def ZdG (x0:List (List Entry)):Option (List Entry) := match Zdh (x0,0,x0,(↑x0.length:Int),0) with
 | some y1 => match Zec ((),y1.snd) with
  | some y2 => match Zc8 (y2,y1.fst,(↑(List.length y1.fst):Int),0) with
   | some y3 => some y3
   | none=>none
  | none=>none
 | none=>none
def Zdy (x:(List (List Entry))):Option (List Entry):=ZdG x
def Zqs (x0:List (List Entry)):Option (List Entry) := match Zdy x0 with
 | some y1 => some y1
 | none=>none
def Zmw (x:(List (List Entry))):Option (List Entry):=Zqs x
def Zla (x0:Turn) (x1:Int) (x2:List Entry):Option Turn := match ZdU (x0.th.kids::(Kid.mk x1 (↑x0.th.batch.length:Int)::[])::[]) with
 | some y1 => match Zmw (x0.th.batch::x2::[]) with
  | some y2 => some ({ x0 with th:={ x0.th with batch:=y2,kids:=y1 } })
  | none=>none
 | none=>none
def Zf0 (x:Turn×Int×(List Entry)):Option Turn:=Zla x.1 x.2.1 x.2.2
def Znq (x0:Turn):Option Turn := match ZiR (x0.m,x0.th.who) with
 | some y1 => bif y1.snd != 0 then some (x0) else match Zf0 (x0,x0.th.who,y1.fst) with
  | some y2 => some ({ y2 with th:={ y2.th with phase:=10 } })
  | none=>none
 | none=>none
def Zh6 (x:Turn):Option Turn:=Znq x
def ZpY (x0:Turn):Option Turn := match ZfY x0 with
 | some y1 => match Zck (x0.m,y1,0) with
  | some y2 => bif y2.snd != 0 then some (x0) else match ZhM { x0 with m:=y2.fst } with
   | some y3 => some y3
   | none=>none
  | none=>none
 | none=>none
def Zlm (x:Turn):Option Turn:=ZpY x
def ZdB (x0:List (List Entry)):Option ((List (List Entry))) := bif fewB ((0:Nat)+x0.length) then some (x0) else none
def ZdI (x:(List (List Entry))):Option ((List (List Entry))):=ZdB x
def Zpx (x0:Memo) (x1:Int) (x2:List Entry):Option (Memo×Int) := match Zcz (x0.boxes,x1) with
 | some y1 => bif y1.snd != 0 then some ((x0,y1.snd)) else match ZdI x0.boxes with
  | some y2 => match Zbx x2 with
   | some y3 => bif decide (0<=x1) then bif decide (x1<(↑(List.length y2):Int)) then some (({ x0 with boxes:=List.set y2 x1.toNat y3 },0)) else none else none
   | none=>none
  | none=>none
 | none=>none
def Zjj (x:Memo×Int×(List Entry)):Option (Memo×Int):=Zpx x.1 x.2.1 x.2.2
def ZmM (x0:Turn):Option Turn := match Zjj (x0.m,x0.t,x0.th.batch) with
 | some y1 => bif y1.snd != 0 then some (x0) else some ({ x0 with m:=y1.fst,th:={ x0.th with phase:=12 } })
 | none=>none
def Zh5 (x:Turn):Option Turn:=ZmM x
def Zh9 (x0:Int):Option Int := match Zb0 (Said.mk 3 x0) with
 | some y1 => some y1
 | none=>none
def Zif (x:Int):Option Int:=Zh9 x
def Zm7 (x0:Turn):Option Turn := match ZeM (x0.c,x0.th.item,x0.th.stop) with
 | some y1 => match Zif x0.t with
  | some y2 => match Zck (x0.m,y1,y2) with
   | some y3 => bif y3.snd != 0 then some (x0) else some ({ x0 with m:=y3.fst,th:={ x0.th with phase:=13 } })
   | none=>none
  | none=>none
 | none=>none
def Zii (x:Turn):Option Turn:=Zm7 x
def ZkP (x0:Turn):Option (Turn×Bool) := bif x0.th.phase == 7 then match Zlx x0 with
 | some y1 => some ((y1,true))
 | none=>none else bif x0.th.phase == 8 then match Zlh x0 with
  | some y1 => some ((y1,true))
  | none=>none else bif x0.th.phase == 9 then match Zh6 x0 with
   | some y1 => some ((y1,true))
   | none=>none else bif x0.th.phase == 10 then match Zlm x0 with
    | some y1 => some ((y1,true))
    | none=>none else bif x0.th.phase == 11 then match Zh5 x0 with
     | some y1 => some ((y1,true))
     | none=>none else bif x0.th.phase == 12 then match Zii x0 with
      | some y1 => some ((y1,true))
      | none=>none else some ((x0,false))
def ZkY (x:Turn):Option (Turn×Bool):=ZkP x
def Zsp (x0:Config) (x1:Int×Int×Int×Int×Int×Int×Int×Int×Int×Int×Int×Int×Int×Int×Int×Int×Int×Int×Int×Int×Int×Int×Int×Int) (x2:Int):Option ((Config×(Int×Int×Int×Int×Int×Int×Int×Int×Int×Int×Int×Int×Int×Int×Int×Int×Int×Int×Int×Int×Int×Int×Int×Int)×Int)⊕((Config)⊕(Int))) := bif decide (x2<8) then bif decide (0<=x2) then bif decide (x2<(↑(8:Nat):Int)) then bif decide (x2=(↑(0:Nat):Int)) then bif decide (x1.fst<x1.snd.fst) then some (Sum.inr (Sum.inr (Zaf .i64 (50+x2)))) else bif decide (x1.fst>x1.snd.snd.fst) then some (Sum.inr (Sum.inr (Zaf .i64 (50+x2)))) else some (Sum.inl (x0,x1,Zaf .i64 (x2+1))) else bif decide (x2=(↑((0:Nat)+(1:Nat)):Int)) then bif decide (x1.snd.snd.snd.fst<x1.snd.snd.snd.snd.fst) then some (Sum.inr (Sum.inr (Zaf .i64 (50+x2)))) else bif decide (x1.snd.snd.snd.fst>x1.snd.snd.snd.snd.snd.fst) then some (Sum.inr (Sum.inr (Zaf .i64 (50+x2)))) else some (Sum.inl (x0,x1,Zaf .i64 (x2+1))) else bif decide (x2=(↑((0:Nat)+(1:Nat)+(1:Nat)):Int)) then bif decide (x1.snd.snd.snd.snd.snd.snd.fst<x1.snd.snd.snd.snd.snd.snd.snd.fst) then some (Sum.inr (Sum.inr (Zaf .i64 (50+x2)))) else bif decide (x1.snd.snd.snd.snd.snd.snd.fst>x1.snd.snd.snd.snd.snd.snd.snd.snd.fst) then some (Sum.inr (Sum.inr (Zaf .i64 (50+x2)))) else some (Sum.inl (x0,x1,Zaf .i64 (x2+1))) else bif decide (x2=(↑((0:Nat)+(1:Nat)+(1:Nat)+(1:Nat)):Int)) then bif decide (x1.snd.snd.snd.snd.snd.snd.snd.snd.snd.fst<x1.snd.snd.snd.snd.snd.snd.snd.snd.snd.snd.fst) then some (Sum.inr (Sum.inr (Zaf .i64 (50+x2)))) else bif decide (x1.snd.snd.snd.snd.snd.snd.snd.snd.snd.fst>x1.snd.snd.snd.snd.snd.snd.snd.snd.snd.snd.snd.fst) then some (Sum.inr (Sum.inr (Zaf .i64 (50+x2)))) else some (Sum.inl (x0,x1,Zaf .i64 (x2+1))) else bif decide (x2=(↑((0:Nat)+(1:Nat)+(1:Nat)+(1:Nat)+(1:Nat)):Int)) then bif decide (x1.snd.snd.snd.snd.snd.snd.snd.snd.snd.snd.snd.snd.fst<x1.snd.snd.snd.snd.snd.snd.snd.snd.snd.snd.snd.snd.snd.fst) then some (Sum.inr (Sum.inr (Zaf .i64 (50+x2)))) else bif decide (x1.snd.snd.snd.snd.snd.snd.snd.snd.snd.snd.snd.snd.fst>x1.snd.snd.snd.snd.snd.snd.snd.snd.snd.snd.snd.snd.snd.snd.fst) then some (Sum.inr (Sum.inr (Zaf .i64 (50+x2)))) else some (Sum.inl (x0,x1,Zaf .i64 (x2+1))) else bif decide (x2=(↑((0:Nat)+(1:Nat)+(1:Nat)+(1:Nat)+(1:Nat)+(1:Nat)):Int)) then bif decide (x1.snd.snd.snd.snd.snd.snd.snd.snd.snd.snd.snd.snd.snd.snd.snd.fst<x1.snd.snd.snd.snd.snd.snd.snd.snd.snd.snd.snd.snd.snd.snd.snd.snd.fst) then some (Sum.inr (Sum.inr (Zaf .i64 (50+x2)))) else bif decide (x1.snd.snd.snd.snd.snd.snd.snd.snd.snd.snd.snd.snd.snd.snd.snd.fst>x1.snd.snd.snd.snd.snd.snd.snd.snd.snd.snd.snd.snd.snd.snd.snd.snd.snd.fst) then some (Sum.inr (Sum.inr (Zaf .i64 (50+x2)))) else some (Sum.inl (x0,x1,Zaf .i64 (x2+1))) else bif decide (x2=(↑((0:Nat)+(1:Nat)+(1:Nat)+(1:Nat)+(1:Nat)+(1:Nat)+(1:Nat)):Int)) then bif decide (x1.snd.snd.snd.snd.snd.snd.snd.snd.snd.snd.snd.snd.snd.snd.snd.snd.snd.snd.fst<x1.snd.snd.snd.snd.snd.snd.snd.snd.snd.snd.snd.snd.snd.snd.snd.snd.snd.snd.snd.fst) then some (Sum.inr (Sum.inr (Zaf .i64 (50+x2)))) else bif decide (x1.snd.snd.snd.snd.snd.snd.snd.snd.snd.snd.snd.snd.snd.snd.snd.snd.snd.snd.fst>x1.snd.snd.snd.snd.snd.snd.snd.snd.snd.snd.snd.snd.snd.snd.snd.snd.snd.snd.snd.snd.fst) then some (Sum.inr (Sum.inr (Zaf .i64 (50+x2)))) else some (Sum.inl (x0,x1,Zaf .i64 (x2+1))) else bif decide (x2=(↑((0:Nat)+(1:Nat)+(1:Nat)+(1:Nat)+(1:Nat)+(1:Nat)+(1:Nat)+(1:Nat)):Int)) then bif decide (x1.snd.snd.snd.snd.snd.snd.snd.snd.snd.snd.snd.snd.snd.snd.snd.snd.snd.snd.snd.snd.snd.fst<x1.snd.snd.snd.snd.snd.snd.snd.snd.snd.snd.snd.snd.snd.snd.snd.snd.snd.snd.snd.snd.snd.snd.fst) then some (Sum.inr (Sum.inr (Zaf .i64 (50+x2)))) else bif decide (x1.snd.snd.snd.snd.snd.snd.snd.snd.snd.snd.snd.snd.snd.snd.snd.snd.snd.snd.snd.snd.snd.fst>x1.snd.snd.snd.snd.snd.snd.snd.snd.snd.snd.snd.snd.snd.snd.snd.snd.snd.snd.snd.snd.snd.snd.snd) then some (Sum.inr (Sum.inr (Zaf .i64 (50+x2)))) else some (Sum.inl (x0,x1,Zaf .i64 (x2+1))) else none else none else none else some (Sum.inr (Sum.inl x0))
def ZeK (x:Config×(Int×Int×Int×Int×Int×Int×Int×Int×Int×Int×Int×Int×Int×Int×Int×Int×Int×Int×Int×Int×Int×Int×Int×Int)×Int):Option ((Config×(Int×Int×Int×Int×Int×Int×Int×Int×Int×Int×Int×Int×Int×Int×Int×Int×Int×Int×Int×Int×Int×Int×Int×Int)×Int)⊕((Config)⊕(Int))):=Zsp x.1 x.2.1 x.2.2
def ZcY (x:Config×(Int×Int×Int×Int×Int×Int×Int×Int×Int×Int×Int×Int×Int×Int×Int×Int×Int×Int×Int×Int×Int×Int×Int×Int)×Int):Option ((Config)⊕(Int)):=Zay ZeK x
def ZjG (x0:Config):Option Int := match ZcY (x0,(x0.threads,1,16,x0.items,1,4,x0.backend,1,3,x0.depth,0,4,x0.layers,0,3,x0.width,1,8,x0.spin,0,20,x0.wait,0,1000),0) with
 | some (.inl y1) => bif y1.bounded then bif decide (y1.init<y1.lo) then some (58) else bif decide (y1.hi<y1.init) then some (58) else some (0) else some (0)
 | some (.inr y2) => some y2
 | none=>none
def Zfm (x:Config):Option Int:=ZjG x
def ZiC (x0:Int) (x1:Int):Option Bool := bif decide (0<=x0) then some (decide (x0<x1)) else some (false)
def ZdQ (x:Int×Int):Option Bool:=ZiC x.1 x.2
def Zqw (x0:Int):Option Bool := bif decide (1<=x0) then some (decide (x0<=9)) else some (false)
def ZmN (x:Int):Option Bool:=Zqw x
def Zpj (x0:Op) (x1:Bool):Option Bool := bif !x1 then match ZmN x0.tag with
 | some y1 => bif y1 then some (decide (x0.tag<8)) else some (false)
 | none=>none else bif x0.tag == 9 then some (decide (x0.v>=0)) else some (x0.tag == 8)
def ZlI (x:Op×Bool):Option Bool:=Zpj x.1 x.2
def Zjv (x0:Config) (x1:SEntry):Option Int := bif x1.kind == 1 then bif x1.kind == 1 then match ZdQ (x1.t,x0.threads) with
 | some y1 => bif !y1 then some (91) else bif x1.kind == 2 then some (0) else match ZdQ (x1.item,x0.items) with
  | some y2 => bif !y2 then some (92) else match ZlI (x1.op,x0.bounded) with
   | some y3 => bif !y3 then some (93) else some (0)
   | none=>none
  | none=>none
 | none=>none else bif x1.kind == 3 then some (0) else some (90) else bif x1.kind == 2 then match ZdQ (x1.t,x0.threads) with
 | some y1 => bif !y1 then some (91) else bif x1.kind == 2 then some (0) else match ZdQ (x1.item,x0.items) with
  | some y2 => bif !y2 then some (92) else match ZlI (x1.op,x0.bounded) with
   | some y3 => bif !y3 then some (93) else some (0)
   | none=>none
  | none=>none
 | none=>none else bif x1.kind == 3 then some (0) else some (90)
def Zhd (x:Config×SEntry):Option Int:=Zjv x.1 x.2
def ZfD (x0:Config) (x1:List SEntry) (x2:Int) (x3:Int):Option ((Config×(List SEntry)×Int×Int)⊕((Unit)⊕(Int×Int))) := bif decide (x3<x2) then bif decide (0<=x3) then bif decide (x3<(↑x1.length:Int)) then match Zhd (x0,x1.getD x3.toNat Za6) with
 | some y1 => bif y1 != 0 then some (Sum.inr (Sum.inr (x3,y1))) else some (Sum.inl (x0,x1,x2,Zaf .i64 (x3+1)))
 | none=>none else none else none else some (Sum.inr (Sum.inl ()))
def Zg1 (x:Config×(List SEntry)×Int×Int):Option ((Config×(List SEntry)×Int×Int)⊕((Unit)⊕(Int×Int))):=ZfD x.1 x.2.1 x.2.2.1 x.2.2.2
def Zj0 (x:Config×(List SEntry)×Int×Int):Option ((Unit)⊕(Int×Int)):=Zay Zg1 x
def Znr (x0:Config) (x1:List SEntry):Option (Int×Int) := match Zfm x0 with
 | some y1 => bif y1 != 0 then some ((0,y1)) else bif decide ((↑x1.length:Int)>65536) then some ((0,2)) else match Zj0 (x0,x1,(↑x1.length:Int),0) with
  | some (.inl y2) => some ((0,0))
  | some (.inr y3) => some y3
  | none=>none
 | none=>none
def Zjk (x:Config×(List SEntry)):Option (Int×Int):=Znr x.1 x.2
def Zi3 (x0:Turn):Option Turn := bif decide (x0.th.layer<x0.c.layers) then match ZdV { x0 with th:={ x0.th with phase:=2 } } with
 | some y1 => bif !y1 then some ({ x0 with th:={ x0.th with phase:=17,layer:=Zaf .i64 (x0.th.layer+1) } }) else some ({ x0 with th:={ x0.th with phase:=2 } })
 | none=>none else some ({ x0 with th:={ x0.th with phase:=2 } })
def ZcC (x:Turn):Option Turn:=Zi3 x
def Zko (x0:Int) (x1:Int):Option Int := match Zb0 (Said.mk 4 (Zaf .i64 (Zaf .i64 (x0*2 ^ min (Int.toNat 4) IntKind.i64.bits)+x1))) with
 | some y1 => some y1
 | none=>none
def Zkn (x:Int×Int):Option Int:=Zko x.1 x.2
def Zjb (x0:Turn×Int) (x1:Int):Option Int := match Zc9 (x0.fst.c,x1) with
 | some y1 => some y1
 | none=>none
def Zcb (x:(Turn×Int)×Int):Option Int:=Zjb x.1 x.2
def ZrC (x0:Int) (x1:Int):Option (Int×Int) :=
 some ((Zaf IntKind.u64 (Zaf IntKind.u64 (Zaf IntKind.u64 (x0.fdiv (2 ^ min (Int.toNat 32) IntKind.u64.bits)*x1.fdiv (2 ^ min (Int.toNat 32) IntKind.u64.bits))+(Zaf IntKind.u64 (Zaf IntKind.u64 (x0.fdiv (2 ^ min (Int.toNat 32) IntKind.u64.bits)*Zaf IntKind.u64 (↑(BitVec.ofInt IntKind.u64.bits x1 &&& BitVec.ofInt IntKind.u64.bits 4294967295).toNat:Int))+(Zaf IntKind.u64 (Zaf IntKind.u64 (↑(BitVec.ofInt IntKind.u64.bits x0 &&& BitVec.ofInt IntKind.u64.bits 4294967295).toNat:Int)*Zaf IntKind.u64 (↑(BitVec.ofInt IntKind.u64.bits x1 &&& BitVec.ofInt IntKind.u64.bits 4294967295).toNat:Int))).fdiv (2 ^ min (Int.toNat 32) IntKind.u64.bits))).fdiv (2 ^ min (Int.toNat 32) IntKind.u64.bits))+(Zaf IntKind.u64 (Zaf IntKind.u64 (↑(BitVec.ofInt IntKind.u64.bits (Zaf IntKind.u64 (Zaf IntKind.u64 (x0.fdiv (2 ^ min (Int.toNat 32) IntKind.u64.bits)*Zaf IntKind.u64 (↑(BitVec.ofInt IntKind.u64.bits x1 &&& BitVec.ofInt IntKind.u64.bits 4294967295).toNat:Int))+(Zaf IntKind.u64 (Zaf IntKind.u64 (↑(BitVec.ofInt IntKind.u64.bits x0 &&& BitVec.ofInt IntKind.u64.bits 4294967295).toNat:Int)*Zaf IntKind.u64 (↑(BitVec.ofInt IntKind.u64.bits x1 &&& BitVec.ofInt IntKind.u64.bits 4294967295).toNat:Int))).fdiv (2 ^ min (Int.toNat 32) IntKind.u64.bits))) &&& BitVec.ofInt IntKind.u64.bits 4294967295).toNat:Int)+Zaf IntKind.u64 (Zaf IntKind.u64 (↑(BitVec.ofInt IntKind.u64.bits x0 &&& BitVec.ofInt IntKind.u64.bits 4294967295).toNat:Int)*x1.fdiv (2 ^ min (Int.toNat 32) IntKind.u64.bits)))).fdiv (2 ^ min (Int.toNat 32) IntKind.u64.bits)),Zaf IntKind.u64 (x0*x1)))
def ZlB (x:Int×Int):Option (Int×Int):=ZrC x.1 x.2
def Zs9 (x0:Int) (x1:Int):Option (Int×Int) := match ZlB (x0,x1) with
 | some y1 => some y1
 | none=>none
def ZdL (x:Int×Int):Option (Int×Int):=Zs9 x.1 x.2
def ZjD (x0:List Thread):Option (List Thread) := bif fewB ((0:Nat)+x0.length) then some (x0) else none
def Zj2 (x:(List Thread)):Option (List Thread):=ZjD x
def ZkQ (x0:List Mark):Option (List Mark) := bif fewB ((0:Nat)+x0.length) then some (x0) else none
def Zlw (x:(List Mark)):Option (List Mark):=ZkQ x
def Zlr (x0:List Event):Option (List Event) := bif fewB ((0:Nat)+x0.length) then some (x0) else none
def Zls (x:(List Event)):Option (List Event):=Zlr x
def ZrT:Option Int := match Zb0 (Said.mk 5 (-1:Int)) with
 | some y1 => some y1
 | none=>none
def ZhC (x:Unit):Option Int:=ZrT
def Zkb (x0:Config) (x1:Int):Option Int := bif decide (x1<0) then some ((-1:Int)) else bif decide (x1>=x0.threads) then some ((-1:Int)) else match ZcB x0 with
 | some y1 => some (Zaf .i64 (Zaf .i64 (y1.lines+Zaf .i64 (2*x1))+1))
 | none=>none
def ZfC (x:Config×Int):Option Int:=Zkb x.1 x.2
def ZjO (x0:Turn):Option Turn := bif decide (x0.th.at_<0) then some ({ x0 with th:={ x0.th with phase:=0 },done:=true }) else bif decide (x0.th.at_>=(↑x0.th.kids.length:Int)) then some ({ x0 with th:={ x0.th with phase:=0 },done:=true }) else bif decide (0<=x0.th.at_) then bif decide (x0.th.at_<(↑x0.th.kids.length:Int)) then some ({ x0 with th:={ x0.th with phase:=15 } }) else none else none
def Zdk (x:Turn):Option Turn:=ZjO x
def Zl4 (x0:List Entry) (x1:Int):Option (List Entry) := bif decide (0<=if (if (↑x0.length:Int)<x1 then (↑x0.length:Int) else x1)>0 then if (↑x0.length:Int)<x1 then (↑x0.length:Int) else x1 else 0) then bif decide ((if (if (↑x0.length:Int)<x1 then (↑x0.length:Int) else x1)>0 then if (↑x0.length:Int)<x1 then (↑x0.length:Int) else x1 else 0)<=(↑x0.length:Int)) then match Zbx (List.drop (Int.toNat 0) (List.take (if (if (↑x0.length:Int)<x1 then (↑x0.length:Int) else x1)>0 then if (↑x0.length:Int)<x1 then (↑x0.length:Int) else x1 else 0).toNat x0)) with
 | some y1 => some y1
 | none=>none else none else none
def ZmU (x:(List Entry)×Int):Option (List Entry):=Zl4 x.1 x.2
def ZpQ (x0:Int) (x1:Int) (x2:Int) (x3:Int):Option Bool := bif decide (x1>=0) then bif decide (Zaf .i64 (x0+x1)>=x0) then bif decide (Zaf .i64 (x0+x1)<x2) then some (true) else some (decide (Zaf .i64 (x0+x1)>x3)) else bif decide (x1<0) then bif decide (Zaf .i64 (x0+x1)<x0) then bif decide (Zaf .i64 (x0+x1)<x2) then some (true) else some (decide (Zaf .i64 (x0+x1)>x3)) else some (true) else some (true) else bif decide (x1<0) then bif decide (Zaf .i64 (x0+x1)<x0) then bif decide (Zaf .i64 (x0+x1)<x2) then some (true) else some (decide (Zaf .i64 (x0+x1)>x3)) else some (true) else some (true)
def Zk7 (x:Int×Int×Int×Int):Option Bool:=ZpQ x.1 x.2.1 x.2.2.1 x.2.2.2
def Zjo (x0:Op) (x1:Int) (x2:Int) (x3:Int):Option (Int×Bool) := bif x0.tag == 2 then some ((Zaf .i64 (x1+Zaf .i64 (0-x0.v)),true)) else bif x0.tag == 1 then some ((Zaf .i64 (x1+x0.v),true)) else bif x0.tag == 3 then some ((Zaf .i64 (↑(BitVec.ofInt IntKind.i64.bits x1 ||| BitVec.ofInt IntKind.i64.bits x0.v).toNat:Int),true)) else bif x0.tag == 4 then some ((Zaf .i64 (↑(BitVec.ofInt IntKind.i64.bits x1 &&& BitVec.ofInt IntKind.i64.bits x0.v).toNat:Int),true)) else bif x0.tag == 5 then some ((if x1>x0.v then x1 else x0.v,true)) else bif x0.tag == 6 then some ((if x1<x0.v then x1 else x0.v,true)) else bif x0.tag == 7 then some ((x0.v,true)) else bif x0.tag == 9 then bif decide (x0.v<0) then some ((x1,false)) else bif decide (x1<x2) then some ((x1,false)) else bif decide (Zaf .i64 (x1-x0.v)<=x1) then bif decide (Zaf .i64 (x1-x0.v)>=x2) then some ((Zaf .i64 (x1-x0.v),true)) else some ((x2,true)) else some ((x2,true)) else bif x0.tag == 8 then match Zk7 (x1,x0.v,x2,x3) with
 | some y1 => bif !y1 then some ((Zaf .i64 (x1+x0.v),true)) else some ((x1,false))
 | none=>none else some ((x1,false))
def ZeA (x:Op×Int×Int×Int):Option (Int×Bool):=Zjo x.1 x.2.1 x.2.2.1 x.2.2.2
def Zhr (x0:Memo) (x1:Int) (x2:Int):Option (Memo×Int×Int) := match ZbP (x0.words,x1) with
 | some y1 => bif y1.snd != 0 then some ((x0,0,y1.snd)) else match ZbI x0.words with
  | some y2 => bif decide (0<=x1) then bif decide (x1<(↑(List.length y2):Int)) then some (({ x0 with words:=List.set y2 x1.toNat x2 },y1)) else none else none
  | none=>none
 | none=>none
def Zon (x:Memo×Int×Int):Option (Memo×Int×Int):=Zhr x.1 x.2.1 x.2.2
def Zme (x0:Config) (x1:Int) (x2:Int) (x3:Int):Option Int := bif decide (x1<0) then some ((-1:Int)) else bif decide (x1>=x0.items) then some ((-1:Int)) else bif decide (x2<1) then some ((-1:Int)) else bif decide (x2>=Zaf .i64 (1+x0.layers)) then some ((-1:Int)) else bif decide (x3<0) then some ((-1:Int)) else bif decide (x3>=x0.width) then some ((-1:Int)) else match ZcB x0 with
 | some y1 => match ZcB x0 with
  | some y2 => some (Zaf .i64 (Zaf .i64 (Zaf .i64 (Zaf .i64 (x1*y1.block)+y2.slots)+Zaf .i64 (Zaf .i64 (x2-1)*x0.width))+x3))
  | none=>none
 | none=>none
def Zmm (x:Config×Int×Int×Int):Option Int:=Zme x.1 x.2.1 x.2.2.1 x.2.2.2
def ZhJ (x0:Tape):Option Int := bif decide (x0.at_<0) then some (0) else some (if Zaf .i64 ((↑x0.l.length:Int)-x0.at_)>0 then Zaf .i64 ((↑x0.l.length:Int)-x0.at_) else 0)
def Zf8 (x:Tape):Option Int:=ZhJ x
end Go.Proofs.Mill
