/- What the functions compute. -/
import Derived.Test.YtecgogmolkjhjaaGreatMillAll3
set_option linter.all false
noncomputable section
namespace Go.Proofs.Mill
def Zti (x0:Turn) (x1:Int):Option ((Turn×Int)⊕((Turn)⊕(Bool))) := bif decide (x1<(↑x0.m.boxes.length:Int)) then bif decide (x1<(20:Int)) then bif decide ((0:Int)<=x1) then bif decide (x1<(↑x0.m.boxes.length:Int)) then bif decide ((↑(List.length (x0.m.boxes.getD x1.toNat ([]:List Entry))):Int)>(20:Int)) then some (Sum.inr (Sum.inr true)) else some (Sum.inl (x0,Zaf IntKind.i64 (x1+(1:Int)))) else none else none else some (Sum.inr (Sum.inl x0)) else some (Sum.inr (Sum.inl x0))
def Zj6 (x:Turn×Int):Option ((Turn×Int)⊕((Turn)⊕(Bool))):=Zti x.1 x.2
def Zth (x:Turn×Int):Option ((Turn)⊕(Bool)):=Zav Zj6 x
def Zwy (x0:Turn):Option (Bool) := match Zth (x0,(0:Int)) with
 | some (.inl y1) => bif decide ((↑y1.m.words.length:Int)>(400:Int)) then some (true) else bif decide ((↑y1.m.boxes.length:Int)>(16:Int)) then some (true) else bif decide ((↑y1.th.batch.length:Int)>(20:Int)) then some (true) else bif decide ((↑y1.th.kids.length:Int)>(20:Int)) then some (true) else bif decide ((↑y1.th.held.length:Int)>(20:Int)) then some (true) else bif decide ((↑y1.tape.l.length:Int)>(100:Int)) then some (true) else some (decide ((↑y1.log.length:Int)>(50:Int)))
 | some (.inr y2) => some (y2)
 | none=>none
def Zmj (x:Turn):Option (Bool):=Zwy x
def ZdH (x0:Config):Option (Int) := bif decide (x0.threads<(1:Int)) then some ((50:Int)) else bif decide (x0.threads>(16:Int)) then some ((50:Int)) else bif decide (x0.items<(1:Int)) then some ((51:Int)) else bif decide (x0.items>(4:Int)) then some ((51:Int)) else bif decide (x0.backend<(1:Int)) then some ((52:Int)) else bif decide (x0.backend>(3:Int)) then some ((52:Int)) else bif decide (x0.depth<(0:Int)) then some ((53:Int)) else bif decide (x0.depth>(4:Int)) then some ((53:Int)) else bif decide (x0.layers<(0:Int)) then some ((54:Int)) else bif decide (x0.layers>(3:Int)) then some ((54:Int)) else bif decide (x0.width<(1:Int)) then some ((55:Int)) else bif decide (x0.width>(8:Int)) then some ((55:Int)) else bif decide (x0.spin<(0:Int)) then some ((56:Int)) else bif decide (x0.spin>(20:Int)) then some ((56:Int)) else bif decide (x0.wait<(0:Int)) then some ((57:Int)) else bif decide (x0.wait>(1000:Int)) then some ((57:Int)) else bif x0.bounded then bif decide (x0.lo>x0.init) then some ((58:Int)) else bif decide (x0.init>x0.hi) then some ((58:Int)) else some ((0:Int)) else some ((0:Int))
def Zel (x:Config):Option (Int):=ZdH x
def Zq0 (x0:Config) (x1:Int) (x2:Int):Option ((Config×Int×Int)⊕((Int))) := bif decide (x2<x0.depth) then some (Sum.inl (x0,Zaf IntKind.i64 ((2:Int)*x1),Zaf IntKind.i64 (x2+(1:Int)))) else some (Sum.inr x1)
def Zhw (x:Config×Int×Int):Option ((Config×Int×Int)⊕((Int))):=Zq0 x.1 x.2.1 x.2.2
def ZqV (x:Config×Int×Int):Option ((Int)):=Zav Zhw x
def ZtY (x0:Config):Option (Int) := match ZqV (x0,(1:Int),(0:Int)) with
 | some y1 => some (Zaf IntKind.i64 (y1-(1:Int)))
 | none=>none
def Zfg (x:Config):Option (Int):=ZtY x
def ZtL (x0:Config):Option (Int) := match Zfg x0 with
 | some y1 => some (Zaf IntKind.i64 (Zaf IntKind.i64 ((1:Int)+y1)+Zaf IntKind.i64 (x0.layers*x0.width)))
 | none=>none
def ZdN (x:Config):Option (Int):=ZtL x
def Zux (x0:Config):Option (Int) := match ZdN x0 with
 | some y1 => some (Zaf IntKind.i64 (Zaf IntKind.i64 (x0.items*y1)+Zaf IntKind.i64 ((2:Int)*x0.threads)))
 | none=>none
def ZfQ (x:Config):Option (Int):=Zux x
def Zw4 (x0:Turn):Option (Bool) := match Zel x0.c with
 | some y1 => bif y1 == (0:Int) then bif decide (x0.t>=(0:Int)) then bif decide (x0.t<x0.c.threads) then match ZfQ x0.c with
  | some y2 => bif (↑x0.m.words.length:Int) == y2 then bif (↑x0.m.boxes.length:Int) == x0.c.threads then bif decide (x0.th.item>=(0:Int)) then some (decide (x0.th.item<x0.c.items)) else some (false) else some (false) else some (false)
  | none=>none else some (false) else some (false) else some (false)
 | none=>none
def Zmf (x:Turn):Option (Bool):=Zw4 x
def ZiB (x0:List Entry) (x1:List Entry) (x2:Int):Option (((List Entry)×(List Entry)×Int)⊕((Unit)⊕(Bool))) := bif decide (x2<(↑x0.length:Int)) then bif decide ((0:Int)<=x2) then bif decide (x2<(↑x0.length:Int)) then bif decide ((0:Int)<=x2) then bif decide (x2<(↑x1.length:Int)) then bif !((x0.getD x2.toNat Zcn).t == (x1.getD x2.toNat Zcn).t && ((x0.getD x2.toNat Zcn).op.tag == (x1.getD x2.toNat Zcn).op.tag && ((x0.getD x2.toNat Zcn).op.v == (x1.getD x2.toNat Zcn).op.v && true) && true)) then some (Sum.inr (Sum.inr false)) else some (Sum.inl (x0,x1,Zaf IntKind.i64 (x2+(1:Int)))) else none else none else none else none else some (Sum.inr (Sum.inl ()))
def Ze0 (x:(List Entry)×(List Entry)×Int):Option (((List Entry)×(List Entry)×Int)⊕((Unit)⊕(Bool))):=ZiB x.1 x.2.1 x.2.2
def ZmK (x:(List Entry)×(List Entry)×Int):Option ((Unit)⊕(Bool)):=Zav Ze0 x
def ZhC (x0:List Entry) (x1:List Entry):Option (Bool) := bif (↑x0.length:Int) != (↑x1.length:Int) then some (false) else match ZmK (x0,x1,(0:Int)) with
 | some (.inl y1) => some (true)
 | some (.inr y2) => some (y2)
 | none=>none
def Zf0 (x:(List Entry)×(List Entry)):Option (Bool):=ZhC x.1 x.2
def ZiX (x0:List Int) (x1:List Int) (x2:Int):Option (((List Int)×(List Int)×Int)⊕((Unit)⊕(Bool))) := bif decide (x2<(↑x0.length:Int)) then bif decide ((0:Int)<=x2) then bif decide (x2<(↑x0.length:Int)) then bif decide ((0:Int)<=x2) then bif decide (x2<(↑x1.length:Int)) then bif x0.getD x2.toNat (0:Int) != x1.getD x2.toNat (0:Int) then some (Sum.inr (Sum.inr false)) else some (Sum.inl (x0,x1,Zaf IntKind.i64 (x2+(1:Int)))) else none else none else none else none else some (Sum.inr (Sum.inl ()))
def ZeW (x:(List Int)×(List Int)×Int):Option (((List Int)×(List Int)×Int)⊕((Unit)⊕(Bool))):=ZiX x.1 x.2.1 x.2.2
def ZmD (x:(List Int)×(List Int)×Int):Option ((Unit)⊕(Bool)):=Zav ZeW x
def Zlu (x0:List Int) (x1:List Int):Option (Bool) := bif (↑x0.length:Int) != (↑x1.length:Int) then some (false) else match ZmD (x0,x1,(0:Int)) with
 | some (.inl y1) => some (true)
 | some (.inr y2) => some (y2)
 | none=>none
def Zf7 (x:(List Int)×(List Int)):Option (Bool):=Zlu x.1 x.2
def ZiQ (x0:Memo) (x1:Memo) (x2:Int):Option ((Memo×Memo×Int)⊕((Unit)⊕(Bool))) := bif decide (x2<(↑x0.boxes.length:Int)) then bif decide ((0:Int)<=x2) then bif decide (x2<(↑x0.boxes.length:Int)) then bif decide ((0:Int)<=x2) then bif decide (x2<(↑x1.boxes.length:Int)) then match Zf0 (x0.boxes.getD x2.toNat ([]:List Entry),x1.boxes.getD x2.toNat ([]:List Entry)) with
 | some y1 => bif !y1 then some (Sum.inr (Sum.inr false)) else some (Sum.inl (x0,x1,Zaf IntKind.i64 (x2+(1:Int))))
 | none=>none else none else none else none else none else some (Sum.inr (Sum.inl ()))
def ZeU (x:Memo×Memo×Int):Option ((Memo×Memo×Int)⊕((Unit)⊕(Bool))):=ZiQ x.1 x.2.1 x.2.2
def Zmu (x:Memo×Memo×Int):Option ((Unit)⊕(Bool)):=Zav ZeU x
def ZkN (x0:Memo) (x1:Memo):Option (Bool) := match Zf7 (x0.words,x1.words) with
 | some y1 => bif !y1 then some (false) else bif (↑x0.boxes.length:Int) != (↑x1.boxes.length:Int) then some (false) else match Zmu (x0,x1,(0:Int)) with
  | some (.inl y2) => some (true)
  | some (.inr y3) => some (y3)
  | none=>none
 | none=>none
def ZhP (x:Memo×Memo):Option (Bool):=ZkN x.1 x.2
def ZiA (x0:Thread) (x1:Thread) (x2:Int):Option ((Thread×Thread×Int)⊕((Thread×Thread)⊕(Bool))) := bif decide (x2<(↑x0.kids.length:Int)) then bif decide ((0:Int)<=x2) then bif decide (x2<(↑x0.kids.length:Int)) then bif decide ((0:Int)<=x2) then bif decide (x2<(↑x1.kids.length:Int)) then bif !((x0.kids.getD x2.toNat dKid).t == (x1.kids.getD x2.toNat dKid).t && ((x0.kids.getD x2.toNat dKid).ahead == (x1.kids.getD x2.toNat dKid).ahead && true)) then some (Sum.inr (Sum.inr false)) else some (Sum.inl (x0,x1,Zaf IntKind.i64 (x2+(1:Int)))) else none else none else none else none else some (Sum.inr (Sum.inl (x0,x1)))
def Ze1 (x:Thread×Thread×Int):Option ((Thread×Thread×Int)⊕((Thread×Thread)⊕(Bool))):=ZiA x.1 x.2.1 x.2.2
def ZmN (x:Thread×Thread×Int):Option ((Thread×Thread)⊕(Bool)):=Zav Ze1 x
def Zlr (x0:Thread) (x1:Thread):Option (Bool) := match Zf0 (x0.batch,x1.batch) with
 | some y1 => bif !y1 then some (false) else match Zf7 (x0.held,x1.held) with
  | some y2 => bif !y2 then some (false) else bif (↑x0.kids.length:Int) != (↑x1.kids.length:Int) then some (false) else match ZmN (x0,x1,(0:Int)) with
   | some (.inl y3) => bif y3.fst.phase == y3.snd.phase then bif y3.fst.item == y3.snd.item then bif y3.fst.op.tag == y3.snd.op.tag && (y3.fst.op.v == y3.snd.op.v && true) then bif y3.fst.stop == y3.snd.stop then bif y3.fst.node == y3.snd.node then bif y3.fst.at_ == y3.snd.at_ then bif y3.fst.layer == y3.snd.layer then bif y3.fst.left == y3.snd.left then bif y3.fst.width == y3.snd.width then bif y3.fst.who == y3.snd.who then bif y3.fst.x == y3.snd.x then bif y3.fst.y == y3.snd.y then some (y3.fst.until_ == y3.snd.until_) else some (false) else some (false) else some (false) else some (false) else some (false) else some (false) else some (false) else some (false) else some (false) else some (false) else some (false) else some (false)
   | some (.inr y4) => some (y4)
   | none=>none
  | none=>none
 | none=>none
def Zik (x:Thread×Thread):Option (Bool):=Zlr x.1 x.2
def Zi6 (x0:Tape) (x1:Tape) (x2:Int):Option ((Tape×Tape×Int)⊕((Unit)⊕(Bool))) := bif decide (x2<(↑x0.l.length:Int)) then bif decide ((0:Int)<=x2) then bif decide (x2<(↑x0.l.length:Int)) then bif decide ((0:Int)<=x2) then bif decide (x2<(↑x1.l.length:Int)) then bif x0.l.getD x2.toNat (0:Int) != x1.l.getD x2.toNat (0:Int) then some (Sum.inr (Sum.inr false)) else some (Sum.inl (x0,x1,Zaf IntKind.i64 (x2+(1:Int)))) else none else none else none else none else some (Sum.inr (Sum.inl ()))
def ZeX (x:Tape×Tape×Int):Option ((Tape×Tape×Int)⊕((Unit)⊕(Bool))):=Zi6 x.1 x.2.1 x.2.2
def Zmz (x:Tape×Tape×Int):Option ((Unit)⊕(Bool)):=Zav ZeX x
def Zk1 (x0:Tape) (x1:Tape):Option (Bool) := bif x0.at_ != x1.at_ then some (false) else bif (↑x0.l.length:Int) != (↑x1.l.length:Int) then some (false) else match Zmz (x0,x1,(0:Int)) with
 | some (.inl y1) => some (true)
 | some (.inr y2) => some (y2)
 | none=>none
def Zh5 (x:Tape×Tape):Option (Bool):=Zk1 x.1 x.2
def Zh3 (x0:List Mark) (x1:List Mark) (x2:Int):Option (((List Mark)×(List Mark)×Int)⊕((Unit)⊕(Bool))) := bif decide (x2<(↑x0.length:Int)) then bif decide ((0:Int)<=x2) then bif decide (x2<(↑x0.length:Int)) then bif decide ((0:Int)<=x2) then bif decide (x2<(↑x1.length:Int)) then bif !((x0.getD x2.toNat Za1).t == (x1.getD x2.toNat Za1).t && ((x0.getD x2.toNat Za1).item == (x1.getD x2.toNat Za1).item && ((x0.getD x2.toNat Za1).op.tag == (x1.getD x2.toNat Za1).op.tag && ((x0.getD x2.toNat Za1).op.v == (x1.getD x2.toNat Za1).op.v && true) && ((x0.getD x2.toNat Za1).prior == (x1.getD x2.toNat Za1).prior && ((x0.getD x2.toNat Za1).step == (x1.getD x2.toNat Za1).step && true))))) then some (Sum.inr (Sum.inr false)) else some (Sum.inl (x0,x1,Zaf IntKind.i64 (x2+(1:Int)))) else none else none else none else none else some (Sum.inr (Sum.inl ()))
def Zeu (x:(List Mark)×(List Mark)×Int):Option (((List Mark)×(List Mark)×Int)⊕((Unit)⊕(Bool))):=Zh3 x.1 x.2.1 x.2.2
def ZlT (x:(List Mark)×(List Mark)×Int):Option ((Unit)⊕(Bool)):=Zav Zeu x
def ZjU (x0:List Mark) (x1:List Mark):Option (Bool) := bif (↑x0.length:Int) != (↑x1.length:Int) then some (false) else match ZlT (x0,x1,(0:Int)) with
 | some (.inl y1) => some (true)
 | some (.inr y2) => some (y2)
 | none=>none
def ZgV (x:(List Mark)×(List Mark)):Option (Bool):=ZjU x.1 x.2
def ZtX (x0:Turn) (x1:Turn):Option (Bool) := bif x0.c.threads == x1.c.threads && (x0.c.items == x1.c.items && (x0.c.backend == x1.c.backend && (x0.c.depth == x1.c.depth && (x0.c.layers == x1.c.layers && (x0.c.width == x1.c.width && (x0.c.spin == x1.c.spin && (x0.c.wait == x1.c.wait && (x0.c.bounded == x1.c.bounded && (x0.c.lo == x1.c.lo && (x0.c.hi == x1.c.hi && (x0.c.init == x1.c.init && true))))))))))) then bif x0.t == x1.t then bif x0.now == x1.now then match ZhP (x0.m,x1.m) with
 | some y1 => bif y1 then match Zik (x0.th,x1.th) with
  | some y2 => bif y2 then match Zh5 (x0.tape,x1.tape) with
   | some y3 => bif y3 then match ZgV (x0.log,x1.log) with
    | some y4 => bif y4 then some (x0.done == x1.done) else some (false)
    | none=>none else some (false)
   | none=>none else some (false)
  | none=>none else some (false)
 | none=>none else some (false) else some (false) else some (false)
def ZjK (x:Turn×Turn):Option (Bool):=ZtX x.1 x.2
def Zpe (x0:List Entry) (x1:List Entry) (x2:Int):Option (((List Entry)×(List Entry)×Int)⊕(((List Entry)))) := bif decide (x2<(↑x0.length:Int)) then bif decide ((0:Int)<=x2) then bif decide (x2<(↑x0.length:Int)) then bif decide ((0:Int)<=x2) then bif decide (x2<(↑x0.length:Int)) then bif fewB (x1.length+(x0.getD x2.toNat Zcn::([]:List Entry)).length) then some (Sum.inl (x0,x1++x0.getD x2.toNat Zcn::([]:List Entry),Zaf IntKind.i64 (x2+(1:Int)))) else none else none else none else none else none else some (Sum.inr x1)
def Zgy (x:(List Entry)×(List Entry)×Int):Option (((List Entry)×(List Entry)×Int)⊕(((List Entry)))):=Zpe x.1 x.2.1 x.2.2
def Zpk (x:(List Entry)×(List Entry)×Int):Option (((List Entry))):=Zav Zgy x
def ZqK (x0:List Entry):Option ((List Entry)) := match Zpk (x0,([]:List Entry),(0:Int)) with
 | some y1 => some (y1)
 | none=>none
def Zh1 (x:(List Entry)):Option ((List Entry)):=ZqK x
def ZpP (x0:Memo) (x1:Memo) (x2:Memo) (x3:Int):Option ((Memo×Memo×Memo×Int)⊕((Memo×Memo))) := bif decide (x3<(↑x0.boxes.length:Int)) then bif decide ((0:Int)<=x3) then bif decide (x3<(↑x0.boxes.length:Int)) then match Zh1 (x0.boxes.getD x3.toNat ([]:List Entry)) with
 | some y1 => bif fewB (x2.boxes.length+(y1::([]:List (List Entry))).length) then some (Sum.inl (x0,x1,{ x2 with boxes:=x2.boxes++y1::([]:List (List Entry)) },Zaf IntKind.i64 (x3+(1:Int)))) else none
 | none=>none else none else none else some (Sum.inr (x1,x2))
def Zg8 (x:Memo×Memo×Memo×Int):Option ((Memo×Memo×Memo×Int)⊕((Memo×Memo))):=ZpP x.1 x.2.1 x.2.2.1 x.2.2.2
def Zp6 (x:Memo×Memo×Memo×Int):Option ((Memo×Memo)):=Zav Zg8 x
def Zsb (x0:Memo):Option (Memo) := match Zp6 (x0,Memo.mk ([]:List Int) ([]:List (List Entry)),{ x0 with boxes:=([]:List (List Entry)) },(0:Int)) with
 | some y1 => some (y1.snd)
 | none=>none
def Zmy (x:Memo):Option (Memo):=Zsb x
def Zqn (x0:Thread) (x1:Thread) (x2:Thread) (x3:Int):Option ((Thread×Thread×Thread×Int)⊕((Thread×Thread))) := bif decide (x3<(↑x0.kids.length:Int)) then bif decide ((0:Int)<=x3) then bif decide (x3<(↑x0.kids.length:Int)) then bif fewB (x2.kids.length+(x0.kids.getD x3.toNat dKid::([]:List Kid)).length) then some (Sum.inl (x0,x1,{ x2 with kids:=x2.kids++x0.kids.getD x3.toNat dKid::([]:List Kid) },Zaf IntKind.i64 (x3+(1:Int)))) else none else none else none else some (Sum.inr (x1,x2))
def Zie (x:Thread×Thread×Thread×Int):Option ((Thread×Thread×Thread×Int)⊕((Thread×Thread))):=Zqn x.1 x.2.1 x.2.2.1 x.2.2.2
def ZrH (x:Thread×Thread×Thread×Int):Option ((Thread×Thread)):=Zav Zie x
def Ztt (x0:Thread):Option (Thread) := match Zh1 x0.batch with
 | some y1 => match ZrH (x0,Thread.mk (0:Int) (0:Int) (Op.mk (0:Int) (0:Int)) ([]:List Entry) ([]:List Kid) ([]:List Int) (0:Int) (0:Int) (0:Int) (0:Int) (0:Int) (0:Int) (0:Int) (0:Int) (0:Int) (0:Int),{ x0 with batch:=y1,kids:=([]:List Kid) },(0:Int)) with
  | some y2 => some (y2.snd)
  | none=>none
 | none=>none
def Znt (x:Thread):Option (Thread):=Ztt x
def Zq9 (x0:List Mark) (x1:List Mark) (x2:Int):Option (((List Mark)×(List Mark)×Int)⊕(((List Mark)))) := bif decide (x2<(↑x0.length:Int)) then bif decide ((0:Int)<=x2) then bif decide (x2<(↑x0.length:Int)) then bif decide ((0:Int)<=x2) then bif decide (x2<(↑x0.length:Int)) then bif decide ((0:Int)<=x2) then bif decide (x2<(↑x0.length:Int)) then bif decide ((0:Int)<=x2) then bif decide (x2<(↑x0.length:Int)) then bif decide ((0:Int)<=x2) then bif decide (x2<(↑x0.length:Int)) then bif fewB (x1.length+(x0.getD x2.toNat Za1::([]:List Mark)).length) then some (Sum.inl (x0,x1++x0.getD x2.toNat Za1::([]:List Mark),Zaf IntKind.i64 (x2+(1:Int)))) else none else none else none else none else none else none else none else none else none else none else none else some (Sum.inr x1)
def ZhH (x:(List Mark)×(List Mark)×Int):Option (((List Mark)×(List Mark)×Int)⊕(((List Mark)))):=Zq9 x.1 x.2.1 x.2.2
def ZqC (x:(List Mark)×(List Mark)×Int):Option (((List Mark))):=Zav ZhH x
def ZtT (x0:List Mark):Option ((List Mark)) := match ZqC (x0,([]:List Mark),(0:Int)) with
 | some y1 => some (y1)
 | none=>none
def Zny (x:(List Mark)):Option ((List Mark)):=ZtT x
def Zwz (x0:Turn):Option (Turn) := match Zmy x0.m with
 | some y1 => match Znt x0.th with
  | some y2 => match Zny x0.log with
   | some y3 => some ({ x0 with m:=y1,th:=y2,log:=y3 })
   | none=>none
  | none=>none
 | none=>none
def ZgL (x:Turn):Option (Turn):=Zwz x
def ZgK (x0:Int) (x1:Int):Option (Int×Bool) :=
 some ((Zaf IntKind.i64 (x0+x1),decide (x1>=(0:Int)) == decide (Zaf IntKind.i64 (x0+x1)>=x0)))
def Zft (x:Int×Int):Option (Int×Bool):=ZgK x.1 x.2
def ZcN (x0:Op) (x1:Int) (x2:Int) (x3:Int):Option (Int×Bool) := bif x0.tag == (1:Int) then some ((Zaf IntKind.i64 (x1+x0.v),true)) else bif x0.tag == (2:Int) then some ((Zaf IntKind.i64 (x1-x0.v),true)) else bif x0.tag == (3:Int) then some ((Zaf IntKind.i64 (↑(BitVec.ofInt IntKind.i64.bits x1 ||| BitVec.ofInt IntKind.i64.bits x0.v).toNat:Int),true)) else bif x0.tag == (4:Int) then some ((Zaf IntKind.i64 (↑(BitVec.ofInt IntKind.i64.bits x1 &&& BitVec.ofInt IntKind.i64.bits x0.v).toNat:Int),true)) else bif x0.tag == (5:Int) then some ((if x0.v>x1 then x0.v else x1,true)) else bif x0.tag == (6:Int) then some ((if x0.v<x1 then x0.v else x1,true)) else bif x0.tag == (7:Int) then some ((x0.v,true)) else bif x0.tag == (8:Int) then match Zft (x1,x0.v) with
 | some y1 => bif !y1.snd then some ((x1,false)) else bif decide (y1.fst<x2) then some ((x1,false)) else bif decide (y1.fst>x3) then some ((x1,false)) else some ((y1.fst,true))
 | none=>none else bif x0.tag == (9:Int) then bif decide (x0.v<(0:Int)) then some ((x1,false)) else bif decide (x1<x2) then some ((x1,false)) else bif decide (IntKind.u64.wrap x0.v>=Zaf IntKind.u64 (IntKind.u64.wrap x1-IntKind.u64.wrap x2)) then some ((x2,true)) else some ((Zaf IntKind.i64 (x1-x0.v),true)) else some ((x1,false))
def Zc6 (x:Op×Int×Int×Int):Option (Int×Bool):=ZcN x.1 x.2.1 x.2.2.1 x.2.2.2
def ZlP (x0:Int):Option ((List Int)) := bif decide (x0<(1:Int)) then some (([]:List Int)) else bif decide (x0>(10000:Int)) then some (([]:List Int)) else bif x0 == x0 then bif decide ((0:Int)<=x0) then bif decide (x0<=ZbC) then some (List.replicate x0.toNat (0:Int)) else none else none else none
def ZhS (x:Int):Option ((List Int)):=ZlP x
def ZfP (x0:Int):Option ((List (List Entry))) := bif decide (x0<(1:Int)) then some (([]:List (List Entry))) else bif decide (x0>(10000:Int)) then some (([]:List (List Entry))) else bif x0 == x0 then bif decide ((0:Int)<=x0) then bif decide (x0<=ZbC) then some (List.replicate x0.toNat ([]:List Entry)) else none else none else none
def Zd8 (x:Int):Option ((List (List Entry))):=ZfP x
def ZmR (x0:Int) (x1:Int):Option (Memo) := match ZhS x0 with
 | some y1 => match Zd8 x1 with
  | some y2 => some (Memo.mk y1 y2)
  | none=>none
 | none=>none
def Znc (x:Int×Int):Option (Memo):=ZmR x.1 x.2
def ZjV (x0:Config):Option (Int) := bif decide (x0.depth<(0:Int)) then none else some (Zaf IntKind.i64 (Zaf IntKind.i64 ((1:Int)*(2:Int) ^ min x0.depth.toNat IntKind.i64.bits)-(1:Int)))
def Zfr (x:Config):Option (Int):=ZjV x
def Zne (x0:Config):Option (Plan) := match Zfr x0 with
 | some y1 => some (Plan.mk (1:Int) (Zaf IntKind.i64 ((1:Int)+y1)) (Zaf IntKind.i64 (Zaf IntKind.i64 ((1:Int)+y1)+Zaf IntKind.i64 (x0.layers*x0.width))) (Zaf IntKind.i64 (x0.items*Zaf IntKind.i64 (Zaf IntKind.i64 ((1:Int)+y1)+Zaf IntKind.i64 (x0.layers*x0.width)))))
 | none=>none
def Zcs (x:Config):Option (Plan):=Zne x
def Zk3 (x0:Config):Option (Int) := match Zcs x0 with
 | some y1 => some (Zaf IntKind.i64 (y1.lines+Zaf IntKind.i64 ((2:Int)*x0.threads)))
 | none=>none
def ZkU (x:Config):Option (Int):=Zk3 x
def ZhL (x0:Config) (x1:Int):Option (Int) := bif decide (x1<(0:Int)) then some ((-1:Int)) else bif decide (x1>=x0.items) then some ((-1:Int)) else match Zcs x0 with
 | some y1 => some (Zaf IntKind.i64 (x1*y1.block))
 | none=>none
def Zdm (x:Config×Int):Option (Int):=ZhL x.1 x.2
def Zer (x0:Config) (x1:Memo) (x2:Memo) (x3:Int) (x4:Int):Option ((Config×Memo×Memo×Int×Int)⊕((Memo×Memo))) := bif decide (x4<x3) then match Zdm (x0,x4) with
 | some y1 => bif decide ((0:Int)<=y1) then bif decide (y1<(↑x2.words.length:Int)) then some (Sum.inl (x0,x1,{ x2 with words:=x2.words.set (Int.toNat y1) x0.init },x3,Zaf IntKind.i64 (x4+(1:Int)))) else none else none
 | none=>none else some (Sum.inr (x1,x2))
def ZfF (x:Config×Memo×Memo×Int×Int):Option ((Config×Memo×Memo×Int×Int)⊕((Memo×Memo))):=Zer x.1 x.2.1 x.2.2.1 x.2.2.2.1 x.2.2.2.2
def ZlZ (x:Config×Memo×Memo×Int×Int):Option ((Memo×Memo)):=Zav ZfF x
def ZjT (x0:Config):Option (Memo) := match ZkU x0 with
 | some y1 => match Znc (y1,x0.threads) with
  | some y2 => match ZlZ (x0,Memo.mk ([]:List Int) ([]:List (List Entry)),y2,x0.items,(0:Int)) with
   | some y3 => some (y3.snd)
   | none=>none
  | none=>none
 | none=>none
def ZdF (x:Config):Option (Memo):=ZjT x
def ZeV (x0:Int) (x1:Int):Option (Int) := bif decide (x0<(1:Int)) then some ((0:Int)) else bif decide (Zaf IntKind.i64 (x0-(1:Int))<(0:Int)) then none else some (Zaf IntKind.i64 (↑(BitVec.ofInt IntKind.i64.bits (Zaf IntKind.i64 ((1:Int)*(2:Int) ^ min (Zaf IntKind.i64 (x0-(1:Int))).toNat IntKind.i64.bits)) ||| BitVec.ofInt IntKind.i64.bits (Zaf IntKind.i64 (↑(BitVec.ofInt IntKind.i64.bits (x1.fdiv ((2:Int) ^ min (Int.toNat (1:Int)) IntKind.i64.bits)) &&& BitVec.ofInt IntKind.i64.bits (Zaf IntKind.i64 (Zaf IntKind.i64 ((1:Int)*(2:Int) ^ min (Zaf IntKind.i64 (x0-(1:Int))).toNat IntKind.i64.bits)-(1:Int)))).toNat:Int))).toNat:Int))
def ZkA (x:Int×Int):Option (Int):=ZeV x.1 x.2
def ZiD (x0:Config) (x1:Int) (x2:Thread) (x3:Int) (x4:Op) (x5:Int):Option (Thread) := match ZkA (x0.depth,x1) with
 | some y1 => bif decide (x0.wait>(0:Int)) then some (Thread.mk (1:Int) x3 x4 (Entry.mk x1 x4::([]:List Entry)) ([]:List Kid) ([]:List Int) (0:Int) y1 (0:Int) (0:Int) (0:Int) x2.width (0:Int) (0:Int) (0:Int) (Zaf IntKind.i64 (x5+x0.wait))) else some (Thread.mk (1:Int) x3 x4 (Entry.mk x1 x4::([]:List Entry)) ([]:List Kid) ([]:List Int) (0:Int) y1 (0:Int) (0:Int) (0:Int) x2.width (0:Int) (0:Int) (0:Int) (0:Int))
 | none=>none
def ZcU (x:Config×Int×Thread×Int×Op×Int):Option (Thread):=ZiD x.1 x.2.1 x.2.2.1 x.2.2.2.1 x.2.2.2.2.1 x.2.2.2.2.2
def ZvT:Option (Thread) :=
 some (Thread.mk (0:Int) (0:Int) (Op.mk (0:Int) (0:Int)) ([]:List Entry) ([]:List Kid) ([]:List Int) (0:Int) (0:Int) (0:Int) (0:Int) (0:Int) (1:Int) (0:Int) (0:Int) (0:Int) (0:Int))
def Zee (x:Unit):Option (Thread):=ZvT
def Zry (x0:Turn):Option (Bool) := match Zmf x0 with
 | some y1 => bif y1 then bif decide (x0.th.phase<(17:Int)) then some (true) else bif decide (x0.th.layer>=(1:Int)) then some (decide (x0.th.layer<=(3:Int))) else some (false) else some (false)
 | none=>none
def ZlW (x:Turn):Option (Bool):=Zry x
def ZwA (x0:Op) (x1:Bool):Option (Bool) := bif x1 then bif x0.tag == (8:Int) then some (true) else bif x0.tag == (9:Int) then some (decide (x0.v>=(0:Int))) else some (false) else bif decide (x0.tag>=(1:Int)) then some (decide (x0.tag<=(7:Int))) else some (false)
def Zl4 (x:Op×Bool):Option (Bool):=ZwA x.1 x.2
def ZrT (x0:Config):Option (Int) :=
 some (Zaf IntKind.i64 (Zaf IntKind.i64 ((20:Int)+Zaf IntKind.i64 ((8:Int)*x0.depth))+Zaf IntKind.i64 (x0.layers*Zaf IntKind.i64 ((20:Int)+Zaf IntKind.i64 ((2:Int)*x0.spin)))))
def Zmp (x:Config):Option (Int):=ZrT x
def Zfe (x0:Thread):Option (Bool) :=
 some (x0.phase != (0:Int))
def ZbH (x:Thread):Option (Bool):=Zfe x
def Zuw (x0:Config) (x1:Int):Option (Int) := bif decide (x1<(0:Int)) then some ((-1:Int)) else bif decide (x1>=x0.items) then some ((-1:Int)) else match ZdN x0 with
 | some y1 => some (Zaf IntKind.i64 (x1*y1))
 | none=>none
def ZeK (x:Config×Int):Option (Int):=Zuw x.1 x.2
def ZuY (x0:Config) (x1:Int) (x2:Int):Option (Int) := bif decide (x1<(0:Int)) then some ((-1:Int)) else bif decide (x1>=x0.items) then some ((-1:Int)) else bif decide (x2<(1:Int)) then some ((-1:Int)) else match Zfg x0 with
 | some y1 => bif decide (x2>y1) then some ((-1:Int)) else match ZdN x0 with
  | some y2 => some (Zaf IntKind.i64 (Zaf IntKind.i64 (x1*y2)+x2))
  | none=>none
 | none=>none
def ZfW (x:Config×Int×Int):Option (Int):=ZuY x.1 x.2.1 x.2.2
def Zwb (x0:Config) (x1:Int):Option (Int) := bif decide (x1<(0:Int)) then some ((-1:Int)) else bif decide (x1>=x0.threads) then some ((-1:Int)) else match ZdN x0 with
 | some y1 => some (Zaf IntKind.i64 (Zaf IntKind.i64 (x0.items*y1)+Zaf IntKind.i64 ((2:Int)*x1)))
 | none=>none
def Zdn (x:Config×Int):Option (Int):=Zwb x.1 x.2
def Zlk (x0:List SEntry) (x1:List Int):Option (Bool) := bif decide ((↑x0.length:Int)>(400:Int)) then some (true) else some (decide ((↑x1.length:Int)>(200:Int)))
def Zla (x:(List SEntry)×(List Int)):Option (Bool):=Zlk x.1 x.2
def ZtO (x0:Int) (x1:Memo) (x2:Memo) (x3:Int):Option ((Int×Memo×Memo×Int)⊕((Memo×Memo))) := bif decide (x3<x0) then bif decide (x0<=(10000:Int)) then bif fewB (x2.boxes.length+(([]:List Entry)::([]:List (List Entry))).length) then some (Sum.inl (x0,x1,{ x2 with boxes:=x2.boxes++([]:List Entry)::([]:List (List Entry)) },Zaf IntKind.i64 (x3+(1:Int)))) else none else some (Sum.inr (x1,x2)) else some (Sum.inr (x1,x2))
def ZjO (x:Int×Memo×Memo×Int):Option ((Int×Memo×Memo×Int)⊕((Memo×Memo))):=ZtO x.1 x.2.1 x.2.2.1 x.2.2.2
def ZtV (x:Int×Memo×Memo×Int):Option ((Memo×Memo)):=Zav ZjO x
def Zty (x0:Int) (x1:Int) (x2:Memo) (x3:Memo) (x4:Int):Option ((Int×Int×Memo×Memo×Int)⊕((Int×Memo×Memo))) := bif decide (x4<x0) then bif decide (x0<=(10000:Int)) then bif fewB (x3.words.length+((0:Int)::([]:List Int)).length) then some (Sum.inl (x0,x1,x2,{ x3 with words:=x3.words++(0:Int)::([]:List Int) },Zaf IntKind.i64 (x4+(1:Int)))) else none else some (Sum.inr (x1,x2,x3)) else some (Sum.inr (x1,x2,x3))
def ZjH (x:Int×Int×Memo×Memo×Int):Option ((Int×Int×Memo×Memo×Int)⊕((Int×Memo×Memo))):=Zty x.1 x.2.1 x.2.2.1 x.2.2.2.1 x.2.2.2.2
def Ztz (x:Int×Int×Memo×Memo×Int):Option ((Int×Memo×Memo)):=Zav ZjH x
def Zwv (x0:Int) (x1:Int):Option (Memo) := match Ztz (x0,x1,Memo.mk ([]:List Int) ([]:List (List Entry)),Memo.mk ([]:List Int) ([]:List (List Entry)),(0:Int)) with
 | some y1 => match ZtV (y1.fst,y1.snd.fst,y1.snd.snd,(0:Int)) with
  | some y2 => some (y2.snd)
  | none=>none
 | none=>none
def ZpA (x:Int×Int):Option (Memo):=Zwv x.1 x.2
def ZtC (x0:Memo) (x1:Int) (x2:Int):Option (Memo×Int) := bif decide (x1<(0:Int)) then some ((x0,(30:Int))) else bif decide (x1>=(↑x0.words.length:Int)) then some ((x0,(30:Int))) else bif fewB ((0:Nat)+x0.words.length) then bif decide ((0:Int)<=x1) then bif decide (x1<(↑x0.words.length:Int)) then some (({ x0 with words:=x0.words.set x1.toNat x2 },(0:Int))) else none else none else none
def ZcA (x:Memo×Int×Int):Option (Memo×Int):=ZtC x.1 x.2.1 x.2.2
def ZrC (x0:Config) (x1:Memo) (x2:Memo) (x3:Int):Option ((Config×Memo×Memo×Int)⊕((Memo×Memo))) := bif decide (x3<x0.items) then match ZeK (x0,x3) with
 | some y1 => match ZcA (x2,y1,x0.init) with
  | some y2 => some (Sum.inl (x0,x1,y2.fst,Zaf IntKind.i64 (x3+(1:Int))))
  | none=>none
 | none=>none else some (Sum.inr (x1,x2))
def Zh8 (x:Config×Memo×Memo×Int):Option ((Config×Memo×Memo×Int)⊕((Memo×Memo))):=ZrC x.1 x.2.1 x.2.2.1 x.2.2.2
def Zrp (x:Config×Memo×Memo×Int):Option ((Memo×Memo)):=Zav Zh8 x
def ZtK (x0:Config):Option (Memo) := match ZfQ x0 with
 | some y1 => match ZpA (y1,x0.threads) with
  | some y2 => match Zrp (x0,Memo.mk ([]:List Int) ([]:List (List Entry)),y2,(0:Int)) with
   | some y3 => some (y3.snd)
   | none=>none
  | none=>none
 | none=>none
def Znz (x:Config):Option (Memo):=ZtK x
def ZwU:Option (Thread) :=
 some (Thread.mk (0:Int) (0:Int) (Op.mk (0:Int) (0:Int)) ([]:List Entry) ([]:List Kid) ([]:List Int) (0:Int) (0:Int) (0:Int) (0:Int) (0:Int) (1:Int) (0:Int) (0:Int) (0:Int) (0:Int))
def ZpH (x:Unit):Option (Thread):=ZwU
def Ztu (x0:Config) (x1:Wld) (x2:Wld) (x3:Int):Option ((Config×Wld×Wld×Int)⊕((Wld×Wld))) := bif decide (x3<x0.threads) then match ZpH () with
 | some y1 => bif fewB (x2.t.length+(y1::([]:List Thread)).length) then some (Sum.inl (x0,x1,{ x2 with t:=x2.t++y1::([]:List Thread) },Zaf IntKind.i64 (x3+(1:Int)))) else none
 | none=>none else some (Sum.inr (x1,x2))
def ZjB (x:Config×Wld×Wld×Int):Option ((Config×Wld×Wld×Int)⊕((Wld×Wld))):=Ztu x.1 x.2.1 x.2.2.1 x.2.2.2
def Ztv (x:Config×Wld×Wld×Int):Option ((Wld×Wld)):=Zav ZjB x
def ZwY (x0:Config) (x1:List Int):Option (Wld×Int) := match Zel x0 with
 | some y1 => bif y1 != (0:Int) then some ((Wld.mk (Config.mk (0:Int) (0:Int) (0:Int) (0:Int) (0:Int) (0:Int) (0:Int) (0:Int) false (0:Int) (0:Int) (0:Int)) (Memo.mk ([]:List Int) ([]:List (List Entry))) ([]:List Thread) (0:Int) (0:Int) (Tape.mk ([]:List Int) (0:Int)) ([]:List Mark) ([]:List Event),y1)) else match Znz x0 with
  | some y2 => bif fewB ((0:Nat)+x1.length) then match Ztv (x0,Wld.mk (Config.mk (0:Int) (0:Int) (0:Int) (0:Int) (0:Int) (0:Int) (0:Int) (0:Int) false (0:Int) (0:Int) (0:Int)) (Memo.mk ([]:List Int) ([]:List (List Entry))) ([]:List Thread) (0:Int) (0:Int) (Tape.mk ([]:List Int) (0:Int)) ([]:List Mark) ([]:List Event),Wld.mk x0 y2 ([]:List Thread) (0:Int) (0:Int) (Tape.mk x1 (0:Int)) ([]:List Mark) ([]:List Event),(0:Int)) with
   | some y3 => some ((y3.snd,(0:Int)))
   | none=>none else none
  | none=>none
 | none=>none
def Zpw (x:Config×(List Int)):Option (Wld×Int):=ZwY x.1 x.2
def Ztr (x0:Config) (x1:SEntry):Option (Int) := bif decide (x1.kind<(1:Int)) then some ((90:Int)) else bif decide (x1.kind>(3:Int)) then some ((90:Int)) else bif x1.kind == (3:Int) then some ((0:Int)) else bif decide (x1.t<(0:Int)) then some ((91:Int)) else bif decide (x1.t>=x0.threads) then some ((91:Int)) else bif x1.kind == (2:Int) then some ((0:Int)) else bif decide (x1.item<(0:Int)) then some ((92:Int)) else bif decide (x1.item>=x0.items) then some ((92:Int)) else match Zl4 (x1.op,x0.bounded) with
 | some y1 => bif !y1 then some ((93:Int)) else some ((0:Int))
 | none=>none
def ZjP (x:Config×SEntry):Option (Int):=Ztr x.1 x.2
def Zuu (x0:Thread):Option (Bool) :=
 some (x0.phase != (0:Int))
def Zhs (x:Thread):Option (Bool):=Zuu x
def Zvb (x0:Wld) (x1:Event):Option (Wld) := bif fewB ((0:Nat)+x0.hist.length) then bif fewB (x0.hist.length+({ x1 with step:=x0.steps }::([]:List Event)).length) then some ({ x0 with hist:=x0.hist++{ x1 with step:=x0.steps }::([]:List Event) }) else none else none
def ZhT (x:Wld×Event):Option (Wld):=Zvb x.1 x.2
def Zsg (x0:Wld) (x1:Int) (x2:Thread):Option (Wld) := bif fewB ((0:Nat)+x0.t.length) then bif decide ((0:Int)<=x1) then bif decide (x1<(↑x0.t.length:Int)) then some ({ x0 with t:=x0.t.set x1.toNat x2 }) else none else none else none
def Zix (x:Wld×Int×Thread):Option (Wld):=Zsg x.1 x.2.1 x.2.2
def ZrR (x0:Int) (x1:Int) (x2:Int) (x3:Int):Option ((Int×Int×Int×Int)⊕((Int×Int))) := bif decide (x3<x0) then some (Sum.inl (x0,x1,Zaf IntKind.i64 ((2:Int)*x2),Zaf IntKind.i64 (x3+(1:Int)))) else some (Sum.inr (x1,x2))
def ZiF (x:Int×Int×Int×Int):Option ((Int×Int×Int×Int)⊕((Int×Int))):=ZrR x.1 x.2.1 x.2.2.1 x.2.2.2
def Zr7 (x:Int×Int×Int×Int):Option ((Int×Int)):=Zav ZiF x
def ZvM (x0:Int) (x1:Int):Option (Int) := bif decide (x0<(1:Int)) then some ((0:Int)) else match Zr7 (x0,x1,(1:Int),(1:Int)) with
 | some y1 => bif decide (y1.snd=(0:Int)) then none else some (Zaf IntKind.i64 (y1.snd+(Zaf IntKind.i64 (Int.tdiv y1.fst (2:Int))).tmod y1.snd))
 | none=>none
def Zn7 (x:Int×Int):Option (Int):=ZvM x.1 x.2
def ZtJ (x0:Config) (x1:Int) (x2:Thread) (x3:Int) (x4:Op) (x5:Int):Option (Thread) := match Zn7 (x0.depth,x1) with
 | some y1 => bif decide (x0.wait>(0:Int)) then some (Thread.mk (1:Int) x3 x4 (Entry.mk x1 x4::([]:List Entry)) ([]:List Kid) ([]:List Int) (0:Int) y1 (0:Int) (0:Int) (0:Int) x2.width (0:Int) (0:Int) (0:Int) (Zaf IntKind.i64 (x5+x0.wait))) else some (Thread.mk (1:Int) x3 x4 (Entry.mk x1 x4::([]:List Entry)) ([]:List Kid) ([]:List Int) (0:Int) y1 (0:Int) (0:Int) (0:Int) x2.width (0:Int) (0:Int) (0:Int) (0:Int))
 | none=>none
def ZnE (x:Config×Int×Thread×Int×Op×Int):Option (Thread):=ZtJ x.1 x.2.1 x.2.2.1 x.2.2.2.1 x.2.2.2.2.1 x.2.2.2.2.2
def Ztl (x0:Turn):Option (Turn) := bif x0.c.backend == (2:Int) then bif decide (x0.c.depth>(0:Int)) then bif x0.c.backend == (3:Int) then bif decide (x0.c.layers>(0:Int)) then some ({ x0 with th:={ x0.th with phase:=(17:Int),layer:=(1:Int) } }) else some ({ x0 with th:={ x0.th with phase:=(4:Int) } }) else some ({ x0 with th:={ x0.th with phase:=(4:Int) } }) else bif x0.c.backend == (3:Int) then bif decide (x0.c.layers>(0:Int)) then some ({ x0 with th:={ x0.th with phase:=(17:Int),layer:=(1:Int) } }) else some ({ x0 with th:={ x0.th with phase:=(2:Int) } }) else some ({ x0 with th:={ x0.th with phase:=(2:Int) } }) else bif x0.c.backend == (3:Int) then bif decide (x0.c.layers>(0:Int)) then some ({ x0 with th:={ x0.th with phase:=(17:Int),layer:=(1:Int) } }) else some ({ x0 with th:={ x0.th with phase:=(2:Int) } }) else some ({ x0 with th:={ x0.th with phase:=(2:Int) } })
def ZnI (x:Turn):Option (Turn):=Ztl x
def Zvh (x0:Memo) (x1:Int):Option (Int×Int) := bif decide (x1<(0:Int)) then some (((0:Int),(30:Int))) else bif decide (x1>=(↑x0.words.length:Int)) then some (((0:Int),(30:Int))) else bif decide ((0:Int)<=x1) then bif decide (x1<(↑x0.words.length:Int)) then some ((x0.words.getD x1.toNat (0:Int),(0:Int))) else none else none
def ZcI (x:Memo×Int):Option (Int×Int):=Zvh x.1 x.2
def ZuA:Option (Int) :=
 some ((5:Int))
def ZhY (x:Unit):Option (Int):=ZuA
def ZrU (x0:Config) (x1:Int):Option (Int) := bif decide (x1<(0:Int)) then some ((-1:Int)) else bif decide (x1>=x0.threads) then some ((-1:Int)) else match ZdN x0 with
 | some y1 => some (Zaf IntKind.i64 (Zaf IntKind.i64 (Zaf IntKind.i64 (x0.items*y1)+Zaf IntKind.i64 ((2:Int)*x1))+(1:Int)))
 | none=>none
def Zi5 (x:Config×Int):Option (Int):=ZrU x.1 x.2
def Zr1 (x0:Turn):Option (Turn) := bif decide (x0.th.at_>=(0:Int)) then bif decide (x0.th.at_<(↑x0.th.kids.length:Int)) then some ({ x0 with th:={ x0.th with phase:=(15:Int) } }) else some ({ x0 with th:={ x0.th with phase:=(0:Int) },done:=true }) else some ({ x0 with th:={ x0.th with phase:=(0:Int) },done:=true })
def Zgp (x:Turn):Option (Turn):=Zr1 x
def Ztn (x0:List Entry) (x1:Int) (x2:Int) (x3:Int) (x4:Int):Option (((List Entry)×Int×Int×Int×Int)⊕((Int))) := bif decide (x4<(↑x0.length:Int)) then bif decide ((0:Int)<=x4) then bif decide (x4<(↑x0.length:Int)) then match Zc6 ((x0.getD x4.toNat Zcn).op,x1,x2,x3) with
 | some y1 => some (Sum.inl (x0,y1.fst,x2,x3,Zaf IntKind.i64 (x4+(1:Int))))
 | none=>none else none else none else some (Sum.inr x1)
def Zj4 (x:(List Entry)×Int×Int×Int×Int):Option (((List Entry)×Int×Int×Int×Int)⊕((Int))):=Ztn x.1 x.2.1 x.2.2.1 x.2.2.2.1 x.2.2.2.2
def Ztk (x:(List Entry)×Int×Int×Int×Int):Option ((Int)):=Zav Zj4 x
def ZwH (x0:List Entry) (x1:Int) (x2:Int) (x3:Int):Option (Int) := match Ztk (x0,x1,x2,x3,(0:Int)) with
 | some y1 => some (y1)
 | none=>none
def ZgN (x:(List Entry)×Int×Int×Int):Option (Int):=ZwH x.1 x.2.1 x.2.2.1 x.2.2.2
def ZrS (x0:List Entry) (x1:Int) (x2:List Entry) (x3:Int):Option (((List Entry)×Int×(List Entry)×Int)⊕(((List Entry)))) := bif decide (x3<(↑x0.length:Int)) then bif decide (x3<x1) then bif decide ((0:Int)<=x3) then bif decide (x3<(↑x0.length:Int)) then bif fewB (x2.length+(x0.getD x3.toNat Zcn::([]:List Entry)).length) then some (Sum.inl (x0,x1,x2++x0.getD x3.toNat Zcn::([]:List Entry),Zaf IntKind.i64 (x3+(1:Int)))) else none else none else none else some (Sum.inr x2) else some (Sum.inr x2)
def Ziq (x:(List Entry)×Int×(List Entry)×Int):Option (((List Entry)×Int×(List Entry)×Int)⊕(((List Entry)))):=ZrS x.1 x.2.1 x.2.2.1 x.2.2.2
def Zst (x:(List Entry)×Int×(List Entry)×Int):Option (((List Entry))):=Zav Ziq x
def ZvX (x0:List Entry) (x1:Int):Option ((List Entry)) := match Zst (x0,x1,([]:List Entry),(0:Int)) with
 | some y1 => some (y1)
 | none=>none
def ZkR (x:(List Entry)×Int):Option ((List Entry)):=ZvX x.1 x.2
def Zvl (x0:Turn):Option (Turn) := bif decide ((0:Int)<=x0.th.at_) then bif decide (x0.th.at_<(↑x0.th.kids.length:Int)) then bif x0.th.phase == (15:Int) then match Zi5 (x0.c,(x0.th.kids.getD x0.th.at_.toNat dKid).t) with
 | some y1 => match ZkR (x0.th.batch,(x0.th.kids.getD x0.th.at_.toNat dKid).ahead) with
  | some y2 => match ZgN (y2,x0.th.x,x0.c.lo,x0.c.hi) with
   | some y3 => match ZcA (x0.m,y1,y3) with
    | some y4 => bif y4.snd == (0:Int) then some ({ x0 with m:=y4.fst,th:={ x0.th with phase:=(16:Int) } }) else some (x0)
    | none=>none
   | none=>none
  | none=>none
 | none=>none else match Zdn (x0.c,(x0.th.kids.getD x0.th.at_.toNat dKid).t) with
 | some y1 => match ZhY () with
  | some y2 => match ZcA (x0.m,y1,y2) with
   | some y3 => bif y3.snd != (0:Int) then some (x0) else match Zgp { x0 with m:=y3.fst,th:={ x0.th with at_:=Zaf IntKind.i64 (x0.th.at_+(1:Int)) } } with
     | some y4 => some (y4)
     | none=>none
   | none=>none
  | none=>none
 | none=>none else none else none
def ZkD (x:Turn):Option (Turn):=Zvl x
def Zvj (x0:Turn):Option (Turn×Bool) := bif x0.th.phase == (13:Int) then match Zdn (x0.c,x0.t) with
 | some y1 => match ZcI (x0.m,y1) with
  | some y2 => bif y2.snd == (0:Int) then match ZhY () with
    | some y3 => bif y2.fst == y3 then some (({ x0 with th:={ x0.th with phase:=(14:Int) } },true)) else some ((x0,true))
    | none=>none else some ((x0,true))
  | none=>none
 | none=>none else bif x0.th.phase == (14:Int) then match Zi5 (x0.c,x0.t) with
  | some y1 => match ZcI (x0.m,y1) with
   | some y2 => bif y2.snd != (0:Int) then some ((x0,true)) else match Zgp { x0 with th:={ x0.th with at_:=(0:Int),x:=y2.fst } } with
     | some y3 => some ((y3,true))
     | none=>none
   | none=>none
  | none=>none else bif x0.th.phase == (15:Int) then bif x0.th.phase == (15:Int) then bif decide (x0.th.at_<(0:Int)) then some ((x0,true)) else bif decide (x0.th.at_>=(↑x0.th.kids.length:Int)) then some ((x0,true)) else match ZkD x0 with
      | some y1 => some ((y1,true))
      | none=>none else some ((x0,false)) else bif x0.th.phase == (16:Int) then bif decide (x0.th.at_<(0:Int)) then some ((x0,true)) else bif decide (x0.th.at_>=(↑x0.th.kids.length:Int)) then some ((x0,true)) else match ZkD x0 with
      | some y1 => some ((y1,true))
      | none=>none else some ((x0,false))
def ZoO (x:Turn):Option (Turn×Bool):=Zvj x
def ZpU (x0:List Entry) (x1:Int) (x2:Int) (x3:Int) (x4:List Int) (x5:Int):Option (((List Entry)×Int×Int×Int×(List Int)×Int)⊕(((List Int)))) := bif decide (x5<(↑x0.length:Int)) then match ZkR (x0,x5) with
 | some y1 => match ZgN (y1,x1,x2,x3) with
  | some y2 => bif fewB (x4.length+(y2::([]:List Int)).length) then some (Sum.inl (x0,x1,x2,x3,x4++y2::([]:List Int),Zaf IntKind.i64 (x5+(1:Int)))) else none
  | none=>none
 | none=>none else some (Sum.inr x4)
def Zg7 (x:(List Entry)×Int×Int×Int×(List Int)×Int):Option (((List Entry)×Int×Int×Int×(List Int)×Int)⊕(((List Int)))):=ZpU x.1 x.2.1 x.2.2.1 x.2.2.2.1 x.2.2.2.2.1 x.2.2.2.2.2
def ZpV (x:(List Entry)×Int×Int×Int×(List Int)×Int):Option (((List Int))):=Zav Zg7 x
def ZrJ (x0:List Entry) (x1:Int) (x2:Int) (x3:Int):Option ((List Int)) := match ZpV (x0,x1,x2,x3,([]:List Int),(0:Int)) with
 | some y1 => some (y1)
 | none=>none
def ZmF (x:(List Entry)×Int×Int×Int):Option ((List Int)):=ZrJ x.1 x.2.1 x.2.2.1 x.2.2.2
def Zql (x0:Int) (x1:Turn) (x2:Turn) (x3:List Int) (x4:List Mark) (x5:Int):Option ((Int×Turn×Turn×(List Int)×(List Mark)×Int)⊕((Int×Turn×Turn×(List Mark)))) := bif decide (x5<(↑x1.th.batch.length:Int)) then bif decide ((0:Int)<=x5) then bif decide (x5<(↑x1.th.batch.length:Int)) then bif decide ((0:Int)<=x5) then bif decide (x5<(↑x1.th.batch.length:Int)) then bif decide ((0:Int)<=x5) then bif decide (x5<(↑x3.length:Int)) then bif fewB (x4.length+(Mark.mk (x1.th.batch.getD x5.toNat Zcn).t x1.th.item (x1.th.batch.getD x5.toNat Zcn).op (x3.getD x5.toNat (0:Int)) (0:Int)::([]:List Mark)).length) then some (Sum.inl (x0,x1,x2,x3,x4++Mark.mk (x1.th.batch.getD x5.toNat Zcn).t x1.th.item (x1.th.batch.getD x5.toNat Zcn).op (x3.getD x5.toNat (0:Int)) (0:Int)::([]:List Mark),Zaf IntKind.i64 (x5+(1:Int)))) else none else none else none else none else none else none else none else some (Sum.inr (x0,x1,x2,x4))
def Zhh (x:Int×Turn×Turn×(List Int)×(List Mark)×Int):Option ((Int×Turn×Turn×(List Int)×(List Mark)×Int)⊕((Int×Turn×Turn×(List Mark)))):=Zql x.1 x.2.1 x.2.2.1 x.2.2.2.1 x.2.2.2.2.1 x.2.2.2.2.2
def Zqc (x:Int×Turn×Turn×(List Int)×(List Mark)×Int):Option ((Int×Turn×Turn×(List Mark))):=Zav Zhh x
def Zss (x0:Turn) (x1:Int):Option (Turn) := match ZmF (x0.th.batch,x1,x0.c.lo,x0.c.hi) with
 | some y1 => bif fewB ((0:Nat)+x0.log.length) then match Zqc (x1,x0,Turn.mk (Config.mk (0:Int) (0:Int) (0:Int) (0:Int) (0:Int) (0:Int) (0:Int) (0:Int) false (0:Int) (0:Int) (0:Int)) (0:Int) (0:Int) (Memo.mk ([]:List Int) ([]:List (List Entry))) (Thread.mk (0:Int) (0:Int) (Op.mk (0:Int) (0:Int)) ([]:List Entry) ([]:List Kid) ([]:List Int) (0:Int) (0:Int) (0:Int) (0:Int) (0:Int) (0:Int) (0:Int) (0:Int) (0:Int) (0:Int)) (Tape.mk ([]:List Int) (0:Int)) ([]:List Mark) false,y1,x0.log,(0:Int)) with
  | some y2 => match Zgp { y2.snd.fst with th:={ y2.snd.fst.th with at_:=(0:Int),x:=y2.fst },log:=y2.snd.snd.snd } with
   | some y3 => some (y3)
   | none=>none
  | none=>none else none
 | none=>none
def ZeI (x:Turn×Int):Option (Turn):=Zss x.1 x.2
def ZuX (x0:Turn):Option (Bool) := bif decide (x0.th.until_>(0:Int)) then some (decide (x0.now>=x0.th.until_)) else some (false)
def ZhI (x:Turn):Option (Bool):=ZuX x
def Zr5 (x0:Turn):Option (Turn) := bif decide (x0.th.layer<x0.c.layers) then match ZhI x0 with
 | some y1 => bif !y1 then some ({ x0 with th:={ x0.th with phase:=(17:Int),layer:=Zaf IntKind.i64 (x0.th.layer+(1:Int)) } }) else some ({ x0 with th:={ x0.th with phase:=(2:Int) } })
 | none=>none else some ({ x0 with th:={ x0.th with phase:=(2:Int) } })
def Zgd (x:Turn):Option (Turn):=Zr5 x
def Zwx (x0:Memo) (x1:Int) (x2:Int) (x3:Int):Option (Memo×Bool×Int) := match ZcI (x0,x1) with
 | some y1 => bif y1.snd != (0:Int) then some ((x0,false,y1.snd)) else bif y1.fst != x2 then some ((x0,false,y1.snd)) else match ZcA (x0,x1,x3) with
  | some y2 => some ((y2.fst,true,(0:Int)))
  | none=>none
 | none=>none
def ZeE (x:Memo×Int×Int×Int):Option (Memo×Bool×Int):=Zwx x.1 x.2.1 x.2.2.1 x.2.2.2
def ZtZ (x0:Int) (x1:Int):Option (Int) := bif decide (x0>x1) then some (x1) else some (if x1<Zaf IntKind.i64 ((2:Int)*x0) then x1 else Zaf IntKind.i64 ((2:Int)*x0))
def ZjC (x:Int×Int):Option (Int):=ZtZ x.1 x.2
def Zul (x0:Turn):Option (Turn×Bool) := match ZeK (x0.c,x0.th.item) with
 | some y1 => bif x0.th.phase == (2:Int) then bif x0.th.phase == (2:Int) then match ZcI (x0.m,y1) with
  | some y2 => bif y2.snd != (0:Int) then some ((x0,true)) else match ZgN (x0.th.batch,y2.fst,x0.c.lo,x0.c.hi) with
    | some y3 => bif y3 == y2.fst then match ZeI (x0,y2.fst) with
     | some y4 => some ((y4,true))
     | none=>none else bif x0.th.phase == (25:Int) then match Zgd x0 with
      | some y4 => some ((y4,true))
      | none=>none else some (({ x0 with th:={ x0.th with phase:=(3:Int),x:=y2.fst,y:=y3 } },true))
    | none=>none
  | none=>none else bif x0.th.phase == (3:Int) then match ZeE (x0.m,y1,x0.th.x,x0.th.y) with
   | some y2 => bif y2.snd.snd != (0:Int) then some ((x0,true)) else bif y2.snd.fst then match ZeI ({ x0 with m:=y2.fst },x0.th.x) with
     | some y3 => some ((y3,true))
     | none=>none else match ZjC (x0.th.width,x0.c.width) with
     | some y3 => some (({ x0 with m:=y2.fst,th:={ x0.th with phase:=(2:Int),width:=y3 } },true))
     | none=>none
   | none=>none else some ((x0,false)) else bif x0.th.phase == (25:Int) then match ZcI (x0.m,y1) with
  | some y2 => bif y2.snd != (0:Int) then some ((x0,true)) else match ZgN (x0.th.batch,y2.fst,x0.c.lo,x0.c.hi) with
    | some y3 => bif y3 == y2.fst then match ZeI (x0,y2.fst) with
     | some y4 => some ((y4,true))
     | none=>none else bif x0.th.phase == (25:Int) then match Zgd x0 with
      | some y4 => some ((y4,true))
      | none=>none else some (({ x0 with th:={ x0.th with phase:=(3:Int),x:=y2.fst,y:=y3 } },true))
    | none=>none
  | none=>none else bif x0.th.phase == (3:Int) then match ZeE (x0.m,y1,x0.th.x,x0.th.y) with
   | some y2 => bif y2.snd.snd != (0:Int) then some ((x0,true)) else bif y2.snd.fst then match ZeI ({ x0 with m:=y2.fst },x0.th.x) with
     | some y3 => some ((y3,true))
     | none=>none else match ZjC (x0.th.width,x0.c.width) with
     | some y3 => some (({ x0 with m:=y2.fst,th:={ x0.th with phase:=(2:Int),width:=y3 } },true))
     | none=>none
   | none=>none else some ((x0,false))
 | none=>none
def Zon (x:Turn):Option (Turn×Bool):=Zul x
def ZtS (x0:Int):Option (Int) :=
 some (Zaf IntKind.i64 (Zaf IntKind.i64 ((8:Int)*Zaf IntKind.i64 (x0+(1:Int)))+(1:Int)))
def Zfo (x:Int):Option (Int):=ZtS x
def Zsl (x0:Int):Option (Int) :=
 some (Zaf IntKind.i64 (Zaf IntKind.i64 ((8:Int)*Zaf IntKind.i64 (x0+(1:Int)))+(2:Int)))
def Zit (x:Int):Option (Int):=Zsl x
def Zpm (x0:Int):Option (Int) :=
 some (Zaf IntKind.i64 (Zaf IntKind.i64 ((8:Int)*Zaf IntKind.i64 (x0+(1:Int)))+(3:Int)))
def Zgu (x:Int):Option (Int):=Zpm x
def ZuP (x0:Int) (x1:Int):Option (Int) :=
 some (Zaf IntKind.i64 (Zaf IntKind.i64 ((8:Int)*Zaf IntKind.i64 (Zaf IntKind.i64 (Zaf IntKind.i64 ((16:Int)*x0)+x1)+(1:Int)))+(4:Int)))
def Zf1 (x:Int×Int):Option (Int):=ZuP x.1 x.2
def Zrv (x0:Int) (x1:Int) (x2:Int):Option ((Int×Int×Int)⊕((Int×Int)⊕(Int))) := bif decide (x2<=(3:Int)) then match Zf1 (x1,x2) with
 | some y1 => bif x0 == y1 then some (Sum.inr (Sum.inr (4:Int))) else some (Sum.inl (x0,x1,Zaf IntKind.i64 (x2+(1:Int))))
 | none=>none else some (Sum.inr (Sum.inl (x0,x1)))
def Zht (x:Int×Int×Int):Option ((Int×Int×Int)⊕((Int×Int)⊕(Int))):=Zrv x.1 x.2.1 x.2.2
def Zrw (x:Int×Int×Int):Option ((Int×Int)⊕(Int)):=Zav Zht x
def Zq7 (x0:Int) (x1:Int):Option ((Int×Int)⊕((Unit)⊕(Int))) := bif decide (x1<(4:Int)) then match Zrw (x0,x1,(1:Int)) with
 | some (.inl y1) => some (Sum.inl (y1.fst,Zaf IntKind.i64 (y1.snd+(1:Int))))
 | some (.inr y2) => some (Sum.inr (Sum.inr y2))
 | none=>none else some (Sum.inr (Sum.inl ()))
def Zig (x:Int×Int):Option ((Int×Int)⊕((Unit)⊕(Int))):=Zq7 x.1 x.2
def Zqw (x:Int×Int):Option ((Unit)⊕(Int)):=Zav Zig x
def Zr4 (x0:Int) (x1:Int):Option ((Int×Int)⊕((Int)⊕(Int))) := bif decide (x1<(16:Int)) then match Zfo x1 with
 | some y1 => bif x0 == y1 then some (Sum.inr (Sum.inr (1:Int))) else match Zit x1 with
  | some y2 => bif x0 == y2 then some (Sum.inr (Sum.inr (2:Int))) else match Zgu x1 with
   | some y3 => bif x0 == y3 then some (Sum.inr (Sum.inr (3:Int))) else some (Sum.inl (x0,Zaf IntKind.i64 (x1+(1:Int))))
   | none=>none
  | none=>none
 | none=>none else some (Sum.inr (Sum.inl x0))
def Zi4 (x:Int×Int):Option ((Int×Int)⊕((Int)⊕(Int))):=Zr4 x.1 x.2
def ZrX (x:Int×Int):Option ((Int)⊕(Int)):=Zav Zi4 x
def Zt9 (x0:Int):Option (Int) := bif x0 == (0:Int) then some ((0:Int)) else match ZhY () with
 | some y1 => bif x0 == y1 then some ((5:Int)) else match ZrX (x0,(0:Int)) with
  | some (.inl y2) => match Zqw (y2,(0:Int)) with
   | some (.inl y3) => some ((-1:Int))
   | some (.inr y4) => some (y4)
   | none=>none
  | some (.inr y3) => some (y3)
  | none=>none
 | none=>none
def ZfL (x:Int):Option (Int):=Zt9 x
def Zuy (x0:Turn):Option (Turn) := bif decide (x0.th.at_>=(0:Int)) then bif decide (x0.th.at_<(↑x0.th.held.length:Int)) then some ({ x0 with th:={ x0.th with phase:=(7:Int) } }) else bif decide (x0.th.stop>(0:Int)) then some ({ x0 with th:={ x0.th with phase:=(11:Int) } }) else some ({ x0 with th:={ x0.th with phase:=(2:Int) } }) else bif decide (x0.th.stop>(0:Int)) then some ({ x0 with th:={ x0.th with phase:=(11:Int) } }) else some ({ x0 with th:={ x0.th with phase:=(2:Int) } })
def ZkG (x:Turn):Option (Turn):=Zuy x
def Zvp (x0:Turn):Option (Turn) := match ZkG { x0 with th:={ x0.th with at_:=(0:Int) } } with
 | some y1 => some (y1)
 | none=>none
def ZhA (x:Turn):Option (Turn):=Zvp x
def ZrM (x0:Int):Option (Int) := bif decide (x0<(2:Int)) then some ((0:Int)) else some (Zaf IntKind.i64 (x0.tdiv (2:Int)))
def ZmE (x:Int):Option (Int):=ZrM x
def Zv1 (x0:Turn):Option (Turn×Bool) := match ZfW (x0.c,x0.th.item,x0.th.node) with
 | some y1 => bif x0.th.phase == (4:Int) then match ZcI (x0.m,y1) with
  | some y2 => bif y2.snd != (0:Int) then some ((x0,true)) else match ZfL y2.fst with
    | some y3 => bif y3 == (0:Int) then some (({ x0 with th:={ x0.th with phase:=(5:Int) } },true)) else match ZfL y2.fst with
      | some y4 => bif y4 == (1:Int) then some (({ x0 with th:={ x0.th with phase:=(6:Int),x:=y2.fst } },true)) else match ZhI x0 with
       | some y5 => bif y5 then match ZhA x0 with
         | some y6 => some ((y6,true))
         | none=>none else some ((x0,true))
       | none=>none
      | none=>none
    | none=>none
  | none=>none else bif x0.th.phase == (5:Int) then match Zfo x0.t with
   | some y2 => match ZeE (x0.m,y1,(0:Int),y2) with
    | some y3 => bif y3.snd.snd != (0:Int) then some ((x0,true)) else bif !y3.snd.fst then some (({ x0 with th:={ x0.th with phase:=(4:Int) } },true)) else bif fewB ((0:Nat)+x0.th.held.length) then bif fewB (x0.th.held.length+(x0.th.node::([]:List Int)).length) then match ZmE x0.th.node with
        | some y4 => bif y4 == (0:Int) then match ZhA { x0 with m:=y3.fst,th:={ x0.th with phase:=(4:Int),held:=x0.th.held++x0.th.node::([]:List Int),node:=y4 } } with
          | some y5 => some ((y5,true))
          | none=>none else some (({ x0 with m:=y3.fst,th:={ x0.th with phase:=(4:Int),held:=x0.th.held++x0.th.node::([]:List Int),node:=y4 } },true))
        | none=>none else none else none
    | none=>none
   | none=>none else bif x0.th.phase == (6:Int) then match Zit x0.t with
    | some y2 => match ZeE (x0.m,y1,x0.th.x,y2) with
     | some y3 => bif y3.snd.snd != (0:Int) then some ((x0,true)) else bif !y3.snd.fst then some (({ x0 with th:={ x0.th with phase:=(4:Int) } },true)) else match ZhA { x0 with m:=y3.fst,th:={ x0.th with phase:=(4:Int),stop:=x0.th.node } } with
       | some y4 => some ((y4,true))
       | none=>none
     | none=>none
    | none=>none else some ((x0,false))
 | none=>none
def Zk2 (x:Turn):Option (Turn×Bool):=Zv1 x
def Zvo (x0:Turn):Option (Int) := bif decide (x0.th.at_<(0:Int)) then some ((-1:Int)) else bif decide (x0.th.at_>=(↑x0.th.held.length:Int)) then some ((-1:Int)) else bif decide ((0:Int)<=x0.th.at_) then bif decide (x0.th.at_<(↑x0.th.held.length:Int)) then match ZfW (x0.c,x0.th.item,x0.th.held.getD x0.th.at_.toNat (0:Int)) with
 | some y1 => some (y1)
 | none=>none else none else none
def Zou (x:Turn):Option (Int):=Zvo x
def ZwO (x0:Int):Option (Int) := match ZfL x0 with
 | some y1 => bif decide (y1<(1:Int)) then some ((-1:Int)) else bif decide (y1>(3:Int)) then some ((-1:Int)) else some (Zaf IntKind.i64 (Zaf IntKind.i64 (x0.tdiv (8:Int))-(1:Int)))
 | none=>none
def ZpC (x:Int):Option (Int):=ZwO x
def ZvK (x0:Turn):Option (Turn) := match ZkG { x0 with th:={ x0.th with at_:=Zaf IntKind.i64 (x0.th.at_+(1:Int)) } } with
 | some y1 => some (y1)
 | none=>none
def ZkI (x:Turn):Option (Turn):=ZvK x
def ZwN (x0:Memo) (x1:Int):Option ((List Entry)×Int) := bif decide (x1<(0:Int)) then some ((([]:List Entry),(30:Int))) else bif decide (x1>=(↑x0.boxes.length:Int)) then some ((([]:List Entry),(30:Int))) else bif decide ((0:Int)<=x1) then bif decide (x1<(↑x0.boxes.length:Int)) then bif fewB ((0:Nat)+List.length (x0.boxes.getD x1.toNat ([]:List Entry))) then some ((x0.boxes.getD x1.toNat ([]:List Entry),(0:Int))) else none else none else none
def Zl9 (x:Memo×Int):Option ((List Entry)×Int):=ZwN x.1 x.2
def Zsu (x0:List (List Entry)) (x1:List Entry) (x2:Int):Option (((List (List Entry))×(List Entry)×Int)⊕(((List Entry)))) := bif decide (x2<(↑x0.length:Int)) then bif decide ((0:Int)<=x2) then bif decide (x2<(↑x0.length:Int)) then bif fewB (x1.length+List.length (x0.getD x2.toNat ([]:List Entry))) then some (Sum.inl (x0,x1++x0.getD x2.toNat ([]:List Entry),Zaf IntKind.i64 (x2+(1:Int)))) else none else none else none else some (Sum.inr x1)
def ZiT (x:(List (List Entry))×(List Entry)×Int):Option (((List (List Entry))×(List Entry)×Int)⊕(((List Entry)))):=Zsu x.1 x.2.1 x.2.2
def Zsr (x:(List (List Entry))×(List Entry)×Int):Option (((List Entry))):=Zav ZiT x
def ZvF (x0:List (List Entry)):Option ((List Entry)) := match Zsr (x0,([]:List Entry),(0:Int)) with
 | some y1 => some (y1)
 | none=>none
def Zox (x:(List (List Entry))):Option ((List Entry)):=ZvF x
def ZuZ (x0:Turn) (x1:Int) (x2:List Entry):Option (Turn) := bif fewB ((0:Nat)+x0.th.kids.length) then bif fewB (x0.th.kids.length+(Kid.mk x1 (↑x0.th.batch.length:Int)::([]:List Kid)).length) then match Zox (x0.th.batch::x2::([]:List (List Entry))) with
 | some y1 => some ({ x0 with th:={ x0.th with batch:=y1,kids:=x0.th.kids++Kid.mk x1 (↑x0.th.batch.length:Int)::([]:List Kid) } })
 | none=>none else none else none
def Zlh (x:Turn×Int×(List Entry)):Option (Turn):=ZuZ x.1 x.2.1 x.2.2
def Zwd (x0:Memo) (x1:Int) (x2:List Entry):Option (Memo×Int) := bif decide (x1<(0:Int)) then some ((x0,(30:Int))) else bif decide (x1>=(↑x0.boxes.length:Int)) then some ((x0,(30:Int))) else bif fewB ((0:Nat)+x0.boxes.length) then bif fewB ((0:Nat)+x2.length) then bif decide ((0:Int)<=x1) then bif decide (x1<(↑x0.boxes.length:Int)) then some (({ x0 with boxes:=x0.boxes.set x1.toNat x2 },(0:Int))) else none else none else none else none
def Zl1 (x:Memo×Int×(List Entry)):Option (Memo×Int):=Zwd x.1 x.2.1 x.2.2
def ZvL (x0:Turn):Option (Turn×Bool) := match Zou x0 with
 | some y1 => bif x0.th.phase == (7:Int) then match ZcI (x0.m,y1) with
  | some y2 => bif y2.snd != (0:Int) then some ((x0,true)) else match Zfo x0.t with
    | some y3 => bif y2.fst == y3 then some (({ x0 with th:={ x0.th with phase:=(8:Int) } },true)) else match ZfL y2.fst with
      | some y4 => bif y4 == (3:Int) then match ZpC y2.fst with
        | some y5 => some (({ x0 with th:={ x0.th with phase:=(9:Int),who:=y5 } },true))
        | none=>none else some ((x0,true))
      | none=>none
    | none=>none
  | none=>none else bif x0.th.phase == (8:Int) then match Zfo x0.t with
   | some y2 => match ZeE (x0.m,y1,y2,(0:Int)) with
    | some y3 => bif y3.snd.snd != (0:Int) then some ((x0,true)) else bif y3.snd.fst then match ZkI { x0 with m:=y3.fst } with
       | some y4 => some ((y4,true))
       | none=>none else some (({ x0 with m:=y3.fst,th:={ x0.th with phase:=(7:Int) } },true))
    | none=>none
   | none=>none else bif x0.th.phase == (9:Int) then match Zl9 (x0.m,x0.th.who) with
    | some y2 => bif y2.snd != (0:Int) then some ((x0,true)) else match Zlh (x0,x0.th.who,y2.fst) with
      | some y3 => some (({ y3 with th:={ y3.th with phase:=(10:Int) } },true))
      | none=>none
    | none=>none else bif x0.th.phase == (10:Int) then match ZcA (x0.m,y1,(0:Int)) with
     | some y2 => bif y2.snd != (0:Int) then some ((x0,true)) else match ZkI { x0 with m:=y2.fst } with
       | some y3 => some ((y3,true))
       | none=>none
     | none=>none else bif x0.th.phase == (11:Int) then match Zl1 (x0.m,x0.t,x0.th.batch) with
      | some y2 => bif y2.snd != (0:Int) then some ((x0,true)) else some (({ x0 with m:=y2.fst,th:={ x0.th with phase:=(12:Int) } },true))
      | none=>none else bif x0.th.phase == (12:Int) then match ZfW (x0.c,x0.th.item,x0.th.stop) with
       | some y2 => match Zgu x0.t with
        | some y3 => match ZcA (x0.m,y2,y3) with
         | some y4 => bif y4.snd != (0:Int) then some ((x0,true)) else some (({ x0 with m:=y4.fst,th:={ x0.th with phase:=(13:Int) } },true))
         | none=>none
        | none=>none
       | none=>none else some ((x0,false))
 | none=>none
def ZfU (x:Turn):Option (Turn×Bool):=ZvL x
def Zr6 (x0:Turn) (x1:Int):Option (Turn) := match Zdn (x0.c,x0.t) with
 | some y1 => match Zf1 (x0.th.item,x0.th.layer) with
  | some y2 => match ZcA (x0.m,y1,y2) with
   | some y3 => bif y3.snd != (0:Int) then some (x0) else bif x1 == (23:Int) then some ({ x0 with m:=y3.fst,th:={ x0.th with phase:=x1,left:=x0.c.spin } }) else some ({ x0 with m:=y3.fst,th:={ x0.th with phase:=x1 } })
   | none=>none
  | none=>none
 | none=>none
def ZiW (x:Turn×Int):Option (Turn):=Zr6 x.1 x.2
def ZvE (x0:Tape):Option (Int×Tape) := bif decide (x0.at_<(0:Int)) then some (((0:Int),x0)) else bif decide (x0.at_>=(↑x0.l.length:Int)) then some (((0:Int),x0)) else bif decide ((0:Int)<=x0.at_) then bif decide (x0.at_<(↑x0.l.length:Int)) then some ((x0.l.getD x0.at_.toNat (0:Int),{ x0 with at_:=Zaf IntKind.i64 (x0.at_+(1:Int)) })) else none else none
def ZoJ (x:Tape):Option (Int×Tape):=ZvE x
def ZtR (x0:Tape) (x1:Int):Option (Int×Tape) := bif decide (x1<(1:Int)) then some (((0:Int),x0)) else match ZoJ x0 with
 | some y1 => bif decide (x1=(0:Int)) then none else bif decide (Int.tmod y1.fst x1<(0:Int)) then some ((Zaf IntKind.i64 (Int.tmod y1.fst x1+x1),y1.snd)) else some ((Int.tmod y1.fst x1,y1.snd))
 | none=>none
def ZnK (x:Tape×Int):Option (Int×Tape):=ZtR x.1 x.2
def ZuQ (x0:Memo) (x1:Int) (x2:Int):Option (Memo×Int×Int) := match ZcI (x0,x1) with
 | some y1 => match ZcA (x0,x1,x2) with
  | some y2 => some ((y2.fst,y1))
  | none=>none
 | none=>none
def Zn9 (x:Memo×Int×Int):Option (Memo×Int×Int):=ZuQ x.1 x.2.1 x.2.2
def Zui (x0:Config) (x1:Int) (x2:Int) (x3:Int):Option (Int) := bif decide (x1<(0:Int)) then some ((-1:Int)) else bif decide (x1>=x0.items) then some ((-1:Int)) else bif decide (x2<(1:Int)) then some ((-1:Int)) else bif decide (x2>x0.layers) then some ((-1:Int)) else bif decide (x3<(0:Int)) then some ((-1:Int)) else bif decide (x3>=x0.width) then some ((-1:Int)) else match ZdN x0 with
 | some y1 => match Zfg x0 with
  | some y2 => some (Zaf IntKind.i64 (Zaf IntKind.i64 (Zaf IntKind.i64 (Zaf IntKind.i64 (Zaf IntKind.i64 (x1*y1)+(1:Int))+y2)+Zaf IntKind.i64 (Zaf IntKind.i64 (x2-(1:Int))*x0.width))+x3))
  | none=>none
 | none=>none
def ZoC (x:Config×Int×Int×Int):Option (Int):=Zui x.1 x.2.1 x.2.2.1 x.2.2.2
def Zvq (x0:Turn):Option (Turn) := match ZnK (x0.tape,x0.th.width) with
 | some y1 => match ZoC (x0.c,x0.th.item,x0.th.layer,y1.fst) with
  | some y2 => match Zn9 (x0.m,y2,Zaf IntKind.i64 (x0.t+(1:Int))) with
   | some y3 => bif y3.snd.snd != (0:Int) then some (x0) else bif decide (y3.snd.fst>=(1:Int)) then bif decide (y3.snd.fst<=x0.c.threads) then bif y3.snd.fst != Zaf IntKind.i64 (x0.t+(1:Int)) then some ({ x0 with m:=y3.fst,th:={ x0.th with phase:=(20:Int),who:=Zaf IntKind.i64 (y3.snd.fst-(1:Int)) },tape:=y1.snd }) else some ({ x0 with m:=y3.fst,th:={ x0.th with phase:=(23:Int),left:=x0.c.spin },tape:=y1.snd }) else some ({ x0 with m:=y3.fst,th:={ x0.th with phase:=(23:Int),left:=x0.c.spin },tape:=y1.snd }) else some ({ x0 with m:=y3.fst,th:={ x0.th with phase:=(23:Int),left:=x0.c.spin },tape:=y1.snd })
   | none=>none
  | none=>none
 | none=>none
def Zoo (x:Turn):Option (Turn):=Zvq x
def Zp1 (x0:Turn) (x1:Int) (x2:Int) (x3:Int):Option (Turn) := match Zdn (x0.c,x1) with
 | some y1 => match Zf1 (x0.th.item,x0.th.layer) with
  | some y2 => match ZeE (x0.m,y1,y2,(0:Int)) with
   | some y3 => bif y3.snd.snd != (0:Int) then some (x0) else bif y3.snd.fst then some ({ x0 with m:=y3.fst,th:={ x0.th with phase:=x2 } }) else some ({ x0 with m:=y3.fst,th:={ x0.th with phase:=x3 } })
   | none=>none
  | none=>none
 | none=>none
def Ze7 (x:Turn×Int×Int×Int):Option (Turn):=Zp1 x.1 x.2.1 x.2.2.1 x.2.2.2
def ZuT (x0:Turn):Option (Turn) := match Zdn (x0.c,x0.t) with
 | some y1 => match ZcI (x0.m,y1) with
  | some y2 => bif y2.snd != (0:Int) then some (x0) else match Zf1 (x0.th.item,x0.th.layer) with
   | some y3 => bif y2.fst != y3 then some ({ x0 with th:={ x0.th with phase:=(13:Int) } }) else bif decide (x0.th.left<(1:Int)) then some ({ x0 with th:={ x0.th with phase:=(26:Int) } }) else match ZhI x0 with
    | some y4 => bif y4 then some ({ x0 with th:={ x0.th with phase:=(26:Int) } }) else some ({ x0 with th:={ x0.th with left:=Zaf IntKind.i64 (x0.th.left-(1:Int)) } })
    | none=>none
   | none=>none
  | none=>none
 | none=>none
def ZoG (x:Turn):Option (Turn):=ZuT x
def Zu7 (x0:Int):Option (Int) := bif decide (x0<(0:Int)) then some ((-1:Int)) else some (Zaf IntKind.i64 (x0.tdiv (2:Int)))
def Zom (x:Int):Option (Int):=Zu7 x
def ZuV (x0:Turn):Option (Turn×Bool) := bif x0.th.phase == (17:Int) then match Zl1 (x0.m,x0.t,x0.th.batch) with
 | some y1 => bif y1.snd == (0:Int) then some (({ x0 with m:=y1.fst,th:={ x0.th with phase:=(18:Int) } },true)) else some ((x0,true))
 | none=>none else bif x0.th.phase == (18:Int) then match ZiW (x0,(19:Int)) with
  | some y1 => some ((y1,true))
  | none=>none else bif x0.th.phase == (19:Int) then match Zoo x0 with
   | some y1 => some ((y1,true))
   | none=>none else bif x0.th.phase == (20:Int) then match Ze7 (x0,x0.t,(21:Int),(13:Int)) with
    | some y1 => some ((y1,true))
    | none=>none else bif x0.th.phase == (21:Int) then match Ze7 (x0,x0.th.who,(22:Int),(24:Int)) with
     | some y1 => some ((y1,true))
     | none=>none else bif x0.th.phase == (22:Int) then match Zl9 (x0.m,x0.th.who) with
      | some y1 => bif y1.snd == (0:Int) then match Zlh (x0,x0.th.who,y1.fst) with
        | some y2 => some (({ y2 with th:={ y2.th with phase:=(25:Int) } },true))
        | none=>none else some ((x0,true))
      | none=>none else bif x0.th.phase == (23:Int) then match ZoG x0 with
       | some y1 => some ((y1,true))
       | none=>none else bif x0.th.phase == (24:Int) then match ZiW (x0,(23:Int)) with
        | some y1 => some ((y1,true))
        | none=>none else bif x0.th.phase == (26:Int) then match Ze7 (x0,x0.t,(2:Int),(13:Int)) with
         | some y1 => bif y1.th.phase == (2:Int) then match Zom y1.th.width with
          | some y2 => match Zgd { y1 with th:={ y1.th with width:=if y2>(1:Int) then y2 else (1:Int) } } with
           | some y3 => some ((y3,true))
           | none=>none
          | none=>none else some ((y1,true))
         | none=>none else some ((x0,false))
def Zc0 (x:Turn):Option (Turn×Bool):=ZuV x
def ZuU (x0:Turn):Option (Turn) := bif x0.th.phase == (0:Int) then some (x0) else bif x0.th.phase == (1:Int) then match Zdn (x0.c,x0.t) with
 | some y1 => match ZcA (x0.m,y1,(0:Int)) with
  | some y2 => bif y2.snd != (0:Int) then some ({ x0 with log:=([]:List Mark),done:=false }) else match ZnI { x0 with m:=y2.fst,log:=([]:List Mark),done:=false } with
    | some y3 => some (y3)
    | none=>none
  | none=>none
 | none=>none else match ZoO { x0 with log:=([]:List Mark),done:=false } with
 | some y1 => bif !y1.snd then match Zon { x0 with log:=([]:List Mark),done:=false } with
   | some y2 => bif !y2.snd then match Zk2 { x0 with log:=([]:List Mark),done:=false } with
     | some y3 => bif !y3.snd then match ZfU { x0 with log:=([]:List Mark),done:=false } with
       | some y4 => bif !y4.snd then match Zc0 { x0 with log:=([]:List Mark),done:=false } with
         | some y5 => some (y5.fst)
         | none=>none else some (y4.fst)
       | none=>none else bif !y3.snd then match Zc0 { x0 with log:=([]:List Mark),done:=false } with
        | some y4 => some (y4.fst)
        | none=>none else some (y3.fst)
     | none=>none else bif !y2.snd then match ZfU { x0 with log:=([]:List Mark),done:=false } with
      | some y3 => bif !y3.snd then match Zc0 { x0 with log:=([]:List Mark),done:=false } with
        | some y4 => some (y4.fst)
        | none=>none else some (y3.fst)
      | none=>none else bif !y2.snd then match Zc0 { x0 with log:=([]:List Mark),done:=false } with
       | some y3 => some (y3.fst)
       | none=>none else some (y2.fst)
   | none=>none else bif !y1.snd then match Zk2 { x0 with log:=([]:List Mark),done:=false } with
    | some y2 => bif !y2.snd then match ZfU { x0 with log:=([]:List Mark),done:=false } with
      | some y3 => bif !y3.snd then match Zc0 { x0 with log:=([]:List Mark),done:=false } with
        | some y4 => some (y4.fst)
        | none=>none else some (y3.fst)
      | none=>none else bif !y2.snd then match Zc0 { x0 with log:=([]:List Mark),done:=false } with
       | some y3 => some (y3.fst)
       | none=>none else some (y2.fst)
    | none=>none else bif !y1.snd then match ZfU { x0 with log:=([]:List Mark),done:=false } with
     | some y2 => bif !y2.snd then match Zc0 { x0 with log:=([]:List Mark),done:=false } with
       | some y3 => some (y3.fst)
       | none=>none else some (y2.fst)
     | none=>none else bif !y1.snd then match Zc0 { x0 with log:=([]:List Mark),done:=false } with
      | some y2 => some (y2.fst)
      | none=>none else some (y1.fst)
 | none=>none
def ZoH (x:Turn):Option (Turn):=ZuU x
def Zr8 (x0:Int) (x1:Wld) (x2:Wld) (x3:Turn) (x4:List Mark) (x5:Int):Option ((Int×Wld×Wld×Turn×(List Mark)×Int)⊕((Int×Wld×Wld×Turn×(List Mark)))) := bif decide (x5<(↑x3.log.length:Int)) then bif decide ((0:Int)<=x5) then bif decide (x5<(↑x3.log.length:Int)) then bif fewB (x4.length+({ x3.log.getD x5.toNat Za1 with step:=x1.steps }::([]:List Mark)).length) then some (Sum.inl (x0,x1,x2,x3,x4++{ x3.log.getD x5.toNat Za1 with step:=x1.steps }::([]:List Mark),Zaf IntKind.i64 (x5+(1:Int)))) else none else none else none else some (Sum.inr (x0,x1,x2,x3,x4))
def Ziz (x:Int×Wld×Wld×Turn×(List Mark)×Int):Option ((Int×Wld×Wld×Turn×(List Mark)×Int)⊕((Int×Wld×Wld×Turn×(List Mark)))):=Zr8 x.1 x.2.1 x.2.2.1 x.2.2.2.1 x.2.2.2.2.1 x.2.2.2.2.2
def ZrY (x:Int×Wld×Wld×Turn×(List Mark)×Int):Option ((Int×Wld×Wld×Turn×(List Mark))):=Zav Ziz x
def Zus (x0:Wld) (x1:Int):Option (Wld) := bif decide ((0:Int)<=x1) then bif decide (x1<(↑x0.t.length:Int)) then match ZoH (Turn.mk x0.c x1 x0.now x0.m (x0.t.getD x1.toNat Zay) x0.tape ([]:List Mark) false) with
 | some y1 => match Zix ({ x0 with steps:=Zaf IntKind.i64 (x0.steps+(1:Int)) },x1,y1.th) with
  | some y2 => bif fewB ((0:Nat)+y2.log.length) then match ZrY (x1,{ y2 with m:=y1.m,tape:=y1.tape },Wld.mk (Config.mk (0:Int) (0:Int) (0:Int) (0:Int) (0:Int) (0:Int) (0:Int) (0:Int) false (0:Int) (0:Int) (0:Int)) (Memo.mk ([]:List Int) ([]:List (List Entry))) ([]:List Thread) (0:Int) (0:Int) (Tape.mk ([]:List Int) (0:Int)) ([]:List Mark) ([]:List Event),y1,y2.log,(0:Int)) with
   | some y3 => bif !y3.snd.snd.snd.fst.done then some ({ y3.snd.fst with log:=y3.snd.snd.snd.snd }) else match Zc6 (y3.snd.snd.snd.fst.th.op,y3.snd.snd.snd.fst.th.x,y3.snd.fst.c.lo,y3.snd.fst.c.hi) with
    | some y4 => match ZhT ({ y3.snd.fst with log:=y3.snd.snd.snd.snd },Event.mk (2:Int) y3.fst y3.snd.snd.snd.fst.th.item y3.snd.snd.snd.fst.th.op y3.snd.snd.snd.fst.th.x y4.snd (0:Int)) with
     | some y5 => some (y5)
     | none=>none
    | none=>none
   | none=>none else none
  | none=>none
 | none=>none else none else none
def Zob (x:Wld×Int):Option (Wld):=Zus x.1 x.2
def Zun (x0:Wld) (x1:SEntry):Option (Wld×Int) := match ZjP (x0.c,x1) with
 | some y1 => bif y1 != (0:Int) then some ((x0,y1)) else bif x1.kind == (3:Int) then some (({ x0 with now:=Zaf IntKind.i64 (x0.now+(1:Int)) },(0:Int))) else bif decide ((0:Int)<=x1.t) then bif decide (x1.t<(↑x0.t.length:Int)) then bif x1.kind == (1:Int) then match Zhs (x0.t.getD x1.t.toNat Zay) with
  | some y2 => bif y2 then match ZhT (x0,Event.mk (3:Int) x1.t x1.item x1.op (0:Int) false (0:Int)) with
   | some y3 => some ((y3,(170:Int)))
   | none=>none else match ZnE (x0.c,x1.t,x0.t.getD x1.t.toNat Zay,x1.item,x1.op,x0.now) with
   | some y3 => match Zix (x0,x1.t,y3) with
    | some y4 => match ZhT (y4,Event.mk (1:Int) x1.t x1.item x1.op (0:Int) false (0:Int)) with
     | some y5 => some ((y5,(0:Int)))
     | none=>none
    | none=>none
   | none=>none
  | none=>none else match Zhs (x0.t.getD x1.t.toNat Zay) with
  | some y2 => bif !y2 then some ((x0,(0:Int))) else match Zob (x0,x1.t) with
   | some y3 => some ((y3,(0:Int)))
   | none=>none
  | none=>none else none else none
 | none=>none
def Zoz (x:Wld×SEntry):Option (Wld×Int):=Zun x.1 x.2
def Ztx (x0:List SEntry) (x1:Config) (x2:Int):Option (((List SEntry)×Config×Int)⊕((Unit)⊕(Int×Int))) := bif decide (x2<(↑x0.length:Int)) then bif decide ((0:Int)<=x2) then bif decide (x2<(↑x0.length:Int)) then match ZjP (x1,x0.getD x2.toNat ZaV) with
 | some y1 => bif y1 != (0:Int) then some (Sum.inr (Sum.inr (x2,y1))) else some (Sum.inl (x0,x1,Zaf IntKind.i64 (x2+(1:Int))))
 | none=>none else none else none else some (Sum.inr (Sum.inl ()))
def Zj8 (x:(List SEntry)×Config×Int):Option (((List SEntry)×Config×Int)⊕((Unit)⊕(Int×Int))):=Ztx x.1 x.2.1 x.2.2
def Ztj (x:(List SEntry)×Config×Int):Option ((Unit)⊕(Int×Int)):=Zav Zj8 x
def Zww (x0:Config) (x1:List SEntry):Option (Int×Int) := match Zel x0 with
 | some y1 => bif y1 != (0:Int) then some (((0:Int),y1)) else bif decide ((↑x1.length:Int)>(65536:Int)) then some (((0:Int),(2:Int))) else match Ztj (x1,x0,(0:Int)) with
  | some (.inl y2) => some (((0:Int),(0:Int)))
  | some (.inr y3) => some (y3)
  | none=>none
 | none=>none
def ZpB (x:Config×(List SEntry)):Option (Int×Int):=Zww x.1 x.2
def Zto (x0:List SEntry) (x1:Wld) (x2:Wld) (x3:Int):Option (((List SEntry)×Wld×Wld×Int)⊕((Wld×Wld))) := bif decide (x3<(↑x0.length:Int)) then bif decide ((0:Int)<=x3) then bif decide (x3<(↑x0.length:Int)) then match Zoz (x2,x0.getD x3.toNat ZaV) with
 | some y1 => some (Sum.inl (x0,x1,y1.fst,Zaf IntKind.i64 (x3+(1:Int))))
 | none=>none else none else none else some (Sum.inr (x1,x2))
def ZjG (x:(List SEntry)×Wld×Wld×Int):Option (((List SEntry)×Wld×Wld×Int)⊕((Wld×Wld))):=Zto x.1 x.2.1 x.2.2.1 x.2.2.2
def Ztp (x:(List SEntry)×Wld×Wld×Int):Option ((Wld×Wld)):=Zav ZjG x
def Zwe (x0:Config) (x1:List SEntry) (x2:List Int):Option (Wld×Int×Int) := match ZpB (x0,x1) with
 | some y1 => bif y1.snd != (0:Int) then some ((Wld.mk (Config.mk (0:Int) (0:Int) (0:Int) (0:Int) (0:Int) (0:Int) (0:Int) (0:Int) false (0:Int) (0:Int) (0:Int)) (Memo.mk ([]:List Int) ([]:List (List Entry))) ([]:List Thread) (0:Int) (0:Int) (Tape.mk ([]:List Int) (0:Int)) ([]:List Mark) ([]:List Event),y1)) else match Zpw (x0,x2) with
  | some y2 => match Ztp (x1,Wld.mk (Config.mk (0:Int) (0:Int) (0:Int) (0:Int) (0:Int) (0:Int) (0:Int) (0:Int) false (0:Int) (0:Int) (0:Int)) (Memo.mk ([]:List Int) ([]:List (List Entry))) ([]:List Thread) (0:Int) (0:Int) (Tape.mk ([]:List Int) (0:Int)) ([]:List Mark) ([]:List Event),y2.fst,(0:Int)) with
   | some y3 => some ((y3.snd,(0:Int),(0:Int)))
   | none=>none
  | none=>none
 | none=>none
def Zws (x:Config×(List SEntry)×(List Int)):Option (Wld×Int×Int):=Zwe x.1 x.2.1 x.2.2
def Zqv (x0:List SEntry) (x1:List SEntry) (x2:Int):Option (((List SEntry)×(List SEntry)×Int)⊕(((List SEntry)))) := bif decide (x2<(↑x0.length:Int)) then bif decide ((0:Int)<=x2) then bif decide (x2<(↑x0.length:Int)) then bif decide ((0:Int)<=x2) then bif decide (x2<(↑x0.length:Int)) then bif decide ((0:Int)<=x2) then bif decide (x2<(↑x0.length:Int)) then bif decide ((0:Int)<=x2) then bif decide (x2<(↑x0.length:Int)) then bif fewB (x1.length+(x0.getD x2.toNat ZaV::([]:List SEntry)).length) then some (Sum.inl (x0,x1++x0.getD x2.toNat ZaV::([]:List SEntry),Zaf IntKind.i64 (x2+(1:Int)))) else none else none else none else none else none else none else none else none else none else some (Sum.inr x1)
def Zif (x:(List SEntry)×(List SEntry)×Int):Option (((List SEntry)×(List SEntry)×Int)⊕(((List SEntry)))):=Zqv x.1 x.2.1 x.2.2
def Zrh (x:(List SEntry)×(List SEntry)×Int):Option (((List SEntry))):=Zav Zif x
def ZtI (x0:List SEntry):Option ((List SEntry)) := match Zrh (x0,([]:List SEntry),(0:Int)) with
 | some y1 => some (y1)
 | none=>none
def Ztw (x:(List SEntry)):Option ((List SEntry)):=ZtI x
def Zhf (x0:List Event) (x1:List Event) (x2:Int):Option (((List Event)×(List Event)×Int)⊕((Unit)⊕(Bool))) := bif decide (x2<(↑x0.length:Int)) then bif decide ((0:Int)<=x2) then bif decide (x2<(↑x0.length:Int)) then bif decide ((0:Int)<=x2) then bif decide (x2<(↑x1.length:Int)) then bif !((x0.getD x2.toNat Zbo).kind == (x1.getD x2.toNat Zbo).kind && ((x0.getD x2.toNat Zbo).t == (x1.getD x2.toNat Zbo).t && ((x0.getD x2.toNat Zbo).item == (x1.getD x2.toNat Zbo).item && ((x0.getD x2.toNat Zbo).op.tag == (x1.getD x2.toNat Zbo).op.tag && ((x0.getD x2.toNat Zbo).op.v == (x1.getD x2.toNat Zbo).op.v && true) && ((x0.getD x2.toNat Zbo).prior == (x1.getD x2.toNat Zbo).prior && ((x0.getD x2.toNat Zbo).did == (x1.getD x2.toNat Zbo).did && ((x0.getD x2.toNat Zbo).step == (x1.getD x2.toNat Zbo).step && true))))))) then some (Sum.inr (Sum.inr false)) else some (Sum.inl (x0,x1,Zaf IntKind.i64 (x2+(1:Int)))) else none else none else none else none else some (Sum.inr (Sum.inl ()))
def Zd2 (x:(List Event)×(List Event)×Int):Option (((List Event)×(List Event)×Int)⊕((Unit)⊕(Bool))):=Zhf x.1 x.2.1 x.2.2
def Zlm (x:(List Event)×(List Event)×Int):Option ((Unit)⊕(Bool)):=Zav Zd2 x
def Zi9 (x0:List Event) (x1:List Event):Option (Bool) := bif (↑x0.length:Int) != (↑x1.length:Int) then some (false) else match Zlm (x0,x1,(0:Int)) with
 | some (.inl y1) => some (true)
 | some (.inr y2) => some (y2)
 | none=>none
def ZiC (x:(List Event)×(List Event)):Option (Bool):=Zi9 x.1 x.2
def ZiM (x0:Wld) (x1:Wld) (x2:Int):Option ((Wld×Wld×Int)⊕((Unit)⊕(Bool))) := bif decide (x2<(↑x0.t.length:Int)) then bif decide ((0:Int)<=x2) then bif decide (x2<(↑x0.t.length:Int)) then bif decide ((0:Int)<=x2) then bif decide (x2<(↑x1.t.length:Int)) then match Zik (x0.t.getD x2.toNat Zay,x1.t.getD x2.toNat Zay) with
 | some y1 => bif !y1 then some (Sum.inr (Sum.inr false)) else some (Sum.inl (x0,x1,Zaf IntKind.i64 (x2+(1:Int))))
 | none=>none else none else none else none else none else some (Sum.inr (Sum.inl ()))
def ZeR (x:Wld×Wld×Int):Option ((Wld×Wld×Int)⊕((Unit)⊕(Bool))):=ZiM x.1 x.2.1 x.2.2
def Zmo (x:Wld×Wld×Int):Option ((Unit)⊕(Bool)):=Zav ZeR x
def Zlf (x0:Wld) (x1:Wld):Option (Bool) := bif !(x0.c.threads == x1.c.threads && (x0.c.items == x1.c.items && (x0.c.backend == x1.c.backend && (x0.c.depth == x1.c.depth && (x0.c.layers == x1.c.layers && (x0.c.width == x1.c.width && (x0.c.spin == x1.c.spin && (x0.c.wait == x1.c.wait && (x0.c.bounded == x1.c.bounded && (x0.c.lo == x1.c.lo && (x0.c.hi == x1.c.hi && (x0.c.init == x1.c.init && true)))))))))))) then some (false) else bif x0.now != x1.now then some (false) else bif x0.steps != x1.steps then some (false) else bif (↑x0.t.length:Int) != (↑x1.t.length:Int) then some (false) else match ZhP (x0.m,x1.m) with
 | some y1 => bif !y1 then some (false) else match Zh5 (x0.tape,x1.tape) with
  | some y2 => bif !y2 then some (false) else match ZgV (x0.log,x1.log) with
   | some y3 => bif !y3 then some (false) else match ZiC (x0.hist,x1.hist) with
    | some y4 => bif !y4 then some (false) else match Zmo (x0,x1,(0:Int)) with
     | some (.inl y5) => some (true)
     | some (.inr y6) => some (y6)
     | none=>none
    | none=>none
   | none=>none
  | none=>none
 | none=>none
def ZkK (x:Wld×Wld):Option (Bool):=Zlf x.1 x.2
def Zgv (x0:List Entry) (x1:List Entry) (x2:Int):Option (((List Entry)×(List Entry)×Int)⊕(((List Entry)))) := bif decide (x2<(↑x0.length:Int)) then bif decide ((0:Int)<=x2) then bif decide (x2<(↑x0.length:Int)) then bif decide ((0:Int)<=x2) then bif decide (x2<(↑x0.length:Int)) then bif fewB (x1.length+(x0.getD x2.toNat Zcn::([]:List Entry)).length) then some (Sum.inl (x0,x1++x0.getD x2.toNat Zcn::([]:List Entry),Zaf IntKind.i64 (x2+(1:Int)))) else none else none else none else none else none else some (Sum.inr x1)
def ZdQ (x:(List Entry)×(List Entry)×Int):Option (((List Entry)×(List Entry)×Int)⊕(((List Entry)))):=Zgv x.1 x.2.1 x.2.2
def Zkg (x:(List Entry)×(List Entry)×Int):Option (((List Entry))):=Zav ZdQ x
def ZfE (x0:List Entry):Option ((List Entry)) := match Zkg (x0,([]:List Entry),(0:Int)) with
 | some y1 => some (y1)
 | none=>none
def ZeC (x:(List Entry)):Option ((List Entry)):=ZfE x
def Zg5 (x0:Memo) (x1:Memo) (x2:Memo) (x3:Int):Option ((Memo×Memo×Memo×Int)⊕((Memo×Memo))) := bif decide (x3<(↑x0.boxes.length:Int)) then bif decide ((0:Int)<=x3) then bif decide (x3<(↑x0.boxes.length:Int)) then match ZeC (x0.boxes.getD x3.toNat ([]:List Entry)) with
 | some y1 => bif fewB (x2.boxes.length+(y1::([]:List (List Entry))).length) then some (Sum.inl (x0,x1,{ x2 with boxes:=x2.boxes++y1::([]:List (List Entry)) },Zaf IntKind.i64 (x3+(1:Int)))) else none
 | none=>none else none else none else some (Sum.inr (x1,x2))
def Zd9 (x:Memo×Memo×Memo×Int):Option ((Memo×Memo×Memo×Int)⊕((Memo×Memo))):=Zg5 x.1 x.2.1 x.2.2.1 x.2.2.2
def Zls (x:Memo×Memo×Memo×Int):Option ((Memo×Memo)):=Zav Zd9 x
def Ziu (x0:Memo):Option (Memo) := match Zls (x0,Memo.mk ([]:List Int) ([]:List (List Entry)),{ x0 with boxes:=([]:List (List Entry)) },(0:Int)) with
 | some y1 => some (y1.snd)
 | none=>none
def Ziv (x:Memo):Option (Memo):=Ziu x
def Zh7 (x0:List Mark) (x1:List Mark) (x2:Int):Option (((List Mark)×(List Mark)×Int)⊕(((List Mark)))) := bif decide (x2<(↑x0.length:Int)) then bif decide ((0:Int)<=x2) then bif decide (x2<(↑x0.length:Int)) then bif decide ((0:Int)<=x2) then bif decide (x2<(↑x0.length:Int)) then bif decide ((0:Int)<=x2) then bif decide (x2<(↑x0.length:Int)) then bif decide ((0:Int)<=x2) then bif decide (x2<(↑x0.length:Int)) then bif decide ((0:Int)<=x2) then bif decide (x2<(↑x0.length:Int)) then bif fewB (x1.length+(x0.getD x2.toNat Za1::([]:List Mark)).length) then some (Sum.inl (x0,x1++x0.getD x2.toNat Za1::([]:List Mark),Zaf IntKind.i64 (x2+(1:Int)))) else none else none else none else none else none else none else none else none else none else none else none else some (Sum.inr x1)
def Zev (x:(List Mark)×(List Mark)×Int):Option (((List Mark)×(List Mark)×Int)⊕(((List Mark)))):=Zh7 x.1 x.2.1 x.2.2
def ZlQ (x:(List Mark)×(List Mark)×Int):Option (((List Mark))):=Zav Zev x
def ZjN (x0:List Mark):Option ((List Mark)) := match ZlQ (x0,([]:List Mark),(0:Int)) with
 | some y1 => some (y1)
 | none=>none
def ZjQ (x:(List Mark)):Option ((List Mark)):=ZjN x
def ZhE (x0:Thread) (x1:Thread) (x2:Thread) (x3:Int):Option ((Thread×Thread×Thread×Int)⊕((Thread×Thread))) := bif decide (x3<(↑x0.kids.length:Int)) then bif decide ((0:Int)<=x3) then bif decide (x3<(↑x0.kids.length:Int)) then bif fewB (x2.kids.length+(x0.kids.getD x3.toNat dKid::([]:List Kid)).length) then some (Sum.inl (x0,x1,{ x2 with kids:=x2.kids++x0.kids.getD x3.toNat dKid::([]:List Kid) },Zaf IntKind.i64 (x3+(1:Int)))) else none else none else none else some (Sum.inr (x1,x2))
def Zex (x:Thread×Thread×Thread×Int):Option ((Thread×Thread×Thread×Int)⊕((Thread×Thread))):=ZhE x.1 x.2.1 x.2.2.1 x.2.2.2
def ZlV (x:Thread×Thread×Thread×Int):Option ((Thread×Thread)):=Zav Zex x
def ZjW (x0:Thread):Option (Thread) := match ZeC x0.batch with
 | some y1 => match ZlV (x0,Thread.mk (0:Int) (0:Int) (Op.mk (0:Int) (0:Int)) ([]:List Entry) ([]:List Kid) ([]:List Int) (0:Int) (0:Int) (0:Int) (0:Int) (0:Int) (0:Int) (0:Int) (0:Int) (0:Int) (0:Int),{ x0 with batch:=y1,kids:=([]:List Kid) },(0:Int)) with
  | some y2 => some (y2.snd)
  | none=>none
 | none=>none
def Zj5 (x:Thread):Option (Thread):=ZjW x
def Zhi (x0:Wld) (x1:Wld) (x2:Wld) (x3:Int):Option ((Wld×Wld×Wld×Int)⊕((Wld×Wld))) := bif decide (x3<(↑x0.hist.length:Int)) then bif decide ((0:Int)<=x3) then bif decide (x3<(↑x0.hist.length:Int)) then bif fewB (x2.hist.length+(x0.hist.getD x3.toNat Zbo::([]:List Event)).length) then some (Sum.inl (x0,x1,{ x2 with hist:=x2.hist++x0.hist.getD x3.toNat Zbo::([]:List Event) },Zaf IntKind.i64 (x3+(1:Int)))) else none else none else none else some (Sum.inr (x1,x2))
def Zd6 (x:Wld×Wld×Wld×Int):Option ((Wld×Wld×Wld×Int)⊕((Wld×Wld))):=Zhi x.1 x.2.1 x.2.2.1 x.2.2.2
def ZkT (x:Wld×Wld×Wld×Int):Option ((Wld×Wld)):=Zav Zd6 x
def Zg0 (x0:Wld) (x1:Wld) (x2:Wld) (x3:Int):Option ((Wld×Wld×Wld×Int)⊕((Wld×Wld×Wld))) := bif decide (x3<(↑x0.t.length:Int)) then bif decide ((0:Int)<=x3) then bif decide (x3<(↑x0.t.length:Int)) then match Zj5 (x0.t.getD x3.toNat Zay) with
 | some y1 => bif fewB (x2.t.length+(y1::([]:List Thread)).length) then some (Sum.inl (x0,x1,{ x2 with t:=x2.t++y1::([]:List Thread) },Zaf IntKind.i64 (x3+(1:Int)))) else none
 | none=>none else none else none else some (Sum.inr (x0,x1,x2))
def Zeb (x:Wld×Wld×Wld×Int):Option ((Wld×Wld×Wld×Int)⊕((Wld×Wld×Wld))):=Zg0 x.1 x.2.1 x.2.2.1 x.2.2.2
def ZkJ (x:Wld×Wld×Wld×Int):Option ((Wld×Wld×Wld)):=Zav Zeb x
def Zi2 (x0:Wld):Option (Wld) := match Ziv x0.m with
 | some y1 => match ZjQ x0.log with
  | some y2 => match ZkJ (x0,Wld.mk (Config.mk (0:Int) (0:Int) (0:Int) (0:Int) (0:Int) (0:Int) (0:Int) (0:Int) false (0:Int) (0:Int) (0:Int)) (Memo.mk ([]:List Int) ([]:List (List Entry))) ([]:List Thread) (0:Int) (0:Int) (Tape.mk ([]:List Int) (0:Int)) ([]:List Mark) ([]:List Event),{ x0 with m:=y1,t:=([]:List Thread),log:=y2,hist:=([]:List Event) },(0:Int)) with
   | some y3 => match ZkT (y3.fst,y3.snd.fst,y3.snd.snd,(0:Int)) with
    | some y4 => some (y4.snd)
    | none=>none
   | none=>none
  | none=>none
 | none=>none
def Zgg (x:Wld):Option (Wld):=Zi2 x
def ZrP (x0:Int) (x1:List Thread) (x2:Int) (x3:Int):Option ((Int×(List Thread)×Int×Int)⊕((Int))) := bif decide (x3<x2) then bif decide ((0:Int)<=x3) then bif decide (x3<(↑x1.length:Int)) then match ZbH (x1.getD x3.toNat Zay) with
 | some y1 => bif y1 then some (Sum.inl (Zaf IntKind.i64 (x0+(1:Int)),x1,x2,Zaf IntKind.i64 (x3+(1:Int)))) else some (Sum.inl (x0,x1,x2,Zaf IntKind.i64 (x3+(1:Int))))
 | none=>none else none else none else some (Sum.inr x0)
def ZiK (x:Int×(List Thread)×Int×Int):Option ((Int×(List Thread)×Int×Int)⊕((Int))):=ZrP x.1 x.2.1 x.2.2.1 x.2.2.2
def Zsm (x:Int×(List Thread)×Int×Int):Option ((Int)):=Zav ZiK x
def Zvu (x0:Wld):Option (Int) := match Zsm ((0:Int),x0.t,(↑x0.t.length:Int),(0:Int)) with
 | some y1 => some (y1)
 | none=>none
def Zu2 (x:Wld):Option (Int):=Zvu x
def ZrN (x0:Wld) (x1:Int) (x2:Int):Option ((Wld×Int×Int)⊕((Int))) := bif decide (x2<(↑x0.t.length:Int)) then bif decide ((0:Int)<=x2) then bif decide (x2<(↑x0.t.length:Int)) then match Zhs (x0.t.getD x2.toNat Zay) with
 | some y1 => bif y1 then some (Sum.inl (x0,Zaf IntKind.i64 (x1+(1:Int)),Zaf IntKind.i64 (x2+(1:Int)))) else some (Sum.inl (x0,x1,Zaf IntKind.i64 (x2+(1:Int))))
 | none=>none else none else none else some (Sum.inr x1)
def Ziw (x:Wld×Int×Int):Option ((Wld×Int×Int)⊕((Int))):=ZrN x.1 x.2.1 x.2.2
def Zr2 (x:Wld×Int×Int):Option ((Int)):=Zav Ziw x
def Zuz (x0:Wld):Option (Int) := match Zr2 (x0,(0:Int),(0:Int)) with
 | some y1 => some (y1)
 | none=>none
def Zvg (x:Wld):Option (Int):=Zuz x
def Zrn (x0:Config) (x1:Wld) (x2:Config) (x3:Int) (x4:Int) (x5:Int):Option ((Config×Wld×Config×Int×Int×Int)⊕((Config×Wld×Config×Int×Int)⊕(Bool))) := bif decide (x5<(↑x1.log.length:Int)) then bif decide ((0:Int)<=x5) then bif decide (x5<(↑x1.log.length:Int)) then bif (x1.log.getD x5.toNat Za1).item != x3 then some (Sum.inl (x0,x1,x2,x3,x4,Zaf IntKind.i64 (x5+(1:Int)))) else bif (x1.log.getD x5.toNat Za1).prior != x4 then some (Sum.inr (Sum.inr false)) else bif decide (x5>(0:Int)) then bif decide ((0:Int)<=Zaf IntKind.i64 (x5-(1:Int))) then bif decide (Zaf IntKind.i64 (x5-(1:Int))<(↑x1.log.length:Int)) then bif decide ((x1.log.getD x5.toNat Za1).step<(x1.log.getD (Zaf IntKind.i64 (x5-(1:Int))).toNat Za1).step) then some (Sum.inr (Sum.inr false)) else match Zc6 ((x1.log.getD x5.toNat Za1).op,x4,x0.lo,x0.hi) with
  | some y1 => bif x0.bounded then bif decide (y1.fst<x0.lo) then some (Sum.inr (Sum.inr false)) else bif decide (y1.fst>x0.hi) then some (Sum.inr (Sum.inr false)) else some (Sum.inl (x0,x1,x2,x3,y1.fst,Zaf IntKind.i64 (x5+(1:Int)))) else some (Sum.inl (x0,x1,x2,x3,y1.fst,Zaf IntKind.i64 (x5+(1:Int))))
  | none=>none else none else none else match Zc6 ((x1.log.getD x5.toNat Za1).op,x4,x0.lo,x0.hi) with
 | some y1 => bif x0.bounded then bif decide (y1.fst<x0.lo) then some (Sum.inr (Sum.inr false)) else bif decide (y1.fst>x0.hi) then some (Sum.inr (Sum.inr false)) else some (Sum.inl (x0,x1,x2,x3,y1.fst,Zaf IntKind.i64 (x5+(1:Int)))) else some (Sum.inl (x0,x1,x2,x3,y1.fst,Zaf IntKind.i64 (x5+(1:Int))))
 | none=>none else none else none else some (Sum.inr (Sum.inl (x0,x1,x2,x3,x4)))
def ZhQ (x:Config×Wld×Config×Int×Int×Int):Option ((Config×Wld×Config×Int×Int×Int)⊕((Config×Wld×Config×Int×Int)⊕(Bool))):=Zrn x.1 x.2.1 x.2.2.1 x.2.2.2.1 x.2.2.2.2.1 x.2.2.2.2.2
def ZqS (x:Config×Wld×Config×Int×Int×Int):Option ((Config×Wld×Config×Int×Int)⊕(Bool)):=Zav ZhQ x
def ZqO (x0:Config) (x1:Wld) (x2:Config) (x3:Int):Option ((Config×Wld×Config×Int)⊕((Unit)⊕(Bool))) := bif decide (x3<x0.items) then match ZqS (x0,x1,x2,x3,x0.init,(0:Int)) with
 | some (.inl y1) => match ZeK (y1.snd.snd.fst,y1.snd.snd.snd.fst) with
  | some y2 => bif decide ((0:Int)<=y2) then bif decide (y2<(↑y1.snd.fst.m.words.length:Int)) then bif y1.snd.fst.m.words.getD (Int.toNat y2) (0:Int) != y1.snd.snd.snd.snd then some (Sum.inr (Sum.inr false)) else some (Sum.inl (y1.fst,y1.snd.fst,y1.snd.snd.fst,Zaf IntKind.i64 (y1.snd.snd.snd.fst+(1:Int)))) else none else none
  | none=>none
 | some (.inr y2) => some (Sum.inr (Sum.inr y2))
 | none=>none else some (Sum.inr (Sum.inl ()))
def Zhq (x:Config×Wld×Config×Int):Option ((Config×Wld×Config×Int)⊕((Unit)⊕(Bool))):=ZqO x.1 x.2.1 x.2.2.1 x.2.2.2
def ZqT (x:Config×Wld×Config×Int):Option ((Unit)⊕(Bool)):=Zav Zhq x
def Zts (x0:Config) (x1:Wld):Option (Bool) := match ZfQ x0 with
 | some y1 => bif (↑x1.m.words.length:Int) != y1 then some (false) else bif decide ((↑x1.log.length:Int)>(1000:Int)) then some (false) else match ZqT (x0,x1,x0,(0:Int)) with
  | some (.inl y2) => some (true)
  | some (.inr y3) => some (y3)
  | none=>none
 | none=>none
def Ztq (x:Config×Wld):Option (Bool):=Zts x.1 x.2
def ZnX (x0:Config) (x1:Wld) (x2:Int) (x3:List Mark) (x4:Int) (x5:Bool) (x6:Event) (x7:Int):Option ((Config×Wld×Int×(List Mark)×Int×Bool×Event×Int)⊕((Config×Wld×Int×(List Mark)×Int×Bool×Event)⊕(Bool))) := bif decide (x7<(↑x1.hist.length:Int)) then bif decide ((0:Int)<=x7) then bif decide (x7<(↑x1.hist.length:Int)) then bif (x1.hist.getD x7.toNat Zbo).t != x2 then some (Sum.inl (x0,x1,x2,x3,x4,x5,x6,Zaf IntKind.i64 (x7+(1:Int)))) else bif (x1.hist.getD x7.toNat Zbo).kind == (3:Int) then some (Sum.inl (x0,x1,x2,x3,x4,x5,x6,Zaf IntKind.i64 (x7+(1:Int)))) else bif ((x1.hist.getD x7.toNat Zbo).kind == (1:Int)) == x5 then some (Sum.inr (Sum.inr false)) else bif (x1.hist.getD x7.toNat Zbo).kind == (1:Int) then some (Sum.inl (x0,x1,x2,x3,x4,true,x1.hist.getD x7.toNat Zbo,Zaf IntKind.i64 (x7+(1:Int)))) else match Zc6 ((x1.hist.getD x7.toNat Zbo).op,(x1.hist.getD x7.toNat Zbo).prior,x0.lo,x0.hi) with
 | some y1 => bif decide (x4>=(↑x3.length:Int)) then some (Sum.inr (Sum.inr false)) else bif decide ((0:Int)<=x4) then bif decide (x4<(↑x3.length:Int)) then bif !((x3.getD x4.toNat Za1).op.tag == (x1.hist.getD x7.toNat Zbo).op.tag && ((x3.getD x4.toNat Za1).op.v == (x1.hist.getD x7.toNat Zbo).op.v && true)) then some (Sum.inr (Sum.inr false)) else bif decide ((0:Int)<=x4) then bif decide (x4<(↑x3.length:Int)) then bif (x3.getD x4.toNat Za1).item != (x1.hist.getD x7.toNat Zbo).item then some (Sum.inr (Sum.inr false)) else bif decide ((0:Int)<=x4) then bif decide (x4<(↑x3.length:Int)) then bif (x3.getD x4.toNat Za1).prior != (x1.hist.getD x7.toNat Zbo).prior then some (Sum.inr (Sum.inr false)) else bif !(x1.hist.getD x7.toNat Zbo).did == y1.snd then some (Sum.inr (Sum.inr false)) else bif !(x6.op.tag == (x1.hist.getD x7.toNat Zbo).op.tag && (x6.op.v == (x1.hist.getD x7.toNat Zbo).op.v && true)) then some (Sum.inr (Sum.inr false)) else bif x6.item != (x1.hist.getD x7.toNat Zbo).item then some (Sum.inr (Sum.inr false)) else bif decide ((0:Int)<=x4) then bif decide (x4<(↑x3.length:Int)) then bif decide ((x3.getD x4.toNat Za1).step<=x6.step) then some (Sum.inr (Sum.inr false)) else bif decide ((0:Int)<=x4) then bif decide (x4<(↑x3.length:Int)) then bif decide ((x3.getD x4.toNat Za1).step>(x1.hist.getD x7.toNat Zbo).step) then some (Sum.inr (Sum.inr false)) else some (Sum.inl (x0,x1,x2,x3,Zaf IntKind.i64 (x4+(1:Int)),false,x6,Zaf IntKind.i64 (x7+(1:Int)))) else none else none else none else none else none else none else none else none else none else none
 | none=>none else none else none else some (Sum.inr (Sum.inl (x0,x1,x2,x3,x4,x5,x6)))
def Zf3 (x:Config×Wld×Int×(List Mark)×Int×Bool×Event×Int):Option ((Config×Wld×Int×(List Mark)×Int×Bool×Event×Int)⊕((Config×Wld×Int×(List Mark)×Int×Bool×Event)⊕(Bool))):=ZnX x.1 x.2.1 x.2.2.1 x.2.2.2.1 x.2.2.2.2.1 x.2.2.2.2.2.1 x.2.2.2.2.2.2.1 x.2.2.2.2.2.2.2
def ZoF (x:Config×Wld×Int×(List Mark)×Int×Bool×Event×Int):Option ((Config×Wld×Int×(List Mark)×Int×Bool×Event)⊕(Bool)):=Zav Zf3 x
def Zpl (x0:Config) (x1:Wld) (x2:Int) (x3:List Mark) (x4:Int):Option ((Config×Wld×Int×(List Mark)×Int)⊕((Config×Wld×Int×(List Mark)))) := bif decide (x4<(↑x1.log.length:Int)) then bif decide ((0:Int)<=x4) then bif decide (x4<(↑x1.log.length:Int)) then bif (x1.log.getD x4.toNat Za1).t == x2 then bif decide ((0:Int)<=x4) then bif decide (x4<(↑x1.log.length:Int)) then bif fewB (x3.length+(x1.log.getD x4.toNat Za1::([]:List Mark)).length) then some (Sum.inl (x0,x1,x2,x3++x1.log.getD x4.toNat Za1::([]:List Mark),Zaf IntKind.i64 (x4+(1:Int)))) else none else none else none else some (Sum.inl (x0,x1,x2,x3,Zaf IntKind.i64 (x4+(1:Int)))) else none else none else some (Sum.inr (x0,x1,x2,x3))
def Zgs (x:Config×Wld×Int×(List Mark)×Int):Option ((Config×Wld×Int×(List Mark)×Int)⊕((Config×Wld×Int×(List Mark)))):=Zpl x.1 x.2.1 x.2.2.1 x.2.2.2.1 x.2.2.2.2
def Zpg (x:Config×Wld×Int×(List Mark)×Int):Option ((Config×Wld×Int×(List Mark))):=Zav Zgs x
def Zpj (x0:Config) (x1:Wld) (x2:Int):Option ((Config×Wld×Int)⊕((Unit)⊕(Bool))) := bif decide (x2<x0.threads) then match Zpg (x0,x1,x2,([]:List Mark),(0:Int)) with
 | some y1 => match ZoF (y1.fst,y1.snd.fst,y1.snd.snd.fst,y1.snd.snd.snd,(0:Int),false,Event.mk (0:Int) (0:Int) (0:Int) (Op.mk (0:Int) (0:Int)) (0:Int) false (0:Int),(0:Int)) with
  | some (.inl y2) => bif (↑(List.length y2.snd.snd.snd.fst):Int) != y2.snd.snd.snd.snd.fst then bif !y2.snd.snd.snd.snd.snd.fst then some (Sum.inr (Sum.inr false)) else bif (↑(List.length y2.snd.snd.snd.fst):Int) != Zaf IntKind.i64 (y2.snd.snd.snd.snd.fst+(1:Int)) then some (Sum.inr (Sum.inr false)) else bif decide ((0:Int)<=y2.snd.snd.snd.snd.fst) then bif decide (y2.snd.snd.snd.snd.fst<(↑(List.length y2.snd.snd.snd.fst):Int)) then bif !((List.getD y2.snd.snd.snd.fst (Int.toNat y2.snd.snd.snd.snd.fst) Za1).op.tag == y2.snd.snd.snd.snd.snd.snd.op.tag && ((List.getD y2.snd.snd.snd.fst (Int.toNat y2.snd.snd.snd.snd.fst) Za1).op.v == y2.snd.snd.snd.snd.snd.snd.op.v && true)) then some (Sum.inr (Sum.inr false)) else bif decide ((0:Int)<=y2.snd.snd.snd.snd.fst) then bif decide (y2.snd.snd.snd.snd.fst<(↑(List.length y2.snd.snd.snd.fst):Int)) then bif (List.getD y2.snd.snd.snd.fst (Int.toNat y2.snd.snd.snd.snd.fst) Za1).item != y2.snd.snd.snd.snd.snd.snd.item then some (Sum.inr (Sum.inr false)) else bif decide ((0:Int)<=y2.snd.snd.snd.snd.fst) then bif decide (y2.snd.snd.snd.snd.fst<(↑(List.length y2.snd.snd.snd.fst):Int)) then bif decide ((List.getD y2.snd.snd.snd.fst (Int.toNat y2.snd.snd.snd.snd.fst) Za1).step<=y2.snd.snd.snd.snd.snd.snd.step) then some (Sum.inr (Sum.inr false)) else some (Sum.inl (y2.fst,y2.snd.fst,Zaf IntKind.i64 (y2.snd.snd.fst+(1:Int)))) else none else none else none else none else none else none else some (Sum.inl (y2.fst,y2.snd.fst,Zaf IntKind.i64 (y2.snd.snd.fst+(1:Int))))
  | some (.inr y3) => some (Sum.inr (Sum.inr y3))
  | none=>none
 | none=>none else some (Sum.inr (Sum.inl ()))
def Zgt (x:Config×Wld×Int):Option ((Config×Wld×Int)⊕((Unit)⊕(Bool))):=Zpj x.1 x.2.1 x.2.2
def Zph (x:Config×Wld×Int):Option ((Unit)⊕(Bool)):=Zav Zgt x
def ZrG (x0:Config) (x1:Wld):Option (Bool) := bif decide ((↑x1.hist.length:Int)>(1000:Int)) then some (false) else match Zph (x0,x1,(0:Int)) with
 | some (.inl y1) => some (true)
 | some (.inr y2) => some (y2)
 | none=>none
def ZrD (x:Config×Wld):Option (Bool):=ZrG x.1 x.2
def Zhn (x0:Turn):Option (Turn) := bif x0.c.backend == (2:Int) then bif decide (x0.c.depth>(0:Int)) then some ({ x0 with th:={ x0.th with phase:=(4:Int) } }) else bif x0.c.backend == (3:Int) then bif decide (x0.c.layers>(0:Int)) then some ({ x0 with th:={ x0.th with phase:=(17:Int),layer:=(1:Int) } }) else some ({ x0 with th:={ x0.th with phase:=(2:Int) } }) else some ({ x0 with th:={ x0.th with phase:=(2:Int) } }) else bif x0.c.backend == (3:Int) then bif decide (x0.c.layers>(0:Int)) then some ({ x0 with th:={ x0.th with phase:=(17:Int),layer:=(1:Int) } }) else some ({ x0 with th:={ x0.th with phase:=(2:Int) } }) else some ({ x0 with th:={ x0.th with phase:=(2:Int) } })
def ZfB (x:Turn):Option (Turn):=Zhn x
def Zdw (x0:List Int):Option ((List Int)) := bif fewB ((0:Nat)+x0.length) then some (x0) else none
def ZbB (x:(List Int)):Option ((List Int)):=Zdw x
def Zfi (x0:List Int) (x1:Int):Option (Int×Int) := bif decide (x1<(0:Int)) then some (((0:Int),(30:Int))) else bif decide (x1>=(↑x0.length:Int)) then some (((0:Int),(30:Int))) else bif decide ((0:Int)<=x1) then bif decide (x1<(↑x0.length:Int)) then some ((x0.getD x1.toNat (0:Int),(0:Int))) else none else none
def ZbG (x:(List Int)×Int):Option (Int×Int):=Zfi x.1 x.2
def ZfV (x0:Memo) (x1:Int) (x2:Int):Option (Memo×Int) := match ZbG (x0.words,x1) with
 | some y1 => bif y1.snd != (0:Int) then some ((x0,y1.snd)) else match ZbB x0.words with
  | some y2 => bif decide ((0:Int)<=x1) then bif decide (x1<(↑(List.length y2):Int)) then some (({ x0 with words:=List.set y2 x1.toNat x2 },y1.snd)) else none else none
  | none=>none
 | none=>none
def Zcg (x:Memo×Int×Int):Option (Memo×Int):=ZfV x.1 x.2.1 x.2.2
def Zk0 (x0:Config) (x1:Int):Option (Int) := bif decide (x1<(0:Int)) then some ((-1:Int)) else bif decide (x1>=x0.threads) then some ((-1:Int)) else match Zcs x0 with
 | some y1 => some (Zaf IntKind.i64 (y1.lines+Zaf IntKind.i64 ((2:Int)*x1)))
 | none=>none
def Zc1 (x:Config×Int):Option (Int):=Zk0 x.1 x.2
def Zid (x0:Turn):Option (Turn×Bool) := bif x0.th.phase != (1:Int) then some ((x0,false)) else match Zc1 (x0.c,x0.t) with
 | some y1 => match Zcg (x0.m,y1,(0:Int)) with
  | some y2 => bif y2.snd != (0:Int) then some ((x0,true)) else match ZfB { x0 with m:=y2.fst } with
   | some y3 => some ((y3,true))
   | none=>none
  | none=>none
 | none=>none
def ZhG (x:Turn):Option (Turn×Bool):=Zid x
def Zk9 (x0:Config) (x1:Int) (x2:Int):Option (Int) := bif decide (x1<(0:Int)) then some ((-1:Int)) else bif decide (x1>=x0.items) then some ((-1:Int)) else match Zfr x0 with
 | some y1 => bif decide (x2<(1:Int)) then some ((-1:Int)) else bif decide (x2>=Zaf IntKind.i64 ((1:Int)+y1)) then some ((-1:Int)) else match Zcs x0 with
  | some y2 => some (Zaf IntKind.i64 (Zaf IntKind.i64 (x1*y2.block)+x2))
  | none=>none
 | none=>none
def Zed (x:Config×Int×Int):Option (Int):=Zk9 x.1 x.2.1 x.2.2
def Zdg (x0:Said):Option (Int) :=
 some (Zaf IntKind.i64 (Zaf IntKind.i64 ((8:Int)*Zaf IntKind.i64 (x0.n+(1:Int)))+x0.kind))
def ZbY (x:Said):Option (Int):=Zdg x
def ZkW (x0:Int):Option (Int) := match ZbY (Said.mk (1:Int) x0) with
 | some y1 => some (y1)
 | none=>none
def Ze2 (x:Int):Option (Int):=ZkW x
def ZmP (x0:Int):Option (Int) :=
 some ((if (0:Int)>x0 then (0:Int) else x0).fdiv ((2:Int) ^ min (Int.toNat (1:Int)) IntKind.i64.bits))
def ZiJ (x:Int):Option (Int):=ZmP x
def Zk8 (x0:Turn):Option (Turn) := bif decide (x0.th.stop>(0:Int)) then bif decide (x0.th.at_>=(0:Int)) then bif decide (x0.th.at_<(↑x0.th.held.length:Int)) then some ({ x0 with th:={ x0.th with phase:=(7:Int) } }) else some ({ x0 with th:={ x0.th with phase:=(11:Int) } }) else some ({ x0 with th:={ x0.th with phase:=(11:Int) } }) else bif decide (x0.th.at_>=(0:Int)) then bif decide (x0.th.at_<(↑x0.th.held.length:Int)) then some ({ x0 with th:={ x0.th with phase:=(7:Int) } }) else some ({ x0 with th:={ x0.th with phase:=(2:Int) } }) else some ({ x0 with th:={ x0.th with phase:=(2:Int) } })
def ZfY (x:Turn):Option (Turn):=Zk8 x
def Zli (x0:Turn):Option (Turn) := match ZfY { x0 with th:={ x0.th with at_:=(0:Int) } } with
 | some y1 => some (y1)
 | none=>none
def Zd3 (x:Turn):Option (Turn):=Zli x
def Zjz (x0:Turn):Option (Turn) := match ZbB x0.th.held with
 | some y1 => bif fewB (List.length y1+(x0.th.node::([]:List Int)).length) then match ZiJ x0.th.node with
  | some y2 => bif decide (y2>(0:Int)) then some ({ x0 with th:={ x0.th with held:=y1++x0.th.node::([]:List Int),node:=y2 } }) else match Zd3 { x0 with th:={ x0.th with held:=y1++x0.th.node::([]:List Int),node:=y2 } } with
   | some y3 => some (y3)
   | none=>none
  | none=>none else none
 | none=>none
def Zj7 (x:Turn):Option (Turn):=Zjz x
def ZhB (x0:Memo) (x1:Int) (x2:Int) (x3:Int):Option (Memo×Bool×Int) := match ZbG (x0.words,x1) with
 | some y1 => bif y1.snd != (0:Int) then some ((x0,false,y1.snd)) else bif y1.fst == x2 then match ZbB x0.words with
  | some y2 => bif decide ((0:Int)<=x1) then bif decide (x1<(↑(List.length y2):Int)) then some (({ x0 with words:=List.set y2 x1.toNat x3 },y1.fst == x2,y1.snd)) else none else none
  | none=>none else some ((x0,y1.fst == x2,y1.snd))
 | none=>none
def ZcO (x:Memo×Int×Int×Int):Option (Memo×Bool×Int):=ZhB x.1 x.2.1 x.2.2.1 x.2.2.2
def Zfw (x0:Memo) (x1:Int):Option (Int×Int) := match ZbG (x0.words,x1) with
 | some y1 => some (y1)
 | none=>none
def Zcj (x:Memo×Int):Option (Int×Int):=Zfw x.1 x.2
def Zkb (x0:Turn):Option (Bool) := bif decide ((0:Int)<x0.th.until_) then some (decide (x0.th.until_<=x0.now)) else some (false)
def ZdM (x:Turn):Option (Bool):=Zkb x
def Zn8 (x0:Int):Option (Said) := bif Zaf IntKind.i64 (↑(BitVec.ofInt IntKind.i64.bits x0 &&& BitVec.ofInt IntKind.i64.bits (7:Int)).toNat:Int) == (5:Int) && (Zaf IntKind.i64 (x0.fdiv ((2:Int) ^ min (Int.toNat (3:Int)) IntKind.i64.bits)-(1:Int)) == (-1:Int) && true) then some (Said.mk (Zaf IntKind.i64 (↑(BitVec.ofInt IntKind.i64.bits x0 &&& BitVec.ofInt IntKind.i64.bits (7:Int)).toNat:Int)) (Zaf IntKind.i64 (x0.fdiv ((2:Int) ^ min (Int.toNat (3:Int)) IntKind.i64.bits)-(1:Int)))) else bif decide (Zaf IntKind.i64 (↑(BitVec.ofInt IntKind.i64.bits x0 &&& BitVec.ofInt IntKind.i64.bits (7:Int)).toNat:Int)>=(1:Int)) then bif decide (Zaf IntKind.i64 (↑(BitVec.ofInt IntKind.i64.bits x0 &&& BitVec.ofInt IntKind.i64.bits (7:Int)).toNat:Int)<=(3:Int)) then bif decide (Zaf IntKind.i64 (x0.fdiv ((2:Int) ^ min (Int.toNat (3:Int)) IntKind.i64.bits)-(1:Int))>=(0:Int)) then bif decide (Zaf IntKind.i64 (x0.fdiv ((2:Int) ^ min (Int.toNat (3:Int)) IntKind.i64.bits)-(1:Int))<(16:Int)) then some (Said.mk (Zaf IntKind.i64 (↑(BitVec.ofInt IntKind.i64.bits x0 &&& BitVec.ofInt IntKind.i64.bits (7:Int)).toNat:Int)) (Zaf IntKind.i64 (x0.fdiv ((2:Int) ^ min (Int.toNat (3:Int)) IntKind.i64.bits)-(1:Int)))) else bif Zaf IntKind.i64 (↑(BitVec.ofInt IntKind.i64.bits x0 &&& BitVec.ofInt IntKind.i64.bits (7:Int)).toNat:Int) == (4:Int) then bif decide ((Zaf IntKind.i64 (x0.fdiv ((2:Int) ^ min (Int.toNat (3:Int)) IntKind.i64.bits)-(1:Int))).fdiv ((2:Int) ^ min (Int.toNat (4:Int)) IntKind.i64.bits)>=(0:Int)) then bif decide ((Zaf IntKind.i64 (x0.fdiv ((2:Int) ^ min (Int.toNat (3:Int)) IntKind.i64.bits)-(1:Int))).fdiv ((2:Int) ^ min (Int.toNat (4:Int)) IntKind.i64.bits)<(4:Int)) then bif decide (Zaf IntKind.i64 (↑(BitVec.ofInt IntKind.i64.bits (Zaf IntKind.i64 (x0.fdiv ((2:Int) ^ min (Int.toNat (3:Int)) IntKind.i64.bits)-(1:Int))) &&& BitVec.ofInt IntKind.i64.bits (15:Int)).toNat:Int)>=(1:Int)) then bif decide (Zaf IntKind.i64 (↑(BitVec.ofInt IntKind.i64.bits (Zaf IntKind.i64 (x0.fdiv ((2:Int) ^ min (Int.toNat (3:Int)) IntKind.i64.bits)-(1:Int))) &&& BitVec.ofInt IntKind.i64.bits (15:Int)).toNat:Int)<=(3:Int)) then some (Said.mk (Zaf IntKind.i64 (↑(BitVec.ofInt IntKind.i64.bits x0 &&& BitVec.ofInt IntKind.i64.bits (7:Int)).toNat:Int)) (Zaf IntKind.i64 (x0.fdiv ((2:Int) ^ min (Int.toNat (3:Int)) IntKind.i64.bits)-(1:Int)))) else some (Said.mk (0:Int) (0:Int)) else some (Said.mk (0:Int) (0:Int)) else some (Said.mk (0:Int) (0:Int)) else some (Said.mk (0:Int) (0:Int)) else some (Said.mk (0:Int) (0:Int)) else bif Zaf IntKind.i64 (↑(BitVec.ofInt IntKind.i64.bits x0 &&& BitVec.ofInt IntKind.i64.bits (7:Int)).toNat:Int) == (4:Int) then bif decide ((Zaf IntKind.i64 (x0.fdiv ((2:Int) ^ min (Int.toNat (3:Int)) IntKind.i64.bits)-(1:Int))).fdiv ((2:Int) ^ min (Int.toNat (4:Int)) IntKind.i64.bits)>=(0:Int)) then bif decide ((Zaf IntKind.i64 (x0.fdiv ((2:Int) ^ min (Int.toNat (3:Int)) IntKind.i64.bits)-(1:Int))).fdiv ((2:Int) ^ min (Int.toNat (4:Int)) IntKind.i64.bits)<(4:Int)) then bif decide (Zaf IntKind.i64 (↑(BitVec.ofInt IntKind.i64.bits (Zaf IntKind.i64 (x0.fdiv ((2:Int) ^ min (Int.toNat (3:Int)) IntKind.i64.bits)-(1:Int))) &&& BitVec.ofInt IntKind.i64.bits (15:Int)).toNat:Int)>=(1:Int)) then bif decide (Zaf IntKind.i64 (↑(BitVec.ofInt IntKind.i64.bits (Zaf IntKind.i64 (x0.fdiv ((2:Int) ^ min (Int.toNat (3:Int)) IntKind.i64.bits)-(1:Int))) &&& BitVec.ofInt IntKind.i64.bits (15:Int)).toNat:Int)<=(3:Int)) then some (Said.mk (Zaf IntKind.i64 (↑(BitVec.ofInt IntKind.i64.bits x0 &&& BitVec.ofInt IntKind.i64.bits (7:Int)).toNat:Int)) (Zaf IntKind.i64 (x0.fdiv ((2:Int) ^ min (Int.toNat (3:Int)) IntKind.i64.bits)-(1:Int)))) else some (Said.mk (0:Int) (0:Int)) else some (Said.mk (0:Int) (0:Int)) else some (Said.mk (0:Int) (0:Int)) else some (Said.mk (0:Int) (0:Int)) else some (Said.mk (0:Int) (0:Int)) else bif Zaf IntKind.i64 (↑(BitVec.ofInt IntKind.i64.bits x0 &&& BitVec.ofInt IntKind.i64.bits (7:Int)).toNat:Int) == (4:Int) then bif decide ((Zaf IntKind.i64 (x0.fdiv ((2:Int) ^ min (Int.toNat (3:Int)) IntKind.i64.bits)-(1:Int))).fdiv ((2:Int) ^ min (Int.toNat (4:Int)) IntKind.i64.bits)>=(0:Int)) then bif decide ((Zaf IntKind.i64 (x0.fdiv ((2:Int) ^ min (Int.toNat (3:Int)) IntKind.i64.bits)-(1:Int))).fdiv ((2:Int) ^ min (Int.toNat (4:Int)) IntKind.i64.bits)<(4:Int)) then bif decide (Zaf IntKind.i64 (↑(BitVec.ofInt IntKind.i64.bits (Zaf IntKind.i64 (x0.fdiv ((2:Int) ^ min (Int.toNat (3:Int)) IntKind.i64.bits)-(1:Int))) &&& BitVec.ofInt IntKind.i64.bits (15:Int)).toNat:Int)>=(1:Int)) then bif decide (Zaf IntKind.i64 (↑(BitVec.ofInt IntKind.i64.bits (Zaf IntKind.i64 (x0.fdiv ((2:Int) ^ min (Int.toNat (3:Int)) IntKind.i64.bits)-(1:Int))) &&& BitVec.ofInt IntKind.i64.bits (15:Int)).toNat:Int)<=(3:Int)) then some (Said.mk (Zaf IntKind.i64 (↑(BitVec.ofInt IntKind.i64.bits x0 &&& BitVec.ofInt IntKind.i64.bits (7:Int)).toNat:Int)) (Zaf IntKind.i64 (x0.fdiv ((2:Int) ^ min (Int.toNat (3:Int)) IntKind.i64.bits)-(1:Int)))) else some (Said.mk (0:Int) (0:Int)) else some (Said.mk (0:Int) (0:Int)) else some (Said.mk (0:Int) (0:Int)) else some (Said.mk (0:Int) (0:Int)) else some (Said.mk (0:Int) (0:Int)) else bif Zaf IntKind.i64 (↑(BitVec.ofInt IntKind.i64.bits x0 &&& BitVec.ofInt IntKind.i64.bits (7:Int)).toNat:Int) == (4:Int) then bif decide ((Zaf IntKind.i64 (x0.fdiv ((2:Int) ^ min (Int.toNat (3:Int)) IntKind.i64.bits)-(1:Int))).fdiv ((2:Int) ^ min (Int.toNat (4:Int)) IntKind.i64.bits)>=(0:Int)) then bif decide ((Zaf IntKind.i64 (x0.fdiv ((2:Int) ^ min (Int.toNat (3:Int)) IntKind.i64.bits)-(1:Int))).fdiv ((2:Int) ^ min (Int.toNat (4:Int)) IntKind.i64.bits)<(4:Int)) then bif decide (Zaf IntKind.i64 (↑(BitVec.ofInt IntKind.i64.bits (Zaf IntKind.i64 (x0.fdiv ((2:Int) ^ min (Int.toNat (3:Int)) IntKind.i64.bits)-(1:Int))) &&& BitVec.ofInt IntKind.i64.bits (15:Int)).toNat:Int)>=(1:Int)) then bif decide (Zaf IntKind.i64 (↑(BitVec.ofInt IntKind.i64.bits (Zaf IntKind.i64 (x0.fdiv ((2:Int) ^ min (Int.toNat (3:Int)) IntKind.i64.bits)-(1:Int))) &&& BitVec.ofInt IntKind.i64.bits (15:Int)).toNat:Int)<=(3:Int)) then some (Said.mk (Zaf IntKind.i64 (↑(BitVec.ofInt IntKind.i64.bits x0 &&& BitVec.ofInt IntKind.i64.bits (7:Int)).toNat:Int)) (Zaf IntKind.i64 (x0.fdiv ((2:Int) ^ min (Int.toNat (3:Int)) IntKind.i64.bits)-(1:Int)))) else some (Said.mk (0:Int) (0:Int)) else some (Said.mk (0:Int) (0:Int)) else some (Said.mk (0:Int) (0:Int)) else some (Said.mk (0:Int) (0:Int)) else some (Said.mk (0:Int) (0:Int))
def Zjp (x:Int):Option (Said):=Zn8 x
def Zl0 (x0:Int):Option (Int) := match Zjp x0 with
 | some y1 => bif x0 == (0:Int) then some (y1.kind) else bif !(y1.kind == (0:Int) && (y1.n == (0:Int) && true)) then some (y1.kind) else some ((-1:Int))
 | none=>none
def ZgA (x:Int):Option (Int):=Zl0 x
def Zlo (x0:Turn) (x1:Int):Option (Turn) := match ZgA x1 with
 | some y1 => bif y1 == (1:Int) then some ({ x0 with th:={ x0.th with phase:=(6:Int),x:=x1 } }) else bif y1 == (0:Int) then some ({ x0 with th:={ x0.th with phase:=(5:Int) } }) else match ZdM x0 with
  | some y2 => bif y2 then match Zd3 x0 with
   | some y3 => some (y3)
   | none=>none else some (x0)
  | none=>none
 | none=>none
def Zle (x:Turn×Int):Option (Turn):=Zlo x.1 x.2
def ZjA (x0:Int):Option (Int) := match ZbY (Said.mk (2:Int) x0) with
 | some y1 => some (y1)
 | none=>none
def ZjS (x:Int):Option (Int):=ZjA x
def ZiN (x0:Turn):Option (Turn) := match Zd3 { x0 with th:={ x0.th with stop:=x0.th.node } } with
 | some y1 => some (y1)
 | none=>none
def ZiG (x:Turn):Option (Turn):=ZiN x
def Zk4 (x0:Turn):Option (Turn×Bool) := match Zed (x0.c,x0.th.item,x0.th.node) with
 | some y1 => match Ze2 x0.t with
  | some y2 => bif x0.th.phase == (4:Int) then match Zcj (x0.m,y1) with
   | some y3 => bif y3.snd != (0:Int) then some ((x0,true)) else match Zle (x0,y3.fst) with
     | some y4 => some ((y4,true))
     | none=>none
   | none=>none else bif x0.th.phase == (6:Int) then match ZjS x0.t with
    | some y3 => match ZcO (x0.m,y1,x0.th.x,y3) with
     | some y4 => bif y4.snd.snd != (0:Int) then some ((x0,true)) else bif y4.snd.fst then match ZiG { x0 with m:=y4.fst,th:={ x0.th with phase:=(4:Int) } } with
      | some y5 => some ((y5,true))
      | none=>none else some (({ x0 with m:=y4.fst,th:={ x0.th with phase:=(4:Int) } },true))
     | none=>none
    | none=>none else bif x0.th.phase == (5:Int) then match ZcO (x0.m,y1,(0:Int),y2) with
     | some y3 => bif y3.snd.snd != (0:Int) then some ((x0,true)) else bif y3.snd.fst then match Zj7 { x0 with m:=y3.fst,th:={ x0.th with phase:=(4:Int) } } with
      | some y4 => some ((y4,true))
      | none=>none else some (({ x0 with m:=y3.fst,th:={ x0.th with phase:=(4:Int) } },true))
     | none=>none else some ((x0,false))
  | none=>none
 | none=>none
def Zk7 (x:Turn):Option (Turn×Bool):=Zk4 x
def Zj9 (x0:Turn):Option (Int) := bif decide (x0.th.at_<(0:Int)) then some ((-1:Int)) else bif decide (x0.th.at_>=(↑x0.th.held.length:Int)) then some ((-1:Int)) else bif decide ((0:Int)<=x0.th.at_) then bif decide (x0.th.at_<(↑x0.th.held.length:Int)) then match Zed (x0.c,x0.th.item,x0.th.held.getD x0.th.at_.toNat (0:Int)) with
 | some y1 => some (y1)
 | none=>none else none else none
def Zfn (x:Turn):Option (Int):=Zj9 x
def Znb (x0:Int):Option (Int) := match Zjp x0 with
 | some y1 => bif decide (y1.kind>=(1:Int)) then bif decide (y1.kind<=(3:Int)) then some (y1.n) else some ((-1:Int)) else some ((-1:Int))
 | none=>none
def ZmX (x:Int):Option (Int):=Znb x
def ZnG (x0:Turn):Option (Turn) := match Zfn x0 with
 | some y1 => match Zcj (x0.m,y1) with
  | some y2 => bif y2.snd != (0:Int) then some (x0) else match Ze2 x0.t with
   | some y3 => bif y2.fst == y3 then some ({ x0 with th:={ x0.th with phase:=(8:Int) } }) else match ZgA y2.fst with
    | some y4 => bif y4 == (3:Int) then match ZmX y2.fst with
     | some y5 => some ({ x0 with th:={ x0.th with phase:=(9:Int),who:=y5 } })
     | none=>none else some (x0)
    | none=>none
   | none=>none
  | none=>none
 | none=>none
def Zj1 (x:Turn):Option (Turn):=ZnG x
def ZjF (x0:Turn):Option (Turn) := match ZfY { x0 with th:={ x0.th with at_:=Zaf IntKind.i64 (x0.th.at_+(1:Int)) } } with
 | some y1 => some (y1)
 | none=>none
def ZgR (x:Turn):Option (Turn):=ZjF x
def ZnA (x0:Turn):Option (Turn) := match Zfn x0 with
 | some y1 => match Ze2 x0.t with
  | some y2 => match ZcO (x0.m,y1,y2,(0:Int)) with
   | some y3 => bif !y3.snd.fst then bif y3.snd.snd != (0:Int) then some (x0) else some ({ x0 with m:=y3.fst,th:={ x0.th with phase:=(7:Int) } }) else bif y3.snd.snd != (0:Int) then some (x0) else match ZgR { x0 with m:=y3.fst } with
    | some y4 => some (y4)
    | none=>none
   | none=>none
  | none=>none
 | none=>none
def ZjR (x:Turn):Option (Turn):=ZnA x
def ZcM (x0:List Entry):Option ((List Entry)) := bif fewB ((0:Nat)+x0.length) then some (x0) else none
def Zbr (x:(List Entry)):Option ((List Entry)):=ZcM x
def Zco (x0:List (List Entry)) (x1:Int):Option ((List Entry)×Int) := bif decide (x1<(0:Int)) then some ((([]:List Entry),(30:Int))) else bif decide (x1>=(↑x0.length:Int)) then some ((([]:List Entry),(30:Int))) else bif decide ((0:Int)<=x1) then bif decide (x1<(↑x0.length:Int)) then some ((x0.getD x1.toNat ([]:List Entry),(0:Int))) else none else none
def Zcp (x:(List (List Entry))×Int):Option ((List Entry)×Int):=Zco x.1 x.2
def Zh0 (x0:Memo) (x1:Int):Option ((List Entry)×Int) := match Zcp (x0.boxes,x1) with
 | some y1 => match Zbr y1.fst with
  | some y2 => some ((y2,y1.snd))
  | none=>none
 | none=>none
def Zhx (x:Memo×Int):Option ((List Entry)×Int):=Zh0 x.1 x.2
def Zd5 (x0:Unit) (x1:Int):Option ((List Kid)) := bif decide (x1<(0:Int)) then none else bif decide (Zaf IntKind.i64 (x1-Zaf IntKind.i64 ((0:Int)-(0:Int)))>(0:Int)) then bif decide ((0:Int)<=Zaf IntKind.i64 (x1-Zaf IntKind.i64 ((0:Int)-(0:Int)))) then bif decide (Zaf IntKind.i64 (x1-Zaf IntKind.i64 ((0:Int)-(0:Int)))<=ZbC) then some (List.take (Int.toNat (0:Int)) (List.replicate (Zaf IntKind.i64 (x1-Zaf IntKind.i64 ((0:Int)-(0:Int)))).toNat (Kid.mk (0:Int) (0:Int)))) else none else none else some (([]:List Kid))
def Zec (x:Unit×Int):Option ((List Kid)):=Zd5 x.1 x.2
def Zcv (x0:List Kid) (x1:List (List Kid)) (x2:Int) (x3:Int):Option (((List Kid)×(List (List Kid))×Int×Int)⊕(((List Kid)))) := bif decide (x3<x2) then bif decide ((0:Int)<=x3) then bif decide (x3<(↑x1.length:Int)) then bif fewB (x0.length+List.length (x1.getD x3.toNat ([]:List Kid))) then some (Sum.inl (x0++x1.getD x3.toNat ([]:List Kid),x1,x2,Zaf IntKind.i64 (x3+(1:Int)))) else none else none else none else some (Sum.inr x0)
def ZbN (x:(List Kid)×(List (List Kid))×Int×Int):Option (((List Kid)×(List (List Kid))×Int×Int)⊕(((List Kid)))):=Zcv x.1 x.2.1 x.2.2.1 x.2.2.2
def Zc9 (x:(List Kid)×(List (List Kid))×Int×Int):Option (((List Kid))):=Zav ZbN x
def ZcC (x0:List (List Kid)) (x1:Int) (x2:List (List Kid)) (x3:Int) (x4:Int):Option (((List (List Kid))×Int×(List (List Kid))×Int×Int)⊕(((List (List Kid))×Int))) := bif decide (x4<x3) then bif decide ((0:Int)<=x4) then bif decide (x4<(↑x2.length:Int)) then bif decide (Zaf IntKind.i64 (x1+(↑(List.length (x2.getD x4.toNat ([]:List Kid))):Int))<(0:Int)) then none else some (Sum.inl (x0,Zaf IntKind.i64 (x1+(↑(List.length (x2.getD x4.toNat ([]:List Kid))):Int)),x2,x3,Zaf IntKind.i64 (x4+(1:Int)))) else none else none else some (Sum.inr (x0,x1))
def ZbV (x:(List (List Kid))×Int×(List (List Kid))×Int×Int):Option (((List (List Kid))×Int×(List (List Kid))×Int×Int)⊕(((List (List Kid))×Int))):=ZcC x.1 x.2.1 x.2.2.1 x.2.2.2.1 x.2.2.2.2
def Zdc (x:(List (List Kid))×Int×(List (List Kid))×Int×Int):Option (((List (List Kid))×Int)):=Zav ZbV x
def ZdK (x0:List (List Kid)):Option ((List Kid)) := match Zdc (x0,(0:Int),x0,(↑x0.length:Int),(0:Int)) with
 | some y1 => match Zec ((),y1.snd) with
  | some y2 => match Zc9 (y2,y1.fst,(↑(List.length y1.fst):Int),(0:Int)) with
   | some y3 => some (y3)
   | none=>none
  | none=>none
 | none=>none
def ZdL (x:(List (List Kid))):Option ((List Kid)):=ZdK x
def ZdU (x0:Unit) (x1:Int):Option ((List Entry)) := bif decide (x1<(0:Int)) then none else bif decide (Zaf IntKind.i64 (x1-Zaf IntKind.i64 ((0:Int)-(0:Int)))>(0:Int)) then bif decide ((0:Int)<=Zaf IntKind.i64 (x1-Zaf IntKind.i64 ((0:Int)-(0:Int)))) then bif decide (Zaf IntKind.i64 (x1-Zaf IntKind.i64 ((0:Int)-(0:Int)))<=ZbC) then some (List.take (Int.toNat (0:Int)) (List.replicate (Zaf IntKind.i64 (x1-Zaf IntKind.i64 ((0:Int)-(0:Int)))).toNat (Entry.mk (0:Int) (Op.mk (0:Int) (0:Int))))) else none else none else some (([]:List Entry))
def ZdV (x:Unit×Int):Option ((List Entry)):=ZdU x.1 x.2
def Zcr (x0:List Entry) (x1:List (List Entry)) (x2:Int) (x3:Int):Option (((List Entry)×(List (List Entry))×Int×Int)⊕(((List Entry)))) := bif decide (x3<x2) then bif decide ((0:Int)<=x3) then bif decide (x3<(↑x1.length:Int)) then bif fewB (x0.length+List.length (x1.getD x3.toNat ([]:List Entry))) then some (Sum.inl (x0++x1.getD x3.toNat ([]:List Entry),x1,x2,Zaf IntKind.i64 (x3+(1:Int)))) else none else none else none else some (Sum.inr x0)
def ZbE (x:(List Entry)×(List (List Entry))×Int×Int):Option (((List Entry)×(List (List Entry))×Int×Int)⊕(((List Entry)))):=Zcr x.1 x.2.1 x.2.2.1 x.2.2.2
def Zc4 (x:(List Entry)×(List (List Entry))×Int×Int):Option (((List Entry))):=Zav ZbE x
def Zct (x0:List (List Entry)) (x1:Int) (x2:List (List Entry)) (x3:Int) (x4:Int):Option (((List (List Entry))×Int×(List (List Entry))×Int×Int)⊕(((List (List Entry))×Int))) := bif decide (x4<x3) then bif decide ((0:Int)<=x4) then bif decide (x4<(↑x2.length:Int)) then bif decide (Zaf IntKind.i64 (x1+(↑(List.length (x2.getD x4.toNat ([]:List Entry))):Int))<(0:Int)) then none else some (Sum.inl (x0,Zaf IntKind.i64 (x1+(↑(List.length (x2.getD x4.toNat ([]:List Entry))):Int)),x2,x3,Zaf IntKind.i64 (x4+(1:Int)))) else none else none else some (Sum.inr (x0,x1))
def ZbO (x:(List (List Entry))×Int×(List (List Entry))×Int×Int):Option (((List (List Entry))×Int×(List (List Entry))×Int×Int)⊕(((List (List Entry))×Int))):=Zct x.1 x.2.1 x.2.2.1 x.2.2.2.1 x.2.2.2.2
def Zda (x:(List (List Entry))×Int×(List (List Entry))×Int×Int):Option (((List (List Entry))×Int)):=Zav ZbO x
def Zdt (x0:List (List Entry)):Option ((List Entry)) := match Zda (x0,(0:Int),x0,(↑x0.length:Int),(0:Int)) with
 | some y1 => match ZdV ((),y1.snd) with
  | some y2 => match Zc4 (y2,y1.fst,(↑(List.length y1.fst):Int),(0:Int)) with
   | some y3 => some (y3)
   | none=>none
  | none=>none
 | none=>none
def Zdv (x:(List (List Entry))):Option ((List Entry)):=Zdt x
def Zoa (x0:List (List Entry)):Option ((List Entry)) := match Zdv x0 with
 | some y1 => some (y1)
 | none=>none
def Zlp (x:(List (List Entry))):Option ((List Entry)):=Zoa x
def ZjL (x0:Turn) (x1:Int) (x2:List Entry):Option (Turn) := match ZdL (x0.th.kids::(Kid.mk x1 (↑x0.th.batch.length:Int)::([]:List Kid))::([]:List (List Kid))) with
 | some y1 => match Zlp (x0.th.batch::x2::([]:List (List Entry))) with
  | some y2 => some ({ x0 with th:={ x0.th with batch:=y2,kids:=y1 } })
  | none=>none
 | none=>none
def Zfq (x:Turn×Int×(List Entry)):Option (Turn):=ZjL x.1 x.2.1 x.2.2
def ZkO (x0:Turn):Option (Turn) := match Zhx (x0.m,x0.th.who) with
 | some y1 => bif y1.snd != (0:Int) then some (x0) else match Zfq (x0,x0.th.who,y1.fst) with
  | some y2 => some ({ y2 with th:={ y2.th with phase:=(10:Int) } })
  | none=>none
 | none=>none
def Zhd (x:Turn):Option (Turn):=ZkO x
def ZnL (x0:Turn):Option (Turn) := match Zfn x0 with
 | some y1 => match Zcg (x0.m,y1,(0:Int)) with
  | some y2 => bif y2.snd != (0:Int) then some (x0) else match ZgR { x0 with m:=y2.fst } with
   | some y3 => some (y3)
   | none=>none
  | none=>none
 | none=>none
def Zkd (x:Turn):Option (Turn):=ZnL x
def Zds (x0:List (List Entry)):Option ((List (List Entry))) := bif fewB ((0:Nat)+x0.length) then some (x0) else none
def Zdk (x:(List (List Entry))):Option ((List (List Entry))):=Zds x
def ZmS (x0:Memo) (x1:Int) (x2:List Entry):Option (Memo×Int) := match Zcp (x0.boxes,x1) with
 | some y1 => bif y1.snd != (0:Int) then some ((x0,y1.snd)) else match Zdk x0.boxes with
  | some y2 => match Zbr x2 with
   | some y3 => bif decide ((0:Int)<=x1) then bif decide (x1<(↑(List.length y2):Int)) then some (({ x0 with boxes:=List.set y2 x1.toNat y3 },(0:Int))) else none else none
   | none=>none
  | none=>none
 | none=>none
def ZhV (x:Memo×Int×(List Entry)):Option (Memo×Int):=ZmS x.1 x.2.1 x.2.2
def Zk6 (x0:Turn):Option (Turn) := match ZhV (x0.m,x0.t,x0.th.batch) with
 | some y1 => bif y1.snd != (0:Int) then some (x0) else some ({ x0 with m:=y1.fst,th:={ x0.th with phase:=(12:Int) } })
 | none=>none
def Zhg (x:Turn):Option (Turn):=Zk6 x
def Zhc (x0:Int):Option (Int) := match ZbY (Said.mk (3:Int) x0) with
 | some y1 => some (y1)
 | none=>none
def Zg1 (x:Int):Option (Int):=Zhc x
def Zlj (x0:Turn):Option (Turn) := match Zed (x0.c,x0.th.item,x0.th.stop) with
 | some y1 => match Zg1 x0.t with
  | some y2 => match Zcg (x0.m,y1,y2) with
   | some y3 => bif y3.snd != (0:Int) then some (x0) else some ({ x0 with m:=y3.fst,th:={ x0.th with phase:=(13:Int) } })
   | none=>none
  | none=>none
 | none=>none
def Zg6 (x:Turn):Option (Turn):=Zlj x
def Zkc (x0:Turn):Option (Turn×Bool) := bif x0.th.phase == (7:Int) then match Zj1 x0 with
 | some y1 => some ((y1,true))
 | none=>none else bif x0.th.phase == (8:Int) then match ZjR x0 with
  | some y1 => some ((y1,true))
  | none=>none else bif x0.th.phase == (9:Int) then match Zhd x0 with
   | some y1 => some ((y1,true))
   | none=>none else bif x0.th.phase == (10:Int) then match Zkd x0 with
    | some y1 => some ((y1,true))
    | none=>none else bif x0.th.phase == (11:Int) then match Zhg x0 with
     | some y1 => some ((y1,true))
     | none=>none else bif x0.th.phase == (12:Int) then match Zg6 x0 with
      | some y1 => some ((y1,true))
      | none=>none else some ((x0,false))
def Zjy (x:Turn):Option (Turn×Bool):=Zkc x
def Zp4 (x0:Config) (x1:Int×Int×Int×Int×Int×Int×Int×Int×Int×Int×Int×Int×Int×Int×Int×Int×Int×Int×Int×Int×Int×Int×Int×Int) (x2:Int):Option ((Config×(Int×Int×Int×Int×Int×Int×Int×Int×Int×Int×Int×Int×Int×Int×Int×Int×Int×Int×Int×Int×Int×Int×Int×Int)×Int)⊕((Config)⊕(Int))) := bif decide (x2<(8:Int)) then bif decide ((0:Int)<=x2) then bif decide (x2<(↑(8:Nat):Int)) then bif decide (x2=(↑(0:Nat):Int)) then bif decide (x1.fst<x1.snd.fst) then some (Sum.inr (Sum.inr (Zaf IntKind.i64 ((50:Int)+x2)))) else bif decide (x1.fst>x1.snd.snd.fst) then some (Sum.inr (Sum.inr (Zaf IntKind.i64 ((50:Int)+x2)))) else some (Sum.inl (x0,x1,Zaf IntKind.i64 (x2+(1:Int)))) else bif decide (x2=(↑((0:Nat)+(1:Nat)):Int)) then bif decide (x1.snd.snd.snd.fst<x1.snd.snd.snd.snd.fst) then some (Sum.inr (Sum.inr (Zaf IntKind.i64 ((50:Int)+x2)))) else bif decide (x1.snd.snd.snd.fst>x1.snd.snd.snd.snd.snd.fst) then some (Sum.inr (Sum.inr (Zaf IntKind.i64 ((50:Int)+x2)))) else some (Sum.inl (x0,x1,Zaf IntKind.i64 (x2+(1:Int)))) else bif decide (x2=(↑((0:Nat)+(1:Nat)+(1:Nat)):Int)) then bif decide (x1.snd.snd.snd.snd.snd.snd.fst<x1.snd.snd.snd.snd.snd.snd.snd.fst) then some (Sum.inr (Sum.inr (Zaf IntKind.i64 ((50:Int)+x2)))) else bif decide (x1.snd.snd.snd.snd.snd.snd.fst>x1.snd.snd.snd.snd.snd.snd.snd.snd.fst) then some (Sum.inr (Sum.inr (Zaf IntKind.i64 ((50:Int)+x2)))) else some (Sum.inl (x0,x1,Zaf IntKind.i64 (x2+(1:Int)))) else bif decide (x2=(↑((0:Nat)+(1:Nat)+(1:Nat)+(1:Nat)):Int)) then bif decide (x1.snd.snd.snd.snd.snd.snd.snd.snd.snd.fst<x1.snd.snd.snd.snd.snd.snd.snd.snd.snd.snd.fst) then some (Sum.inr (Sum.inr (Zaf IntKind.i64 ((50:Int)+x2)))) else bif decide (x1.snd.snd.snd.snd.snd.snd.snd.snd.snd.fst>x1.snd.snd.snd.snd.snd.snd.snd.snd.snd.snd.snd.fst) then some (Sum.inr (Sum.inr (Zaf IntKind.i64 ((50:Int)+x2)))) else some (Sum.inl (x0,x1,Zaf IntKind.i64 (x2+(1:Int)))) else bif decide (x2=(↑((0:Nat)+(1:Nat)+(1:Nat)+(1:Nat)+(1:Nat)):Int)) then bif decide (x1.snd.snd.snd.snd.snd.snd.snd.snd.snd.snd.snd.snd.fst<x1.snd.snd.snd.snd.snd.snd.snd.snd.snd.snd.snd.snd.snd.fst) then some (Sum.inr (Sum.inr (Zaf IntKind.i64 ((50:Int)+x2)))) else bif decide (x1.snd.snd.snd.snd.snd.snd.snd.snd.snd.snd.snd.snd.fst>x1.snd.snd.snd.snd.snd.snd.snd.snd.snd.snd.snd.snd.snd.snd.fst) then some (Sum.inr (Sum.inr (Zaf IntKind.i64 ((50:Int)+x2)))) else some (Sum.inl (x0,x1,Zaf IntKind.i64 (x2+(1:Int)))) else bif decide (x2=(↑((0:Nat)+(1:Nat)+(1:Nat)+(1:Nat)+(1:Nat)+(1:Nat)):Int)) then bif decide (x1.snd.snd.snd.snd.snd.snd.snd.snd.snd.snd.snd.snd.snd.snd.snd.fst<x1.snd.snd.snd.snd.snd.snd.snd.snd.snd.snd.snd.snd.snd.snd.snd.snd.fst) then some (Sum.inr (Sum.inr (Zaf IntKind.i64 ((50:Int)+x2)))) else bif decide (x1.snd.snd.snd.snd.snd.snd.snd.snd.snd.snd.snd.snd.snd.snd.snd.fst>x1.snd.snd.snd.snd.snd.snd.snd.snd.snd.snd.snd.snd.snd.snd.snd.snd.snd.fst) then some (Sum.inr (Sum.inr (Zaf IntKind.i64 ((50:Int)+x2)))) else some (Sum.inl (x0,x1,Zaf IntKind.i64 (x2+(1:Int)))) else bif decide (x2=(↑((0:Nat)+(1:Nat)+(1:Nat)+(1:Nat)+(1:Nat)+(1:Nat)+(1:Nat)):Int)) then bif decide (x1.snd.snd.snd.snd.snd.snd.snd.snd.snd.snd.snd.snd.snd.snd.snd.snd.snd.snd.fst<x1.snd.snd.snd.snd.snd.snd.snd.snd.snd.snd.snd.snd.snd.snd.snd.snd.snd.snd.snd.fst) then some (Sum.inr (Sum.inr (Zaf IntKind.i64 ((50:Int)+x2)))) else bif decide (x1.snd.snd.snd.snd.snd.snd.snd.snd.snd.snd.snd.snd.snd.snd.snd.snd.snd.snd.fst>x1.snd.snd.snd.snd.snd.snd.snd.snd.snd.snd.snd.snd.snd.snd.snd.snd.snd.snd.snd.snd.fst) then some (Sum.inr (Sum.inr (Zaf IntKind.i64 ((50:Int)+x2)))) else some (Sum.inl (x0,x1,Zaf IntKind.i64 (x2+(1:Int)))) else bif decide (x2=(↑((0:Nat)+(1:Nat)+(1:Nat)+(1:Nat)+(1:Nat)+(1:Nat)+(1:Nat)+(1:Nat)):Int)) then bif decide (x1.snd.snd.snd.snd.snd.snd.snd.snd.snd.snd.snd.snd.snd.snd.snd.snd.snd.snd.snd.snd.snd.fst<x1.snd.snd.snd.snd.snd.snd.snd.snd.snd.snd.snd.snd.snd.snd.snd.snd.snd.snd.snd.snd.snd.snd.fst) then some (Sum.inr (Sum.inr (Zaf IntKind.i64 ((50:Int)+x2)))) else bif decide (x1.snd.snd.snd.snd.snd.snd.snd.snd.snd.snd.snd.snd.snd.snd.snd.snd.snd.snd.snd.snd.snd.fst>x1.snd.snd.snd.snd.snd.snd.snd.snd.snd.snd.snd.snd.snd.snd.snd.snd.snd.snd.snd.snd.snd.snd.snd) then some (Sum.inr (Sum.inr (Zaf IntKind.i64 ((50:Int)+x2)))) else some (Sum.inl (x0,x1,Zaf IntKind.i64 (x2+(1:Int)))) else none else none else none else some (Sum.inr (Sum.inl x0))
def Zd4 (x:Config×(Int×Int×Int×Int×Int×Int×Int×Int×Int×Int×Int×Int×Int×Int×Int×Int×Int×Int×Int×Int×Int×Int×Int×Int)×Int):Option ((Config×(Int×Int×Int×Int×Int×Int×Int×Int×Int×Int×Int×Int×Int×Int×Int×Int×Int×Int×Int×Int×Int×Int×Int×Int)×Int)⊕((Config)⊕(Int))):=Zp4 x.1 x.2.1 x.2.2
def ZcQ (x:Config×(Int×Int×Int×Int×Int×Int×Int×Int×Int×Int×Int×Int×Int×Int×Int×Int×Int×Int×Int×Int×Int×Int×Int×Int)×Int):Option ((Config)⊕(Int)):=Zav Zd4 x
def Zip (x0:Config):Option (Int) := match ZcQ (x0,(x0.threads,(1:Int),(16:Int),x0.items,(1:Int),(4:Int),x0.backend,(1:Int),(3:Int),x0.depth,(0:Int),(4:Int),x0.layers,(0:Int),(3:Int),x0.width,(1:Int),(8:Int),x0.spin,(0:Int),(20:Int),x0.wait,(0:Int),(1000:Int)),(0:Int)) with
 | some (.inl y1) => bif y1.bounded then bif decide (y1.init<y1.lo) then some ((58:Int)) else bif decide (y1.hi<y1.init) then some ((58:Int)) else some ((0:Int)) else some ((0:Int))
 | some (.inr y2) => some (y2)
 | none=>none
def ZeP (x:Config):Option (Int):=Zip x
def Zim (x0:Int) (x1:Int):Option (Bool) := bif decide ((0:Int)<=x0) then some (decide (x0<x1)) else some (false)
def ZdC (x:Int×Int):Option (Bool):=Zim x.1 x.2
def Zof (x0:Int):Option (Bool) := bif decide ((1:Int)<=x0) then some (decide (x0<=(9:Int))) else some (false)
def Zlq (x:Int):Option (Bool):=Zof x
def Znj (x0:Op) (x1:Bool):Option (Bool) := bif !x1 then match Zlq x0.tag with
 | some y1 => bif y1 then some (decide (x0.tag<(8:Int))) else some (false)
 | none=>none else bif x0.tag == (9:Int) then some (decide (x0.v>=(0:Int))) else some (x0.tag == (8:Int))
def Zkk (x:Op×Bool):Option (Bool):=Znj x.1 x.2
def ZiU (x0:Config) (x1:SEntry):Option (Int) := bif x1.kind == (1:Int) then bif x1.kind == (1:Int) then match ZdC (x1.t,x0.threads) with
 | some y1 => bif !y1 then some ((91:Int)) else bif x1.kind == (2:Int) then some ((0:Int)) else match ZdC (x1.item,x0.items) with
  | some y2 => bif !y2 then some ((92:Int)) else match Zkk (x1.op,x0.bounded) with
   | some y3 => bif !y3 then some ((93:Int)) else some ((0:Int))
   | none=>none
  | none=>none
 | none=>none else bif x1.kind == (3:Int) then some ((0:Int)) else some ((90:Int)) else bif x1.kind == (2:Int) then match ZdC (x1.t,x0.threads) with
 | some y1 => bif !y1 then some ((91:Int)) else bif x1.kind == (2:Int) then some ((0:Int)) else match ZdC (x1.item,x0.items) with
  | some y2 => bif !y2 then some ((92:Int)) else match Zkk (x1.op,x0.bounded) with
   | some y3 => bif !y3 then some ((93:Int)) else some ((0:Int))
   | none=>none
  | none=>none
 | none=>none else bif x1.kind == (3:Int) then some ((0:Int)) else some ((90:Int))
def Zf9 (x:Config×SEntry):Option (Int):=ZiU x.1 x.2
def ZeY (x0:Config) (x1:List SEntry) (x2:Int) (x3:Int):Option ((Config×(List SEntry)×Int×Int)⊕((Unit)⊕(Int×Int))) := bif decide (x3<x2) then bif decide ((0:Int)<=x3) then bif decide (x3<(↑x1.length:Int)) then match Zf9 (x0,x1.getD x3.toNat ZaV) with
 | some y1 => bif y1 != (0:Int) then some (Sum.inr (Sum.inr (x3,y1))) else some (Sum.inl (x0,x1,x2,Zaf IntKind.i64 (x3+(1:Int))))
 | none=>none else none else none else some (Sum.inr (Sum.inl ()))
def Zgf (x:Config×(List SEntry)×Int×Int):Option ((Config×(List SEntry)×Int×Int)⊕((Unit)⊕(Int×Int))):=ZeY x.1 x.2.1 x.2.2.1 x.2.2.2
def ZiH (x:Config×(List SEntry)×Int×Int):Option ((Unit)⊕(Int×Int)):=Zav Zgf x
def Zky (x0:Config) (x1:List SEntry):Option (Int×Int) := match ZeP x0 with
 | some y1 => bif y1 != (0:Int) then some (((0:Int),y1)) else bif decide ((↑x1.length:Int)>(65536:Int)) then some (((0:Int),(2:Int))) else match ZiH (x0,x1,(↑x1.length:Int),(0:Int)) with
  | some (.inl y2) => some (((0:Int),(0:Int)))
  | some (.inr y3) => some (y3)
  | none=>none
 | none=>none
def ZhO (x:Config×(List SEntry)):Option (Int×Int):=Zky x.1 x.2
def ZhF (x0:Turn):Option (Turn) := bif decide (x0.th.layer<x0.c.layers) then match ZdM { x0 with th:={ x0.th with phase:=(2:Int) } } with
 | some y1 => bif !y1 then some ({ x0 with th:={ x0.th with phase:=(17:Int),layer:=Zaf IntKind.i64 (x0.th.layer+(1:Int)) } }) else some ({ x0 with th:={ x0.th with phase:=(2:Int) } })
 | none=>none else some ({ x0 with th:={ x0.th with phase:=(2:Int) } })
def Zcq (x:Turn):Option (Turn):=ZhF x
def Zjc (x0:Int) (x1:Int):Option (Int) := match ZbY (Said.mk (4:Int) (Zaf IntKind.i64 (Zaf IntKind.i64 (x0*(2:Int) ^ min (Int.toNat (4:Int)) IntKind.i64.bits)+x1))) with
 | some y1 => some (y1)
 | none=>none
def Zjb (x:Int×Int):Option (Int):=Zjc x.1 x.2
def Zhv (x0:Turn×Int) (x1:Int):Option (Int) := match Zc1 (x0.fst.c,x1) with
 | some y1 => some (y1)
 | none=>none
def Zb9 (x:(Turn×Int)×Int):Option (Int):=Zhv x.1 x.2
def Zpi (x0:Int) (x1:Int):Option (Int×Int) :=
 some ((Zaf IntKind.u64 (Zaf IntKind.u64 (Zaf IntKind.u64 (x0.fdiv ((2:Int) ^ min (Int.toNat (32:Int)) IntKind.u64.bits)*x1.fdiv ((2:Int) ^ min (Int.toNat (32:Int)) IntKind.u64.bits))+(Zaf IntKind.u64 (Zaf IntKind.u64 (x0.fdiv ((2:Int) ^ min (Int.toNat (32:Int)) IntKind.u64.bits)*Zaf IntKind.u64 (↑(BitVec.ofInt IntKind.u64.bits x1 &&& BitVec.ofInt IntKind.u64.bits (4294967295:Int)).toNat:Int))+(Zaf IntKind.u64 (Zaf IntKind.u64 (↑(BitVec.ofInt IntKind.u64.bits x0 &&& BitVec.ofInt IntKind.u64.bits (4294967295:Int)).toNat:Int)*Zaf IntKind.u64 (↑(BitVec.ofInt IntKind.u64.bits x1 &&& BitVec.ofInt IntKind.u64.bits (4294967295:Int)).toNat:Int))).fdiv ((2:Int) ^ min (Int.toNat (32:Int)) IntKind.u64.bits))).fdiv ((2:Int) ^ min (Int.toNat (32:Int)) IntKind.u64.bits))+(Zaf IntKind.u64 (Zaf IntKind.u64 (↑(BitVec.ofInt IntKind.u64.bits (Zaf IntKind.u64 (Zaf IntKind.u64 (x0.fdiv ((2:Int) ^ min (Int.toNat (32:Int)) IntKind.u64.bits)*Zaf IntKind.u64 (↑(BitVec.ofInt IntKind.u64.bits x1 &&& BitVec.ofInt IntKind.u64.bits (4294967295:Int)).toNat:Int))+(Zaf IntKind.u64 (Zaf IntKind.u64 (↑(BitVec.ofInt IntKind.u64.bits x0 &&& BitVec.ofInt IntKind.u64.bits (4294967295:Int)).toNat:Int)*Zaf IntKind.u64 (↑(BitVec.ofInt IntKind.u64.bits x1 &&& BitVec.ofInt IntKind.u64.bits (4294967295:Int)).toNat:Int))).fdiv ((2:Int) ^ min (Int.toNat (32:Int)) IntKind.u64.bits))) &&& BitVec.ofInt IntKind.u64.bits (4294967295:Int)).toNat:Int)+Zaf IntKind.u64 (Zaf IntKind.u64 (↑(BitVec.ofInt IntKind.u64.bits x0 &&& BitVec.ofInt IntKind.u64.bits (4294967295:Int)).toNat:Int)*x1.fdiv ((2:Int) ^ min (Int.toNat (32:Int)) IntKind.u64.bits)))).fdiv ((2:Int) ^ min (Int.toNat (32:Int)) IntKind.u64.bits)),Zaf IntKind.u64 (x0*x1)))
def Zkf (x:Int×Int):Option (Int×Int):=Zpi x.1 x.2
def Zre (x0:Int) (x1:Int):Option (Int×Int) := match Zkf (x0,x1) with
 | some y1 => some (y1)
 | none=>none
def Zdy (x:Int×Int):Option (Int×Int):=Zre x.1 x.2
def ZiZ (x0:List Thread):Option ((List Thread)) := bif fewB ((0:Nat)+x0.length) then some (x0) else none
def ZiE (x:(List Thread)):Option ((List Thread)):=ZiZ x
def ZjJ (x0:List Mark):Option ((List Mark)) := bif fewB ((0:Nat)+x0.length) then some (x0) else none
def ZjD (x:(List Mark)):Option ((List Mark)):=ZjJ x
def Zj3 (x0:List Event):Option ((List Event)) := bif fewB ((0:Nat)+x0.length) then some (x0) else none
def ZjE (x:(List Event)):Option ((List Event)):=Zj3 x
def Zpu:Option (Int) := match ZbY (Said.mk (5:Int) (-1:Int)) with
 | some y1 => some (y1)
 | none=>none
def ZgE (x:Unit):Option (Int):=Zpu
def Zi7 (x0:Config) (x1:Int):Option (Int) := bif decide (x1<(0:Int)) then some ((-1:Int)) else bif decide (x1>=x0.threads) then some ((-1:Int)) else match Zcs x0 with
 | some y1 => some (Zaf IntKind.i64 (Zaf IntKind.i64 (y1.lines+Zaf IntKind.i64 ((2:Int)*x1))+(1:Int)))
 | none=>none
def ZeL (x:Config×Int):Option (Int):=Zi7 x.1 x.2
def Zi1 (x0:Turn):Option (Turn) := bif decide (x0.th.at_<(0:Int)) then some ({ x0 with th:={ x0.th with phase:=(0:Int) },done:=true }) else bif decide (x0.th.at_>=(↑x0.th.kids.length:Int)) then some ({ x0 with th:={ x0.th with phase:=(0:Int) },done:=true }) else bif decide ((0:Int)<=x0.th.at_) then bif decide (x0.th.at_<(↑x0.th.kids.length:Int)) then some ({ x0 with th:={ x0.th with phase:=(15:Int) } }) else none else none
def Zde (x:Turn):Option (Turn):=Zi1 x
def Zk5 (x0:List Entry) (x1:Int):Option ((List Entry)) := bif decide ((0:Int)<=if (if (↑x0.length:Int)<x1 then (↑x0.length:Int) else x1)>(0:Int) then if (↑x0.length:Int)<x1 then (↑x0.length:Int) else x1 else (0:Int)) then bif decide ((if (if (↑x0.length:Int)<x1 then (↑x0.length:Int) else x1)>(0:Int) then if (↑x0.length:Int)<x1 then (↑x0.length:Int) else x1 else (0:Int))<=(↑x0.length:Int)) then match Zbr (List.drop (Int.toNat (0:Int)) (List.take (if (if (↑x0.length:Int)<x1 then (↑x0.length:Int) else x1)>(0:Int) then if (↑x0.length:Int)<x1 then (↑x0.length:Int) else x1 else (0:Int)).toNat x0)) with
 | some y1 => some (y1)
 | none=>none else none else none
def Zlt (x:(List Entry)×Int):Option ((List Entry)):=Zk5 x.1 x.2
def ZnB (x0:Int) (x1:Int) (x2:Int) (x3:Int):Option (Bool) := bif decide (x1>=(0:Int)) then bif decide (Zaf IntKind.i64 (x0+x1)>=x0) then bif decide (Zaf IntKind.i64 (x0+x1)<x2) then some (true) else some (decide (Zaf IntKind.i64 (x0+x1)>x3)) else bif decide (x1<(0:Int)) then bif decide (Zaf IntKind.i64 (x0+x1)<x0) then bif decide (Zaf IntKind.i64 (x0+x1)<x2) then some (true) else some (decide (Zaf IntKind.i64 (x0+x1)>x3)) else some (true) else some (true) else bif decide (x1<(0:Int)) then bif decide (Zaf IntKind.i64 (x0+x1)<x0) then bif decide (Zaf IntKind.i64 (x0+x1)<x2) then some (true) else some (decide (Zaf IntKind.i64 (x0+x1)>x3)) else some (true) else some (true)
def ZjI (x:Int×Int×Int×Int):Option (Bool):=ZnB x.1 x.2.1 x.2.2.1 x.2.2.2
def Zil (x0:Op) (x1:Int) (x2:Int) (x3:Int):Option (Int×Bool) := bif x0.tag == (2:Int) then some ((Zaf IntKind.i64 (x1+Zaf IntKind.i64 ((0:Int)-x0.v)),true)) else bif x0.tag == (1:Int) then some ((Zaf IntKind.i64 (x1+x0.v),true)) else bif x0.tag == (3:Int) then some ((Zaf IntKind.i64 (↑(BitVec.ofInt IntKind.i64.bits x1 ||| BitVec.ofInt IntKind.i64.bits x0.v).toNat:Int),true)) else bif x0.tag == (4:Int) then some ((Zaf IntKind.i64 (↑(BitVec.ofInt IntKind.i64.bits x1 &&& BitVec.ofInt IntKind.i64.bits x0.v).toNat:Int),true)) else bif x0.tag == (5:Int) then some ((if x1>x0.v then x1 else x0.v,true)) else bif x0.tag == (6:Int) then some ((if x1<x0.v then x1 else x0.v,true)) else bif x0.tag == (7:Int) then some ((x0.v,true)) else bif x0.tag == (9:Int) then bif decide (x0.v<(0:Int)) then some ((x1,false)) else bif decide (x1<x2) then some ((x1,false)) else bif decide (Zaf IntKind.i64 (x1-x0.v)<=x1) then bif decide (Zaf IntKind.i64 (x1-x0.v)>=x2) then some ((Zaf IntKind.i64 (x1-x0.v),true)) else some ((x2,true)) else some ((x2,true)) else bif x0.tag == (8:Int) then match ZjI (x1,x0.v,x2,x3) with
 | some y1 => bif !y1 then some ((Zaf IntKind.i64 (x1+x0.v),true)) else some ((x1,false))
 | none=>none else some ((x1,false))
def Zd7 (x:Op×Int×Int×Int):Option (Int×Bool):=Zil x.1 x.2.1 x.2.2.1 x.2.2.2
def ZgJ (x0:Memo) (x1:Int) (x2:Int):Option (Memo×Int×Int) := match ZbG (x0.words,x1) with
 | some y1 => bif y1.snd != (0:Int) then some ((x0,(0:Int),y1.snd)) else match ZbB x0.words with
  | some y2 => bif decide ((0:Int)<=x1) then bif decide (x1<(↑(List.length y2):Int)) then some (({ x0 with words:=List.set y2 x1.toNat x2 },y1)) else none else none
  | none=>none
 | none=>none
def Zme (x:Memo×Int×Int):Option (Memo×Int×Int):=ZgJ x.1 x.2.1 x.2.2
def Zll (x0:Config) (x1:Int) (x2:Int) (x3:Int):Option (Int) := bif decide (x1<(0:Int)) then some ((-1:Int)) else bif decide (x1>=x0.items) then some ((-1:Int)) else bif decide (x2<(1:Int)) then some ((-1:Int)) else bif decide (x2>=Zaf IntKind.i64 ((1:Int)+x0.layers)) then some ((-1:Int)) else bif decide (x3<(0:Int)) then some ((-1:Int)) else bif decide (x3>=x0.width) then some ((-1:Int)) else match Zcs x0 with
 | some y1 => match Zcs x0 with
  | some y2 => some (Zaf IntKind.i64 (Zaf IntKind.i64 (Zaf IntKind.i64 (Zaf IntKind.i64 (x1*y1.block)+y2.slots)+Zaf IntKind.i64 (Zaf IntKind.i64 (x2-(1:Int))*x0.width))+x3))
  | none=>none
 | none=>none
def ZkE (x:Config×Int×Int×Int):Option (Int):=Zll x.1 x.2.1 x.2.2.1 x.2.2.2
def ZgG (x0:Tape):Option (Int) := bif decide (x0.at_<(0:Int)) then some ((0:Int)) else some (if Zaf IntKind.i64 ((↑x0.l.length:Int)-x0.at_)>(0:Int) then Zaf IntKind.i64 ((↑x0.l.length:Int)-x0.at_) else (0:Int))
def Zfx (x:Tape):Option (Int):=ZgG x
end Go.Proofs.Mill
