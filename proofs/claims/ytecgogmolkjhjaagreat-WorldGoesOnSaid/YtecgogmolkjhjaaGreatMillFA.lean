/- What the functions compute. -/
import Derived.Test.YtecgogmolkjhjaaGreatMillAll3
set_option linter.all false
noncomputable section
namespace Go.Proofs.Mill
def ZtJ (x0:Turn) (x1:Int):Option ((Turn×Int)⊕((Turn)⊕(Bool))) := bif decide (x1<(↑x0.m.boxes.length:Int)) then bif decide (x1<(20:Int)) then bif decide ((0:Int)<=x1) then bif decide (x1<(↑x0.m.boxes.length:Int)) then bif decide ((↑(List.length (x0.m.boxes.getD x1.toNat ([]:List Entry))):Int)>(20:Int)) then some (Sum.inr (Sum.inr true)) else some (Sum.inl (x0,Zaf IntKind.i64 (x1+(1:Int)))) else none else none else some (Sum.inr (Sum.inl x0)) else some (Sum.inr (Sum.inl x0))
def Zkb (x:Turn×Int):Option ((Turn×Int)⊕((Turn)⊕(Bool))):=ZtJ x.1 x.2
def Zts (x:Turn×Int):Option ((Turn)⊕(Bool)):=Zav Zkb x
def Zww (x0:Turn):Option (Bool) := match Zts (x0,(0:Int)) with
 | some (.inl y1) => bif decide ((↑y1.m.words.length:Int)>(400:Int)) then some (true) else bif decide ((↑y1.m.boxes.length:Int)>(16:Int)) then some (true) else bif decide ((↑y1.th.batch.length:Int)>(20:Int)) then some (true) else bif decide ((↑y1.th.kids.length:Int)>(20:Int)) then some (true) else bif decide ((↑y1.th.held.length:Int)>(20:Int)) then some (true) else bif decide ((↑y1.tape.l.length:Int)>(100:Int)) then some (true) else some (decide ((↑y1.log.length:Int)>(50:Int)))
 | some (.inr y2) => some (y2)
 | none=>none
def Zma (x:Turn):Option (Bool):=Zww x
def Zc8 (x0:Config):Option (Int) := bif decide (x0.threads<(1:Int)) then some ((50:Int)) else bif decide (x0.threads>(16:Int)) then some ((50:Int)) else bif decide (x0.items<(1:Int)) then some ((51:Int)) else bif decide (x0.items>(4:Int)) then some ((51:Int)) else bif decide (x0.backend<(1:Int)) then some ((52:Int)) else bif decide (x0.backend>(3:Int)) then some ((52:Int)) else bif decide (x0.depth<(0:Int)) then some ((53:Int)) else bif decide (x0.depth>(4:Int)) then some ((53:Int)) else bif decide (x0.layers<(0:Int)) then some ((54:Int)) else bif decide (x0.layers>(3:Int)) then some ((54:Int)) else bif decide (x0.width<(1:Int)) then some ((55:Int)) else bif decide (x0.width>(8:Int)) then some ((55:Int)) else bif decide (x0.spin<(0:Int)) then some ((56:Int)) else bif decide (x0.spin>(20:Int)) then some ((56:Int)) else bif decide (x0.wait<(0:Int)) then some ((57:Int)) else bif decide (x0.wait>(1000:Int)) then some ((57:Int)) else bif x0.bounded then bif decide (x0.lo>x0.init) then some ((58:Int)) else bif decide (x0.init>x0.hi) then some ((58:Int)) else some ((0:Int)) else some ((0:Int))
def Zem (x:Config):Option (Int):=Zc8 x
def Zrk (x0:Config) (x1:Int) (x2:Int):Option ((Config×Int×Int)⊕((Int))) := bif decide (x2<x0.depth) then some (Sum.inl (x0,Zaf IntKind.i64 ((2:Int)*x1),Zaf IntKind.i64 (x2+(1:Int)))) else some (Sum.inr x1)
def ZhE (x:Config×Int×Int):Option ((Config×Int×Int)⊕((Int))):=Zrk x.1 x.2.1 x.2.2
def Zq5 (x:Config×Int×Int):Option ((Int)):=Zav ZhE x
def Ztr (x0:Config):Option (Int) := match Zq5 (x0,(1:Int),(0:Int)) with
 | some y1 => some (Zaf IntKind.i64 (y1-(1:Int)))
 | none=>none
def Zfk (x:Config):Option (Int):=Ztr x
def ZtC (x0:Config):Option (Int) := match Zfk x0 with
 | some y1 => some (Zaf IntKind.i64 (Zaf IntKind.i64 ((1:Int)+y1)+Zaf IntKind.i64 (x0.layers*x0.width)))
 | none=>none
def ZdK (x:Config):Option (Int):=ZtC x
def Zvj (x0:Config):Option (Int) := match ZdK x0 with
 | some y1 => some (Zaf IntKind.i64 (Zaf IntKind.i64 (x0.items*y1)+Zaf IntKind.i64 ((2:Int)*x0.threads)))
 | none=>none
def ZfV (x:Config):Option (Int):=Zvj x
def Zwx (x0:Turn):Option (Bool) := match Zem x0.c with
 | some y1 => bif y1 == (0:Int) then bif decide (x0.t>=(0:Int)) then bif decide (x0.t<x0.c.threads) then match ZfV x0.c with
  | some y2 => bif (↑x0.m.words.length:Int) == y2 then bif (↑x0.m.boxes.length:Int) == x0.c.threads then bif decide (x0.th.item>=(0:Int)) then some (decide (x0.th.item<x0.c.items)) else some (false) else some (false) else some (false)
  | none=>none else some (false) else some (false) else some (false)
 | none=>none
def Zmf (x:Turn):Option (Bool):=Zwx x
def Ziv (x0:List Entry) (x1:List Entry) (x2:Int):Option (((List Entry)×(List Entry)×Int)⊕((Unit)⊕(Bool))) := bif decide (x2<(↑x0.length:Int)) then bif decide ((0:Int)<=x2) then bif decide (x2<(↑x0.length:Int)) then bif decide ((0:Int)<=x2) then bif decide (x2<(↑x1.length:Int)) then bif !((x0.getD x2.toNat Zch).t == (x1.getD x2.toNat Zch).t && ((x0.getD x2.toNat Zch).op.tag == (x1.getD x2.toNat Zch).op.tag && ((x0.getD x2.toNat Zch).op.v == (x1.getD x2.toNat Zch).op.v && true) && true)) then some (Sum.inr (Sum.inr false)) else some (Sum.inl (x0,x1,Zaf IntKind.i64 (x2+(1:Int)))) else none else none else none else none else some (Sum.inr (Sum.inl ()))
def ZeT (x:(List Entry)×(List Entry)×Int):Option (((List Entry)×(List Entry)×Int)⊕((Unit)⊕(Bool))):=Ziv x.1 x.2.1 x.2.2
def ZmG (x:(List Entry)×(List Entry)×Int):Option ((Unit)⊕(Bool)):=Zav ZeT x
def Zh2 (x0:List Entry) (x1:List Entry):Option (Bool) := bif (↑x0.length:Int) != (↑x1.length:Int) then some (false) else match ZmG (x0,x1,(0:Int)) with
 | some (.inl y1) => some (true)
 | some (.inr y2) => some (y2)
 | none=>none
def ZfX (x:(List Entry)×(List Entry)):Option (Bool):=Zh2 x.1 x.2
def ZiQ (x0:List Int) (x1:List Int) (x2:Int):Option (((List Int)×(List Int)×Int)⊕((Unit)⊕(Bool))) := bif decide (x2<(↑x0.length:Int)) then bif decide ((0:Int)<=x2) then bif decide (x2<(↑x0.length:Int)) then bif decide ((0:Int)<=x2) then bif decide (x2<(↑x1.length:Int)) then bif x0.getD x2.toNat (0:Int) != x1.getD x2.toNat (0:Int) then some (Sum.inr (Sum.inr false)) else some (Sum.inl (x0,x1,Zaf IntKind.i64 (x2+(1:Int)))) else none else none else none else none else some (Sum.inr (Sum.inl ()))
def ZeZ (x:(List Int)×(List Int)×Int):Option (((List Int)×(List Int)×Int)⊕((Unit)⊕(Bool))):=ZiQ x.1 x.2.1 x.2.2
def ZmM (x:(List Int)×(List Int)×Int):Option ((Unit)⊕(Bool)):=Zav ZeZ x
def Zla (x0:List Int) (x1:List Int):Option (Bool) := bif (↑x0.length:Int) != (↑x1.length:Int) then some (false) else match ZmM (x0,x1,(0:Int)) with
 | some (.inl y1) => some (true)
 | some (.inr y2) => some (y2)
 | none=>none
def ZfU (x:(List Int)×(List Int)):Option (Bool):=Zla x.1 x.2
def Zi7 (x0:Memo) (x1:Memo) (x2:Int):Option ((Memo×Memo×Int)⊕((Unit)⊕(Bool))) := bif decide (x2<(↑x0.boxes.length:Int)) then bif decide ((0:Int)<=x2) then bif decide (x2<(↑x0.boxes.length:Int)) then bif decide ((0:Int)<=x2) then bif decide (x2<(↑x1.boxes.length:Int)) then match ZfX (x0.boxes.getD x2.toNat ([]:List Entry),x1.boxes.getD x2.toNat ([]:List Entry)) with
 | some y1 => bif !y1 then some (Sum.inr (Sum.inr false)) else some (Sum.inl (x0,x1,Zaf IntKind.i64 (x2+(1:Int))))
 | none=>none else none else none else none else none else some (Sum.inr (Sum.inl ()))
def ZeL (x:Memo×Memo×Int):Option ((Memo×Memo×Int)⊕((Unit)⊕(Bool))):=Zi7 x.1 x.2.1 x.2.2
def ZmA (x:Memo×Memo×Int):Option ((Unit)⊕(Bool)):=Zav ZeL x
def Zli (x0:Memo) (x1:Memo):Option (Bool) := match ZfU (x0.words,x1.words) with
 | some y1 => bif !y1 then some (false) else bif (↑x0.boxes.length:Int) != (↑x1.boxes.length:Int) then some (false) else match ZmA (x0,x1,(0:Int)) with
  | some (.inl y2) => some (true)
  | some (.inr y3) => some (y3)
  | none=>none
 | none=>none
def ZhV (x:Memo×Memo):Option (Bool):=Zli x.1 x.2
def Ziw (x0:Thread) (x1:Thread) (x2:Int):Option ((Thread×Thread×Int)⊕((Thread×Thread)⊕(Bool))) := bif decide (x2<(↑x0.kids.length:Int)) then bif decide ((0:Int)<=x2) then bif decide (x2<(↑x0.kids.length:Int)) then bif decide ((0:Int)<=x2) then bif decide (x2<(↑x1.kids.length:Int)) then bif !((x0.kids.getD x2.toNat dKid).t == (x1.kids.getD x2.toNat dKid).t && ((x0.kids.getD x2.toNat dKid).ahead == (x1.kids.getD x2.toNat dKid).ahead && true)) then some (Sum.inr (Sum.inr false)) else some (Sum.inl (x0,x1,Zaf IntKind.i64 (x2+(1:Int)))) else none else none else none else none else some (Sum.inr (Sum.inl (x0,x1)))
def Ze6 (x:Thread×Thread×Int):Option ((Thread×Thread×Int)⊕((Thread×Thread)⊕(Bool))):=Ziw x.1 x.2.1 x.2.2
def ZmK (x:Thread×Thread×Int):Option ((Thread×Thread)⊕(Bool)):=Zav Ze6 x
def ZkR (x0:Thread) (x1:Thread):Option (Bool) := match ZfX (x0.batch,x1.batch) with
 | some y1 => bif !y1 then some (false) else match ZfU (x0.held,x1.held) with
  | some y2 => bif !y2 then some (false) else bif (↑x0.kids.length:Int) != (↑x1.kids.length:Int) then some (false) else match ZmK (x0,x1,(0:Int)) with
   | some (.inl y3) => bif y3.fst.phase == y3.snd.phase then bif y3.fst.item == y3.snd.item then bif y3.fst.op.tag == y3.snd.op.tag && (y3.fst.op.v == y3.snd.op.v && true) then bif y3.fst.stop == y3.snd.stop then bif y3.fst.node == y3.snd.node then bif y3.fst.at_ == y3.snd.at_ then bif y3.fst.layer == y3.snd.layer then bif y3.fst.left == y3.snd.left then bif y3.fst.width == y3.snd.width then bif y3.fst.who == y3.snd.who then bif y3.fst.x == y3.snd.x then bif y3.fst.y == y3.snd.y then some (y3.fst.until_ == y3.snd.until_) else some (false) else some (false) else some (false) else some (false) else some (false) else some (false) else some (false) else some (false) else some (false) else some (false) else some (false) else some (false)
   | some (.inr y4) => some (y4)
   | none=>none
  | none=>none
 | none=>none
def ZhQ (x:Thread×Thread):Option (Bool):=ZkR x.1 x.2
def Zi9 (x0:Tape) (x1:Tape) (x2:Int):Option ((Tape×Tape×Int)⊕((Unit)⊕(Bool))) := bif decide (x2<(↑x0.l.length:Int)) then bif decide ((0:Int)<=x2) then bif decide (x2<(↑x0.l.length:Int)) then bif decide ((0:Int)<=x2) then bif decide (x2<(↑x1.l.length:Int)) then bif x0.l.getD x2.toNat (0:Int) != x1.l.getD x2.toNat (0:Int) then some (Sum.inr (Sum.inr false)) else some (Sum.inl (x0,x1,Zaf IntKind.i64 (x2+(1:Int)))) else none else none else none else none else some (Sum.inr (Sum.inl ()))
def ZeQ (x:Tape×Tape×Int):Option ((Tape×Tape×Int)⊕((Unit)⊕(Bool))):=Zi9 x.1 x.2.1 x.2.2
def ZmF (x:Tape×Tape×Int):Option ((Unit)⊕(Bool)):=Zav ZeQ x
def Zlc (x0:Tape) (x1:Tape):Option (Bool) := bif x0.at_ != x1.at_ then some (false) else bif (↑x0.l.length:Int) != (↑x1.l.length:Int) then some (false) else match ZmF (x0,x1,(0:Int)) with
 | some (.inl y1) => some (true)
 | some (.inr y2) => some (y2)
 | none=>none
def Zih (x:Tape×Tape):Option (Bool):=Zlc x.1 x.2
def ZhB (x0:List Mark) (x1:List Mark) (x2:Int):Option (((List Mark)×(List Mark)×Int)⊕((Unit)⊕(Bool))) := bif decide (x2<(↑x0.length:Int)) then bif decide ((0:Int)<=x2) then bif decide (x2<(↑x0.length:Int)) then bif decide ((0:Int)<=x2) then bif decide (x2<(↑x1.length:Int)) then bif !((x0.getD x2.toNat ZaU).t == (x1.getD x2.toNat ZaU).t && ((x0.getD x2.toNat ZaU).item == (x1.getD x2.toNat ZaU).item && ((x0.getD x2.toNat ZaU).op.tag == (x1.getD x2.toNat ZaU).op.tag && ((x0.getD x2.toNat ZaU).op.v == (x1.getD x2.toNat ZaU).op.v && true) && ((x0.getD x2.toNat ZaU).prior == (x1.getD x2.toNat ZaU).prior && ((x0.getD x2.toNat ZaU).step == (x1.getD x2.toNat ZaU).step && true))))) then some (Sum.inr (Sum.inr false)) else some (Sum.inl (x0,x1,Zaf IntKind.i64 (x2+(1:Int)))) else none else none else none else none else some (Sum.inr (Sum.inl ()))
def Zex (x:(List Mark)×(List Mark)×Int):Option (((List Mark)×(List Mark)×Int)⊕((Unit)⊕(Bool))):=ZhB x.1 x.2.1 x.2.2
def ZlZ (x:(List Mark)×(List Mark)×Int):Option ((Unit)⊕(Bool)):=Zav Zex x
def Zj8 (x0:List Mark) (x1:List Mark):Option (Bool) := bif (↑x0.length:Int) != (↑x1.length:Int) then some (false) else match ZlZ (x0,x1,(0:Int)) with
 | some (.inl y1) => some (true)
 | some (.inr y2) => some (y2)
 | none=>none
def ZgZ (x:(List Mark)×(List Mark)):Option (Bool):=Zj8 x.1 x.2
def ZtL (x0:Turn) (x1:Turn):Option (Bool) := bif x0.c.threads == x1.c.threads && (x0.c.items == x1.c.items && (x0.c.backend == x1.c.backend && (x0.c.depth == x1.c.depth && (x0.c.layers == x1.c.layers && (x0.c.width == x1.c.width && (x0.c.spin == x1.c.spin && (x0.c.wait == x1.c.wait && (x0.c.bounded == x1.c.bounded && (x0.c.lo == x1.c.lo && (x0.c.hi == x1.c.hi && (x0.c.init == x1.c.init && true))))))))))) then bif x0.t == x1.t then bif x0.now == x1.now then match ZhV (x0.m,x1.m) with
 | some y1 => bif y1 then match ZhQ (x0.th,x1.th) with
  | some y2 => bif y2 then match Zih (x0.tape,x1.tape) with
   | some y3 => bif y3 then match ZgZ (x0.log,x1.log) with
    | some y4 => bif y4 then some (x0.done == x1.done) else some (false)
    | none=>none else some (false)
   | none=>none else some (false)
  | none=>none else some (false)
 | none=>none else some (false) else some (false) else some (false)
def Zj9 (x:Turn×Turn):Option (Bool):=ZtL x.1 x.2
def Zpf (x0:List Entry) (x1:List Entry) (x2:Int):Option (((List Entry)×(List Entry)×Int)⊕(((List Entry)))) := bif decide (x2<(↑x0.length:Int)) then bif decide ((0:Int)<=x2) then bif decide (x2<(↑x0.length:Int)) then bif decide ((0:Int)<=x2) then bif decide (x2<(↑x0.length:Int)) then bif fewB (x1.length+(x0.getD x2.toNat Zch::([]:List Entry)).length) then some (Sum.inl (x0,x1++x0.getD x2.toNat Zch::([]:List Entry),Zaf IntKind.i64 (x2+(1:Int)))) else none else none else none else none else none else some (Sum.inr x1)
def Zgx (x:(List Entry)×(List Entry)×Int):Option (((List Entry)×(List Entry)×Int)⊕(((List Entry)))):=Zpf x.1 x.2.1 x.2.2
def Zpj (x:(List Entry)×(List Entry)×Int):Option (((List Entry))):=Zav Zgx x
def Zqw (x0:List Entry):Option ((List Entry)) := match Zpj (x0,([]:List Entry),(0:Int)) with
 | some y1 => some (y1)
 | none=>none
def ZhG (x:(List Entry)):Option ((List Entry)):=Zqw x
def ZpX (x0:Memo) (x1:Memo) (x2:Memo) (x3:Int):Option ((Memo×Memo×Memo×Int)⊕((Memo×Memo))) := bif decide (x3<(↑x0.boxes.length:Int)) then bif decide ((0:Int)<=x3) then bif decide (x3<(↑x0.boxes.length:Int)) then match ZhG (x0.boxes.getD x3.toNat ([]:List Entry)) with
 | some y1 => bif fewB (x2.boxes.length+(y1::([]:List (List Entry))).length) then some (Sum.inl (x0,x1,{ x2 with boxes:=x2.boxes++y1::([]:List (List Entry)) },Zaf IntKind.i64 (x3+(1:Int)))) else none
 | none=>none else none else none else some (Sum.inr (x1,x2))
def Zg3 (x:Memo×Memo×Memo×Int):Option ((Memo×Memo×Memo×Int)⊕((Memo×Memo))):=ZpX x.1 x.2.1 x.2.2.1 x.2.2.2
def ZpP (x:Memo×Memo×Memo×Int):Option ((Memo×Memo)):=Zav Zg3 x
def Zsg (x0:Memo):Option (Memo) := match ZpP (x0,Memo.mk ([]:List Int) ([]:List (List Entry)),{ x0 with boxes:=([]:List (List Entry)) },(0:Int)) with
 | some y1 => some (y1.snd)
 | none=>none
def ZmL (x:Memo):Option (Memo):=Zsg x
def Zrd (x0:Thread) (x1:Thread) (x2:Thread) (x3:Int):Option ((Thread×Thread×Thread×Int)⊕((Thread×Thread))) := bif decide (x3<(↑x0.kids.length:Int)) then bif decide ((0:Int)<=x3) then bif decide (x3<(↑x0.kids.length:Int)) then bif fewB (x2.kids.length+(x0.kids.getD x3.toNat dKid::([]:List Kid)).length) then some (Sum.inl (x0,x1,{ x2 with kids:=x2.kids++x0.kids.getD x3.toNat dKid::([]:List Kid) },Zaf IntKind.i64 (x3+(1:Int)))) else none else none else none else some (Sum.inr (x1,x2))
def Zir (x:Thread×Thread×Thread×Int):Option ((Thread×Thread×Thread×Int)⊕((Thread×Thread))):=Zrd x.1 x.2.1 x.2.2.1 x.2.2.2
def ZqR (x:Thread×Thread×Thread×Int):Option ((Thread×Thread)):=Zav Zir x
def Zto (x0:Thread):Option (Thread) := match ZhG x0.batch with
 | some y1 => match ZqR (x0,Thread.mk (0:Int) (0:Int) (Op.mk (0:Int) (0:Int)) ([]:List Entry) ([]:List Kid) ([]:List Int) (0:Int) (0:Int) (0:Int) (0:Int) (0:Int) (0:Int) (0:Int) (0:Int) (0:Int) (0:Int),{ x0 with batch:=y1,kids:=([]:List Kid) },(0:Int)) with
  | some y2 => some (y2.snd)
  | none=>none
 | none=>none
def ZnC (x:Thread):Option (Thread):=Zto x
def ZqA (x0:List Mark) (x1:List Mark) (x2:Int):Option (((List Mark)×(List Mark)×Int)⊕(((List Mark)))) := bif decide (x2<(↑x0.length:Int)) then bif decide ((0:Int)<=x2) then bif decide (x2<(↑x0.length:Int)) then bif decide ((0:Int)<=x2) then bif decide (x2<(↑x0.length:Int)) then bif decide ((0:Int)<=x2) then bif decide (x2<(↑x0.length:Int)) then bif decide ((0:Int)<=x2) then bif decide (x2<(↑x0.length:Int)) then bif decide ((0:Int)<=x2) then bif decide (x2<(↑x0.length:Int)) then bif fewB (x1.length+(x0.getD x2.toNat ZaU::([]:List Mark)).length) then some (Sum.inl (x0,x1++x0.getD x2.toNat ZaU::([]:List Mark),Zaf IntKind.i64 (x2+(1:Int)))) else none else none else none else none else none else none else none else none else none else none else none else some (Sum.inr x1)
def Zif (x:(List Mark)×(List Mark)×Int):Option (((List Mark)×(List Mark)×Int)⊕(((List Mark)))):=ZqA x.1 x.2.1 x.2.2
def Zqu (x:(List Mark)×(List Mark)×Int):Option (((List Mark))):=Zav Zif x
def Ztk (x0:List Mark):Option ((List Mark)) := match Zqu (x0,([]:List Mark),(0:Int)) with
 | some y1 => some (y1)
 | none=>none
def ZnF (x:(List Mark)):Option ((List Mark)):=Ztk x
def Zwz (x0:Turn):Option (Turn) := match ZmL x0.m with
 | some y1 => match ZnC x0.th with
  | some y2 => match ZnF x0.log with
   | some y3 => some ({ x0 with m:=y1,th:=y2,log:=y3 })
   | none=>none
  | none=>none
 | none=>none
def ZgB (x:Turn):Option (Turn):=Zwz x
def ZgP (x0:Int) (x1:Int):Option (Int×Bool) :=
 some ((Zaf IntKind.i64 (x0+x1),decide (x1>=(0:Int)) == decide (Zaf IntKind.i64 (x0+x1)>=x0)))
def ZfB (x:Int×Int):Option (Int×Bool):=ZgP x.1 x.2
def ZcR (x0:Op) (x1:Int) (x2:Int) (x3:Int):Option (Int×Bool) := bif x0.tag == (1:Int) then some ((Zaf IntKind.i64 (x1+x0.v),true)) else bif x0.tag == (2:Int) then some ((Zaf IntKind.i64 (x1-x0.v),true)) else bif x0.tag == (3:Int) then some ((Zaf IntKind.i64 (↑(BitVec.ofInt IntKind.i64.bits x1 ||| BitVec.ofInt IntKind.i64.bits x0.v).toNat:Int),true)) else bif x0.tag == (4:Int) then some ((Zaf IntKind.i64 (↑(BitVec.ofInt IntKind.i64.bits x1 &&& BitVec.ofInt IntKind.i64.bits x0.v).toNat:Int),true)) else bif x0.tag == (5:Int) then some ((if x0.v>x1 then x0.v else x1,true)) else bif x0.tag == (6:Int) then some ((if x0.v<x1 then x0.v else x1,true)) else bif x0.tag == (7:Int) then some ((x0.v,true)) else bif x0.tag == (8:Int) then match ZfB (x1,x0.v) with
 | some y1 => bif !y1.snd then some ((x1,false)) else bif decide (y1.fst<x2) then some ((x1,false)) else bif decide (y1.fst>x3) then some ((x1,false)) else some ((y1.fst,true))
 | none=>none else bif x0.tag == (9:Int) then bif decide (x0.v<(0:Int)) then some ((x1,false)) else bif decide (x1<x2) then some ((x1,false)) else bif decide (IntKind.u64.wrap x0.v>=Zaf IntKind.u64 (IntKind.u64.wrap x1-IntKind.u64.wrap x2)) then some ((x2,true)) else some ((Zaf IntKind.i64 (x1-x0.v),true)) else some ((x1,false))
def Zc7 (x:Op×Int×Int×Int):Option (Int×Bool):=ZcR x.1 x.2.1 x.2.2.1 x.2.2.2
def ZlL (x0:Int):Option ((List Int)) := bif decide (x0<(1:Int)) then some (([]:List Int)) else bif decide (x0>(10000:Int)) then some (([]:List Int)) else bif x0 == x0 then bif decide ((0:Int)<=x0) then bif decide (x0<=ZbA) then some (List.replicate x0.toNat (0:Int)) else none else none else none
def ZhS (x:Int):Option ((List Int)):=ZlL x
def Zga (x0:Int):Option ((List (List Entry))) := bif decide (x0<(1:Int)) then some (([]:List (List Entry))) else bif decide (x0>(10000:Int)) then some (([]:List (List Entry))) else bif x0 == x0 then bif decide ((0:Int)<=x0) then bif decide (x0<=ZbA) then some (List.replicate x0.toNat ([]:List Entry)) else none else none else none
def Zd8 (x:Int):Option ((List (List Entry))):=Zga x
def Zm8 (x0:Int) (x1:Int):Option (Memo) := match ZhS x0 with
 | some y1 => match Zd8 x1 with
  | some y2 => some (Memo.mk y1 y2)
  | none=>none
 | none=>none
def Znq (x:Int×Int):Option (Memo):=Zm8 x.1 x.2
def ZjK (x0:Config):Option (Int) := bif decide (x0.depth<(0:Int)) then none else some (Zaf IntKind.i64 (Zaf IntKind.i64 ((1:Int)*(2:Int) ^ min x0.depth.toNat IntKind.i64.bits)-(1:Int)))
def Zfl (x:Config):Option (Int):=ZjK x
def ZmT (x0:Config):Option (Plan) := match Zfl x0 with
 | some y1 => some (Plan.mk (1:Int) (Zaf IntKind.i64 ((1:Int)+y1)) (Zaf IntKind.i64 (Zaf IntKind.i64 ((1:Int)+y1)+Zaf IntKind.i64 (x0.layers*x0.width))) (Zaf IntKind.i64 (x0.items*Zaf IntKind.i64 (Zaf IntKind.i64 ((1:Int)+y1)+Zaf IntKind.i64 (x0.layers*x0.width)))))
 | none=>none
def Zco (x:Config):Option (Plan):=ZmT x
def ZkW (x0:Config):Option (Int) := match Zco x0 with
 | some y1 => some (Zaf IntKind.i64 (y1.lines+Zaf IntKind.i64 ((2:Int)*x0.threads)))
 | none=>none
def Zk1 (x:Config):Option (Int):=ZkW x
def Zhu (x0:Config) (x1:Int):Option (Int) := bif decide (x1<(0:Int)) then some ((-1:Int)) else bif decide (x1>=x0.items) then some ((-1:Int)) else match Zco x0 with
 | some y1 => some (Zaf IntKind.i64 (x1*y1.block))
 | none=>none
def Zdu (x:Config×Int):Option (Int):=Zhu x.1 x.2
def Zev (x0:Config) (x1:Memo) (x2:Memo) (x3:Int) (x4:Int):Option ((Config×Memo×Memo×Int×Int)⊕((Memo×Memo))) := bif decide (x4<x3) then match Zdu (x0,x4) with
 | some y1 => bif decide ((0:Int)<=y1) then bif decide (y1<(↑x2.words.length:Int)) then some (Sum.inl (x0,x1,{ x2 with words:=x2.words.set (Int.toNat y1) x0.init },x3,Zaf IntKind.i64 (x4+(1:Int)))) else none else none
 | none=>none else some (Sum.inr (x1,x2))
def ZfI (x:Config×Memo×Memo×Int×Int):Option ((Config×Memo×Memo×Int×Int)⊕((Memo×Memo))):=Zev x.1 x.2.1 x.2.2.1 x.2.2.2.1 x.2.2.2.2
def ZlG (x:Config×Memo×Memo×Int×Int):Option ((Memo×Memo)):=Zav ZfI x
def ZjJ (x0:Config):Option (Memo) := match Zk1 x0 with
 | some y1 => match Znq (y1,x0.threads) with
  | some y2 => match ZlG (x0,Memo.mk ([]:List Int) ([]:List (List Entry)),y2,x0.items,(0:Int)) with
   | some y3 => some (y3.snd)
   | none=>none
  | none=>none
 | none=>none
def ZdG (x:Config):Option (Memo):=ZjJ x
def ZeN (x0:Int) (x1:Int):Option (Int) := bif decide (x0<(1:Int)) then some ((0:Int)) else bif decide (Zaf IntKind.i64 (x0-(1:Int))<(0:Int)) then none else some (Zaf IntKind.i64 (↑(BitVec.ofInt IntKind.i64.bits (Zaf IntKind.i64 ((1:Int)*(2:Int) ^ min (Zaf IntKind.i64 (x0-(1:Int))).toNat IntKind.i64.bits)) ||| BitVec.ofInt IntKind.i64.bits (Zaf IntKind.i64 (↑(BitVec.ofInt IntKind.i64.bits (x1.fdiv ((2:Int) ^ min (Int.toNat (1:Int)) IntKind.i64.bits)) &&& BitVec.ofInt IntKind.i64.bits (Zaf IntKind.i64 (Zaf IntKind.i64 ((1:Int)*(2:Int) ^ min (Zaf IntKind.i64 (x0-(1:Int))).toNat IntKind.i64.bits)-(1:Int)))).toNat:Int))).toNat:Int))
def Zln (x:Int×Int):Option (Int):=ZeN x.1 x.2
def Zit (x0:Config) (x1:Int) (x2:Thread) (x3:Int) (x4:Op) (x5:Int):Option (Thread) := match Zln (x0.depth,x1) with
 | some y1 => bif decide (x0.wait>(0:Int)) then some (Thread.mk (1:Int) x3 x4 (Entry.mk x1 x4::([]:List Entry)) ([]:List Kid) ([]:List Int) (0:Int) y1 (0:Int) (0:Int) (0:Int) x2.width (0:Int) (0:Int) (0:Int) (Zaf IntKind.i64 (x5+x0.wait))) else some (Thread.mk (1:Int) x3 x4 (Entry.mk x1 x4::([]:List Entry)) ([]:List Kid) ([]:List Int) (0:Int) y1 (0:Int) (0:Int) (0:Int) x2.width (0:Int) (0:Int) (0:Int) (0:Int))
 | none=>none
def Zcz (x:Config×Int×Thread×Int×Op×Int):Option (Thread):=Zit x.1 x.2.1 x.2.2.1 x.2.2.2.1 x.2.2.2.2.1 x.2.2.2.2.2
def Zun:Option (Thread) :=
 some (Thread.mk (0:Int) (0:Int) (Op.mk (0:Int) (0:Int)) ([]:List Entry) ([]:List Kid) ([]:List Int) (0:Int) (0:Int) (0:Int) (0:Int) (0:Int) (1:Int) (0:Int) (0:Int) (0:Int) (0:Int))
def Zea (x:Unit):Option (Thread):=Zun
def Zrc (x0:Turn):Option (Bool) := match Zmf x0 with
 | some y1 => bif y1 then bif decide (x0.th.phase<(17:Int)) then some (true) else bif decide (x0.th.layer>=(1:Int)) then some (decide (x0.th.layer<=(3:Int))) else some (false) else some (false)
 | none=>none
def ZlW (x:Turn):Option (Bool):=Zrc x
def Zwn (x0:Op) (x1:Bool):Option (Bool) := bif x1 then bif x0.tag == (8:Int) then some (true) else bif x0.tag == (9:Int) then some (decide (x0.v>=(0:Int))) else some (false) else bif decide (x0.tag>=(1:Int)) then some (decide (x0.tag<=(7:Int))) else some (false)
def Zmc (x:Op×Bool):Option (Bool):=Zwn x.1 x.2
def Zsb (x0:Config):Option (Int) :=
 some (Zaf IntKind.i64 (Zaf IntKind.i64 ((20:Int)+Zaf IntKind.i64 ((8:Int)*x0.depth))+Zaf IntKind.i64 (x0.layers*Zaf IntKind.i64 ((20:Int)+Zaf IntKind.i64 ((2:Int)*x0.spin)))))
def ZmN (x:Config):Option (Int):=Zsb x
def Zep (x0:Thread):Option (Bool) :=
 some (x0.phase != (0:Int))
def Zby (x:Thread):Option (Bool):=Zep x
def Zuq (x0:Config) (x1:Int):Option (Int) := bif decide (x1<(0:Int)) then some ((-1:Int)) else bif decide (x1>=x0.items) then some ((-1:Int)) else match ZdK x0 with
 | some y1 => some (Zaf IntKind.i64 (x1*y1))
 | none=>none
def Ze8 (x:Config×Int):Option (Int):=Zuq x.1 x.2
def Zup (x0:Config) (x1:Int) (x2:Int):Option (Int) := bif decide (x1<(0:Int)) then some ((-1:Int)) else bif decide (x1>=x0.items) then some ((-1:Int)) else bif decide (x2<(1:Int)) then some ((-1:Int)) else match Zfk x0 with
 | some y1 => bif decide (x2>y1) then some ((-1:Int)) else match ZdK x0 with
  | some y2 => some (Zaf IntKind.i64 (Zaf IntKind.i64 (x1*y2)+x2))
  | none=>none
 | none=>none
def Zf7 (x:Config×Int×Int):Option (Int):=Zup x.1 x.2.1 x.2.2
def Zt8 (x0:Config) (x1:Int):Option (Int) := bif decide (x1<(0:Int)) then some ((-1:Int)) else bif decide (x1>=x0.threads) then some ((-1:Int)) else match ZdK x0 with
 | some y1 => some (Zaf IntKind.i64 (Zaf IntKind.i64 (x0.items*y1)+Zaf IntKind.i64 ((2:Int)*x1)))
 | none=>none
def Zdy (x:Config×Int):Option (Int):=Zt8 x.1 x.2
def Zlj (x0:List SEntry) (x1:List Int):Option (Bool) := bif decide ((↑x0.length:Int)>(400:Int)) then some (true) else some (decide ((↑x1.length:Int)>(200:Int)))
def ZhJ (x:(List SEntry)×(List Int)):Option (Bool):=Zlj x.1 x.2
def ZtD (x0:Int) (x1:Memo) (x2:Memo) (x3:Int):Option ((Int×Memo×Memo×Int)⊕((Memo×Memo))) := bif decide (x3<x0) then bif decide (x0<=(10000:Int)) then bif fewB (x2.boxes.length+(([]:List Entry)::([]:List (List Entry))).length) then some (Sum.inl (x0,x1,{ x2 with boxes:=x2.boxes++([]:List Entry)::([]:List (List Entry)) },Zaf IntKind.i64 (x3+(1:Int)))) else none else some (Sum.inr (x1,x2)) else some (Sum.inr (x1,x2))
def Zj6 (x:Int×Memo×Memo×Int):Option ((Int×Memo×Memo×Int)⊕((Memo×Memo))):=ZtD x.1 x.2.1 x.2.2.1 x.2.2.2
def ZtP (x:Int×Memo×Memo×Int):Option ((Memo×Memo)):=Zav Zj6 x
def ZtA (x0:Int) (x1:Int) (x2:Memo) (x3:Memo) (x4:Int):Option ((Int×Int×Memo×Memo×Int)⊕((Int×Memo×Memo))) := bif decide (x4<x0) then bif decide (x0<=(10000:Int)) then bif fewB (x3.words.length+((0:Int)::([]:List Int)).length) then some (Sum.inl (x0,x1,x2,{ x3 with words:=x3.words++(0:Int)::([]:List Int) },Zaf IntKind.i64 (x4+(1:Int)))) else none else some (Sum.inr (x1,x2,x3)) else some (Sum.inr (x1,x2,x3))
def Zj2 (x:Int×Int×Memo×Memo×Int):Option ((Int×Int×Memo×Memo×Int)⊕((Int×Memo×Memo))):=ZtA x.1 x.2.1 x.2.2.1 x.2.2.2.1 x.2.2.2.2
def Ztn (x:Int×Int×Memo×Memo×Int):Option ((Int×Memo×Memo)):=Zav Zj2 x
def Zwf (x0:Int) (x1:Int):Option (Memo) := match Ztn (x0,x1,Memo.mk ([]:List Int) ([]:List (List Entry)),Memo.mk ([]:List Int) ([]:List (List Entry)),(0:Int)) with
 | some y1 => match ZtP (y1.fst,y1.snd.fst,y1.snd.snd,(0:Int)) with
  | some y2 => some (y2.snd)
  | none=>none
 | none=>none
def ZpE (x:Int×Int):Option (Memo):=Zwf x.1 x.2
def ZtK (x0:Memo) (x1:Int) (x2:Int):Option (Memo×Int) := bif decide (x1<(0:Int)) then some ((x0,(30:Int))) else bif decide (x1>=(↑x0.words.length:Int)) then some ((x0,(30:Int))) else bif fewB ((0:Nat)+x0.words.length) then bif decide ((0:Int)<=x1) then bif decide (x1<(↑x0.words.length:Int)) then some (({ x0 with words:=x0.words.set x1.toNat x2 },(0:Int))) else none else none else none
def Zcv (x:Memo×Int×Int):Option (Memo×Int):=ZtK x.1 x.2.1 x.2.2
def ZqU (x0:Config) (x1:Memo) (x2:Memo) (x3:Int):Option ((Config×Memo×Memo×Int)⊕((Memo×Memo))) := bif decide (x3<x0.items) then match Ze8 (x0,x3) with
 | some y1 => match Zcv (x2,y1,x0.init) with
  | some y2 => some (Sum.inl (x0,x1,y2.fst,Zaf IntKind.i64 (x3+(1:Int))))
  | none=>none
 | none=>none else some (Sum.inr (x1,x2))
def Zhx (x:Config×Memo×Memo×Int):Option ((Config×Memo×Memo×Int)⊕((Memo×Memo))):=ZqU x.1 x.2.1 x.2.2.1 x.2.2.2
def ZqW (x:Config×Memo×Memo×Int):Option ((Memo×Memo)):=Zav Zhx x
def Ztf (x0:Config):Option (Memo) := match ZfV x0 with
 | some y1 => match ZpE (y1,x0.threads) with
  | some y2 => match ZqW (x0,Memo.mk ([]:List Int) ([]:List (List Entry)),y2,(0:Int)) with
   | some y3 => some (y3.snd)
   | none=>none
  | none=>none
 | none=>none
def Znw (x:Config):Option (Memo):=Ztf x
def Zwv:Option (Thread) :=
 some (Thread.mk (0:Int) (0:Int) (Op.mk (0:Int) (0:Int)) ([]:List Entry) ([]:List Kid) ([]:List Int) (0:Int) (0:Int) (0:Int) (0:Int) (0:Int) (1:Int) (0:Int) (0:Int) (0:Int) (0:Int))
def Zps (x:Unit):Option (Thread):=Zwv
def ZtB (x0:Config) (x1:Wld) (x2:Wld) (x3:Int):Option ((Config×Wld×Wld×Int)⊕((Wld×Wld))) := bif decide (x3<x0.threads) then match Zps () with
 | some y1 => bif fewB (x2.t.length+(y1::([]:List Thread)).length) then some (Sum.inl (x0,x1,{ x2 with t:=x2.t++y1::([]:List Thread) },Zaf IntKind.i64 (x3+(1:Int)))) else none
 | none=>none else some (Sum.inr (x1,x2))
def ZjF (x:Config×Wld×Wld×Int):Option ((Config×Wld×Wld×Int)⊕((Wld×Wld))):=ZtB x.1 x.2.1 x.2.2.1 x.2.2.2
def ZtV (x:Config×Wld×Wld×Int):Option ((Wld×Wld)):=Zav ZjF x
def ZwU (x0:Config) (x1:List Int):Option (Wld×Int) := match Zem x0 with
 | some y1 => bif y1 != (0:Int) then some ((Wld.mk (Config.mk (0:Int) (0:Int) (0:Int) (0:Int) (0:Int) (0:Int) (0:Int) (0:Int) false (0:Int) (0:Int) (0:Int)) (Memo.mk ([]:List Int) ([]:List (List Entry))) ([]:List Thread) (0:Int) (0:Int) (Tape.mk ([]:List Int) (0:Int)) ([]:List Mark) ([]:List Event),y1)) else match Znw x0 with
  | some y2 => bif fewB ((0:Nat)+x1.length) then match ZtV (x0,Wld.mk (Config.mk (0:Int) (0:Int) (0:Int) (0:Int) (0:Int) (0:Int) (0:Int) (0:Int) false (0:Int) (0:Int) (0:Int)) (Memo.mk ([]:List Int) ([]:List (List Entry))) ([]:List Thread) (0:Int) (0:Int) (Tape.mk ([]:List Int) (0:Int)) ([]:List Mark) ([]:List Event),Wld.mk x0 y2 ([]:List Thread) (0:Int) (0:Int) (Tape.mk x1 (0:Int)) ([]:List Mark) ([]:List Event),(0:Int)) with
   | some y3 => some ((y3.snd,(0:Int)))
   | none=>none else none
  | none=>none
 | none=>none
def Zpp (x:Config×(List Int)):Option (Wld×Int):=ZwU x.1 x.2
def ZtW (x0:Config) (x1:SEntry):Option (Int) := bif decide (x1.kind<(1:Int)) then some ((90:Int)) else bif decide (x1.kind>(3:Int)) then some ((90:Int)) else bif x1.kind == (3:Int) then some ((0:Int)) else bif decide (x1.t<(0:Int)) then some ((91:Int)) else bif decide (x1.t>=x0.threads) then some ((91:Int)) else bif x1.kind == (2:Int) then some ((0:Int)) else bif decide (x1.item<(0:Int)) then some ((92:Int)) else bif decide (x1.item>=x0.items) then some ((92:Int)) else match Zmc (x1.op,x0.bounded) with
 | some y1 => bif !y1 then some ((93:Int)) else some ((0:Int))
 | none=>none
def Zj7 (x:Config×SEntry):Option (Int):=ZtW x.1 x.2
def Zux (x0:Thread):Option (Bool) :=
 some (x0.phase != (0:Int))
def ZhY (x:Thread):Option (Bool):=Zux x
def Zui (x0:Wld) (x1:Event):Option (Wld) := bif fewB ((0:Nat)+x0.hist.length) then bif fewB (x0.hist.length+({ x1 with step:=x0.steps }::([]:List Event)).length) then some ({ x0 with hist:=x0.hist++{ x1 with step:=x0.steps }::([]:List Event) }) else none else none
def Zh5 (x:Wld×Event):Option (Wld):=Zui x.1 x.2
def Zsp (x0:Wld) (x1:Int) (x2:Thread):Option (Wld) := bif fewB ((0:Nat)+x0.t.length) then bif decide ((0:Int)<=x1) then bif decide (x1<(↑x0.t.length:Int)) then some ({ x0 with t:=x0.t.set x1.toNat x2 }) else none else none else none
def Zix (x:Wld×Int×Thread):Option (Wld):=Zsp x.1 x.2.1 x.2.2
def ZrJ (x0:Int) (x1:Int) (x2:Int) (x3:Int):Option ((Int×Int×Int×Int)⊕((Int×Int))) := bif decide (x3<x0) then some (Sum.inl (x0,x1,Zaf IntKind.i64 ((2:Int)*x2),Zaf IntKind.i64 (x3+(1:Int)))) else some (Sum.inr (x1,x2))
def Ziz (x:Int×Int×Int×Int):Option ((Int×Int×Int×Int)⊕((Int×Int))):=ZrJ x.1 x.2.1 x.2.2.1 x.2.2.2
def ZrQ (x:Int×Int×Int×Int):Option ((Int×Int)):=Zav Ziz x
def Zuc (x0:Int) (x1:Int):Option (Int) := bif decide (x0<(1:Int)) then some ((0:Int)) else match ZrQ (x0,x1,(1:Int),(1:Int)) with
 | some y1 => bif decide (y1.snd=(0:Int)) then none else some (Zaf IntKind.i64 (y1.snd+(Zaf IntKind.i64 (Int.tdiv y1.fst (2:Int))).tmod y1.snd))
 | none=>none
def ZoH (x:Int×Int):Option (Int):=Zuc x.1 x.2
def ZtY (x0:Config) (x1:Int) (x2:Thread) (x3:Int) (x4:Op) (x5:Int):Option (Thread) := match ZoH (x0.depth,x1) with
 | some y1 => bif decide (x0.wait>(0:Int)) then some (Thread.mk (1:Int) x3 x4 (Entry.mk x1 x4::([]:List Entry)) ([]:List Kid) ([]:List Int) (0:Int) y1 (0:Int) (0:Int) (0:Int) x2.width (0:Int) (0:Int) (0:Int) (Zaf IntKind.i64 (x5+x0.wait))) else some (Thread.mk (1:Int) x3 x4 (Entry.mk x1 x4::([]:List Entry)) ([]:List Kid) ([]:List Int) (0:Int) y1 (0:Int) (0:Int) (0:Int) x2.width (0:Int) (0:Int) (0:Int) (0:Int))
 | none=>none
def Znu (x:Config×Int×Thread×Int×Op×Int):Option (Thread):=ZtY x.1 x.2.1 x.2.2.1 x.2.2.2.1 x.2.2.2.2.1 x.2.2.2.2.2
def ZtQ (x0:Turn):Option (Turn) := bif x0.c.backend == (2:Int) then bif decide (x0.c.depth>(0:Int)) then bif x0.c.backend == (3:Int) then bif decide (x0.c.layers>(0:Int)) then some ({ x0 with th:={ x0.th with phase:=(17:Int),layer:=(1:Int) } }) else some ({ x0 with th:={ x0.th with phase:=(4:Int) } }) else some ({ x0 with th:={ x0.th with phase:=(4:Int) } }) else bif x0.c.backend == (3:Int) then bif decide (x0.c.layers>(0:Int)) then some ({ x0 with th:={ x0.th with phase:=(17:Int),layer:=(1:Int) } }) else some ({ x0 with th:={ x0.th with phase:=(2:Int) } }) else some ({ x0 with th:={ x0.th with phase:=(2:Int) } }) else bif x0.c.backend == (3:Int) then bif decide (x0.c.layers>(0:Int)) then some ({ x0 with th:={ x0.th with phase:=(17:Int),layer:=(1:Int) } }) else some ({ x0 with th:={ x0.th with phase:=(2:Int) } }) else some ({ x0 with th:={ x0.th with phase:=(2:Int) } })
def Zny (x:Turn):Option (Turn):=ZtQ x
def Zua (x0:Memo) (x1:Int):Option (Int×Int) := bif decide (x1<(0:Int)) then some (((0:Int),(30:Int))) else bif decide (x1>=(↑x0.words.length:Int)) then some (((0:Int),(30:Int))) else bif decide ((0:Int)<=x1) then bif decide (x1<(↑x0.words.length:Int)) then some ((x0.words.getD x1.toNat (0:Int),(0:Int))) else none else none
def ZcJ (x:Memo×Int):Option (Int×Int):=Zua x.1 x.2
def ZvU:Option (Int) :=
 some ((5:Int))
def Zip (x:Unit):Option (Int):=ZvU
def Zsr (x0:Config) (x1:Int):Option (Int) := bif decide (x1<(0:Int)) then some ((-1:Int)) else bif decide (x1>=x0.threads) then some ((-1:Int)) else match ZdK x0 with
 | some y1 => some (Zaf IntKind.i64 (Zaf IntKind.i64 (Zaf IntKind.i64 (x0.items*y1)+Zaf IntKind.i64 ((2:Int)*x1))+(1:Int)))
 | none=>none
def ZiF (x:Config×Int):Option (Int):=Zsr x.1 x.2
def Zsh (x0:Turn):Option (Turn) := bif decide (x0.th.at_>=(0:Int)) then bif decide (x0.th.at_<(↑x0.th.kids.length:Int)) then some ({ x0 with th:={ x0.th with phase:=(15:Int) } }) else some ({ x0 with th:={ x0.th with phase:=(0:Int) },done:=true }) else some ({ x0 with th:={ x0.th with phase:=(0:Int) },done:=true })
def Zgm (x:Turn):Option (Turn):=Zsh x
def ZtR (x0:List Entry) (x1:Int) (x2:Int) (x3:Int) (x4:Int):Option (((List Entry)×Int×Int×Int×Int)⊕((Int))) := bif decide (x4<(↑x0.length:Int)) then bif decide ((0:Int)<=x4) then bif decide (x4<(↑x0.length:Int)) then match Zc7 ((x0.getD x4.toNat Zch).op,x1,x2,x3) with
 | some y1 => some (Sum.inl (x0,y1.fst,x2,x3,Zaf IntKind.i64 (x4+(1:Int))))
 | none=>none else none else none else some (Sum.inr x1)
def Zj0 (x:(List Entry)×Int×Int×Int×Int):Option (((List Entry)×Int×Int×Int×Int)⊕((Int))):=ZtR x.1 x.2.1 x.2.2.1 x.2.2.2.1 x.2.2.2.2
def Ztm (x:(List Entry)×Int×Int×Int×Int):Option ((Int)):=Zav Zj0 x
def Zwg (x0:List Entry) (x1:Int) (x2:Int) (x3:Int):Option (Int) := match Ztm (x0,x1,x2,x3,(0:Int)) with
 | some y1 => some (y1)
 | none=>none
def ZgT (x:(List Entry)×Int×Int×Int):Option (Int):=Zwg x.1 x.2.1 x.2.2.1 x.2.2.2
def Zse (x0:List Entry) (x1:Int) (x2:List Entry) (x3:Int):Option (((List Entry)×Int×(List Entry)×Int)⊕(((List Entry)))) := bif decide (x3<(↑x0.length:Int)) then bif decide (x3<x1) then bif decide ((0:Int)<=x3) then bif decide (x3<(↑x0.length:Int)) then bif fewB (x2.length+(x0.getD x3.toNat Zch::([]:List Entry)).length) then some (Sum.inl (x0,x1,x2++x0.getD x3.toNat Zch::([]:List Entry),Zaf IntKind.i64 (x3+(1:Int)))) else none else none else none else some (Sum.inr x2) else some (Sum.inr x2)
def ZiG (x:(List Entry)×Int×(List Entry)×Int):Option (((List Entry)×Int×(List Entry)×Int)⊕(((List Entry)))):=Zse x.1 x.2.1 x.2.2.1 x.2.2.2
def Zsk (x:(List Entry)×Int×(List Entry)×Int):Option (((List Entry))):=Zav ZiG x
def Zvu (x0:List Entry) (x1:Int):Option ((List Entry)) := match Zsk (x0,x1,([]:List Entry),(0:Int)) with
 | some y1 => some (y1)
 | none=>none
def ZkN (x:(List Entry)×Int):Option ((List Entry)):=Zvu x.1 x.2
def Zu5 (x0:Turn):Option (Turn) := bif decide ((0:Int)<=x0.th.at_) then bif decide (x0.th.at_<(↑x0.th.kids.length:Int)) then bif x0.th.phase == (15:Int) then match ZiF (x0.c,(x0.th.kids.getD x0.th.at_.toNat dKid).t) with
 | some y1 => match ZkN (x0.th.batch,(x0.th.kids.getD x0.th.at_.toNat dKid).ahead) with
  | some y2 => match ZgT (y2,x0.th.x,x0.c.lo,x0.c.hi) with
   | some y3 => match Zcv (x0.m,y1,y3) with
    | some y4 => bif y4.snd == (0:Int) then some ({ x0 with m:=y4.fst,th:={ x0.th with phase:=(16:Int) } }) else some (x0)
    | none=>none
   | none=>none
  | none=>none
 | none=>none else match Zdy (x0.c,(x0.th.kids.getD x0.th.at_.toNat dKid).t) with
 | some y1 => match Zip () with
  | some y2 => match Zcv (x0.m,y1,y2) with
   | some y3 => bif y3.snd != (0:Int) then some (x0) else match Zgm { x0 with m:=y3.fst,th:={ x0.th with at_:=Zaf IntKind.i64 (x0.th.at_+(1:Int)) } } with
     | some y4 => some (y4)
     | none=>none
   | none=>none
  | none=>none
 | none=>none else none else none
def ZkX (x:Turn):Option (Turn):=Zu5 x
def Zvi (x0:Turn):Option (Turn×Bool) := bif x0.th.phase == (13:Int) then match Zdy (x0.c,x0.t) with
 | some y1 => match ZcJ (x0.m,y1) with
  | some y2 => bif y2.snd == (0:Int) then match Zip () with
    | some y3 => bif y2.fst == y3 then some (({ x0 with th:={ x0.th with phase:=(14:Int) } },true)) else some ((x0,true))
    | none=>none else some ((x0,true))
  | none=>none
 | none=>none else bif x0.th.phase == (14:Int) then match ZiF (x0.c,x0.t) with
  | some y1 => match ZcJ (x0.m,y1) with
   | some y2 => bif y2.snd != (0:Int) then some ((x0,true)) else match Zgm { x0 with th:={ x0.th with at_:=(0:Int),x:=y2.fst } } with
     | some y3 => some ((y3,true))
     | none=>none
   | none=>none
  | none=>none else bif x0.th.phase == (15:Int) then bif x0.th.phase == (15:Int) then bif decide (x0.th.at_<(0:Int)) then some ((x0,true)) else bif decide (x0.th.at_>=(↑x0.th.kids.length:Int)) then some ((x0,true)) else match ZkX x0 with
      | some y1 => some ((y1,true))
      | none=>none else some ((x0,false)) else bif x0.th.phase == (16:Int) then bif decide (x0.th.at_<(0:Int)) then some ((x0,true)) else bif decide (x0.th.at_>=(↑x0.th.kids.length:Int)) then some ((x0,true)) else match ZkX x0 with
      | some y1 => some ((y1,true))
      | none=>none else some ((x0,false))
def Zoh (x:Turn):Option (Turn×Bool):=Zvi x
def ZpW (x0:List Entry) (x1:Int) (x2:Int) (x3:Int) (x4:List Int) (x5:Int):Option (((List Entry)×Int×Int×Int×(List Int)×Int)⊕(((List Int)))) := bif decide (x5<(↑x0.length:Int)) then match ZkN (x0,x5) with
 | some y1 => match ZgT (y1,x1,x2,x3) with
  | some y2 => bif fewB (x4.length+(y2::([]:List Int)).length) then some (Sum.inl (x0,x1,x2,x3,x4++y2::([]:List Int),Zaf IntKind.i64 (x5+(1:Int)))) else none
  | none=>none
 | none=>none else some (Sum.inr x4)
def Zhf (x:(List Entry)×Int×Int×Int×(List Int)×Int):Option (((List Entry)×Int×Int×Int×(List Int)×Int)⊕(((List Int)))):=ZpW x.1 x.2.1 x.2.2.1 x.2.2.2.1 x.2.2.2.2.1 x.2.2.2.2.2
def Zp4 (x:(List Entry)×Int×Int×Int×(List Int)×Int):Option (((List Int))):=Zav Zhf x
def Zr2 (x0:List Entry) (x1:Int) (x2:Int) (x3:Int):Option ((List Int)) := match Zp4 (x0,x1,x2,x3,([]:List Int),(0:Int)) with
 | some y1 => some (y1)
 | none=>none
def Zmu (x:(List Entry)×Int×Int×Int):Option ((List Int)):=Zr2 x.1 x.2.1 x.2.2.1 x.2.2.2
def Zp2 (x0:Int) (x1:Turn) (x2:Turn) (x3:List Int) (x4:List Mark) (x5:Int):Option ((Int×Turn×Turn×(List Int)×(List Mark)×Int)⊕((Int×Turn×Turn×(List Mark)))) := bif decide (x5<(↑x1.th.batch.length:Int)) then bif decide ((0:Int)<=x5) then bif decide (x5<(↑x1.th.batch.length:Int)) then bif decide ((0:Int)<=x5) then bif decide (x5<(↑x1.th.batch.length:Int)) then bif decide ((0:Int)<=x5) then bif decide (x5<(↑x3.length:Int)) then bif fewB (x4.length+(Mark.mk (x1.th.batch.getD x5.toNat Zch).t x1.th.item (x1.th.batch.getD x5.toNat Zch).op (x3.getD x5.toNat (0:Int)) (0:Int)::([]:List Mark)).length) then some (Sum.inl (x0,x1,x2,x3,x4++Mark.mk (x1.th.batch.getD x5.toNat Zch).t x1.th.item (x1.th.batch.getD x5.toNat Zch).op (x3.getD x5.toNat (0:Int)) (0:Int)::([]:List Mark),Zaf IntKind.i64 (x5+(1:Int)))) else none else none else none else none else none else none else none else some (Sum.inr (x0,x1,x2,x4))
def Zhe (x:Int×Turn×Turn×(List Int)×(List Mark)×Int):Option ((Int×Turn×Turn×(List Int)×(List Mark)×Int)⊕((Int×Turn×Turn×(List Mark)))):=Zp2 x.1 x.2.1 x.2.2.1 x.2.2.2.1 x.2.2.2.2.1 x.2.2.2.2.2
def Zp1 (x:Int×Turn×Turn×(List Int)×(List Mark)×Int):Option ((Int×Turn×Turn×(List Mark))):=Zav Zhe x
def Zr5 (x0:Turn) (x1:Int):Option (Turn) := match Zmu (x0.th.batch,x1,x0.c.lo,x0.c.hi) with
 | some y1 => bif fewB ((0:Nat)+x0.log.length) then match Zp1 (x1,x0,Turn.mk (Config.mk (0:Int) (0:Int) (0:Int) (0:Int) (0:Int) (0:Int) (0:Int) (0:Int) false (0:Int) (0:Int) (0:Int)) (0:Int) (0:Int) (Memo.mk ([]:List Int) ([]:List (List Entry))) (Thread.mk (0:Int) (0:Int) (Op.mk (0:Int) (0:Int)) ([]:List Entry) ([]:List Kid) ([]:List Int) (0:Int) (0:Int) (0:Int) (0:Int) (0:Int) (0:Int) (0:Int) (0:Int) (0:Int) (0:Int)) (Tape.mk ([]:List Int) (0:Int)) ([]:List Mark) false,y1,x0.log,(0:Int)) with
  | some y2 => match Zgm { y2.snd.fst with th:={ y2.snd.fst.th with at_:=(0:Int),x:=y2.fst },log:=y2.snd.snd.snd } with
   | some y3 => some (y3)
   | none=>none
  | none=>none else none
 | none=>none
def Ze2 (x:Turn×Int):Option (Turn):=Zr5 x.1 x.2
def Zvp (x0:Turn):Option (Bool) := bif decide (x0.th.until_>(0:Int)) then some (decide (x0.now>=x0.th.until_)) else some (false)
def Zhw (x:Turn):Option (Bool):=Zvp x
def Zsm (x0:Turn):Option (Turn) := bif decide (x0.th.layer<x0.c.layers) then match Zhw x0 with
 | some y1 => bif !y1 then some ({ x0 with th:={ x0.th with phase:=(17:Int),layer:=Zaf IntKind.i64 (x0.th.layer+(1:Int)) } }) else some ({ x0 with th:={ x0.th with phase:=(2:Int) } })
 | none=>none else some ({ x0 with th:={ x0.th with phase:=(2:Int) } })
def Zgk (x:Turn):Option (Turn):=Zsm x
def Zwb (x0:Memo) (x1:Int) (x2:Int) (x3:Int):Option (Memo×Bool×Int) := match ZcJ (x0,x1) with
 | some y1 => bif y1.snd != (0:Int) then some ((x0,false,y1.snd)) else bif y1.fst != x2 then some ((x0,false,y1.snd)) else match Zcv (x0,x1,x3) with
  | some y2 => some ((y2.fst,true,(0:Int)))
  | none=>none
 | none=>none
def ZeH (x:Memo×Int×Int×Int):Option (Memo×Bool×Int):=Zwb x.1 x.2.1 x.2.2.1 x.2.2.2
def Ztx (x0:Int) (x1:Int):Option (Int) := bif decide (x0>x1) then some (x1) else some (if x1<Zaf IntKind.i64 ((2:Int)*x0) then x1 else Zaf IntKind.i64 ((2:Int)*x0))
def Zka (x:Int×Int):Option (Int):=Ztx x.1 x.2
def Zud (x0:Turn):Option (Turn×Bool) := match Ze8 (x0.c,x0.th.item) with
 | some y1 => bif x0.th.phase == (2:Int) then bif x0.th.phase == (2:Int) then match ZcJ (x0.m,y1) with
  | some y2 => bif y2.snd != (0:Int) then some ((x0,true)) else match ZgT (x0.th.batch,y2.fst,x0.c.lo,x0.c.hi) with
    | some y3 => bif y3 == y2.fst then match Ze2 (x0,y2.fst) with
     | some y4 => some ((y4,true))
     | none=>none else bif x0.th.phase == (25:Int) then match Zgk x0 with
      | some y4 => some ((y4,true))
      | none=>none else some (({ x0 with th:={ x0.th with phase:=(3:Int),x:=y2.fst,y:=y3 } },true))
    | none=>none
  | none=>none else bif x0.th.phase == (3:Int) then match ZeH (x0.m,y1,x0.th.x,x0.th.y) with
   | some y2 => bif y2.snd.snd != (0:Int) then some ((x0,true)) else bif y2.snd.fst then match Ze2 ({ x0 with m:=y2.fst },x0.th.x) with
     | some y3 => some ((y3,true))
     | none=>none else match Zka (x0.th.width,x0.c.width) with
     | some y3 => some (({ x0 with m:=y2.fst,th:={ x0.th with phase:=(2:Int),width:=y3 } },true))
     | none=>none
   | none=>none else some ((x0,false)) else bif x0.th.phase == (25:Int) then match ZcJ (x0.m,y1) with
  | some y2 => bif y2.snd != (0:Int) then some ((x0,true)) else match ZgT (x0.th.batch,y2.fst,x0.c.lo,x0.c.hi) with
    | some y3 => bif y3 == y2.fst then match Ze2 (x0,y2.fst) with
     | some y4 => some ((y4,true))
     | none=>none else bif x0.th.phase == (25:Int) then match Zgk x0 with
      | some y4 => some ((y4,true))
      | none=>none else some (({ x0 with th:={ x0.th with phase:=(3:Int),x:=y2.fst,y:=y3 } },true))
    | none=>none
  | none=>none else bif x0.th.phase == (3:Int) then match ZeH (x0.m,y1,x0.th.x,x0.th.y) with
   | some y2 => bif y2.snd.snd != (0:Int) then some ((x0,true)) else bif y2.snd.fst then match Ze2 ({ x0 with m:=y2.fst },x0.th.x) with
     | some y3 => some ((y3,true))
     | none=>none else match Zka (x0.th.width,x0.c.width) with
     | some y3 => some (({ x0 with m:=y2.fst,th:={ x0.th with phase:=(2:Int),width:=y3 } },true))
     | none=>none
   | none=>none else some ((x0,false))
 | none=>none
def ZoF (x:Turn):Option (Turn×Bool):=Zud x
def ZtN (x0:Int):Option (Int) :=
 some (Zaf IntKind.i64 (Zaf IntKind.i64 ((8:Int)*Zaf IntKind.i64 (x0+(1:Int)))+(1:Int)))
def Zfs (x:Int):Option (Int):=ZtN x
def Zsc (x0:Int):Option (Int) :=
 some (Zaf IntKind.i64 (Zaf IntKind.i64 ((8:Int)*Zaf IntKind.i64 (x0+(1:Int)))+(2:Int)))
def Zi1 (x:Int):Option (Int):=Zsc x
def Zpk (x0:Int):Option (Int) :=
 some (Zaf IntKind.i64 (Zaf IntKind.i64 ((8:Int)*Zaf IntKind.i64 (x0+(1:Int)))+(3:Int)))
def ZgA (x:Int):Option (Int):=Zpk x
def ZvT (x0:Int) (x1:Int):Option (Int) :=
 some (Zaf IntKind.i64 (Zaf IntKind.i64 ((8:Int)*Zaf IntKind.i64 (Zaf IntKind.i64 (Zaf IntKind.i64 ((16:Int)*x0)+x1)+(1:Int)))+(4:Int)))
def ZfQ (x:Int×Int):Option (Int):=ZvT x.1 x.2
def ZqI (x0:Int) (x1:Int) (x2:Int):Option ((Int×Int×Int)⊕((Int×Int)⊕(Int))) := bif decide (x2<=(3:Int)) then match ZfQ (x1,x2) with
 | some y1 => bif x0 == y1 then some (Sum.inr (Sum.inr (4:Int))) else some (Sum.inl (x0,x1,Zaf IntKind.i64 (x2+(1:Int))))
 | none=>none else some (Sum.inr (Sum.inl (x0,x1)))
def Zh7 (x:Int×Int×Int):Option ((Int×Int×Int)⊕((Int×Int)⊕(Int))):=ZqI x.1 x.2.1 x.2.2
def Zrz (x:Int×Int×Int):Option ((Int×Int)⊕(Int)):=Zav Zh7 x
def ZqM (x0:Int) (x1:Int):Option ((Int×Int)⊕((Unit)⊕(Int))) := bif decide (x1<(4:Int)) then match Zrz (x0,x1,(1:Int)) with
 | some (.inl y1) => some (Sum.inl (y1.fst,Zaf IntKind.i64 (y1.snd+(1:Int))))
 | some (.inr y2) => some (Sum.inr (Sum.inr y2))
 | none=>none else some (Sum.inr (Sum.inl ()))
def ZhX (x:Int×Int):Option ((Int×Int)⊕((Unit)⊕(Int))):=ZqM x.1 x.2
def Zq1 (x:Int×Int):Option ((Unit)⊕(Int)):=Zav ZhX x
def Zsu (x0:Int) (x1:Int):Option ((Int×Int)⊕((Int)⊕(Int))) := bif decide (x1<(16:Int)) then match Zfs x1 with
 | some y1 => bif x0 == y1 then some (Sum.inr (Sum.inr (1:Int))) else match Zi1 x1 with
  | some y2 => bif x0 == y2 then some (Sum.inr (Sum.inr (2:Int))) else match ZgA x1 with
   | some y3 => bif x0 == y3 then some (Sum.inr (Sum.inr (3:Int))) else some (Sum.inl (x0,Zaf IntKind.i64 (x1+(1:Int))))
   | none=>none
  | none=>none
 | none=>none else some (Sum.inr (Sum.inl x0))
def Zi3 (x:Int×Int):Option ((Int×Int)⊕((Int)⊕(Int))):=Zsu x.1 x.2
def ZrP (x:Int×Int):Option ((Int)⊕(Int)):=Zav Zi3 x
def Zu9 (x0:Int):Option (Int) := bif x0 == (0:Int) then some ((0:Int)) else match Zip () with
 | some y1 => bif x0 == y1 then some ((5:Int)) else match ZrP (x0,(0:Int)) with
  | some (.inl y2) => match Zq1 (y2,(0:Int)) with
   | some (.inl y3) => some ((-1:Int))
   | some (.inr y4) => some (y4)
   | none=>none
  | some (.inr y3) => some (y3)
  | none=>none
 | none=>none
def ZfY (x:Int):Option (Int):=Zu9 x
def ZuV (x0:Turn):Option (Turn) := bif decide (x0.th.at_>=(0:Int)) then bif decide (x0.th.at_<(↑x0.th.held.length:Int)) then some ({ x0 with th:={ x0.th with phase:=(7:Int) } }) else bif decide (x0.th.stop>(0:Int)) then some ({ x0 with th:={ x0.th with phase:=(11:Int) } }) else some ({ x0 with th:={ x0.th with phase:=(2:Int) } }) else bif decide (x0.th.stop>(0:Int)) then some ({ x0 with th:={ x0.th with phase:=(11:Int) } }) else some ({ x0 with th:={ x0.th with phase:=(2:Int) } })
def Zlk (x:Turn):Option (Turn):=ZuV x
def Zue (x0:Turn):Option (Turn) := match Zlk { x0 with th:={ x0.th with at_:=(0:Int) } } with
 | some y1 => some (y1)
 | none=>none
def ZhC (x:Turn):Option (Turn):=Zue x
def Zsd (x0:Int):Option (Int) := bif decide (x0<(2:Int)) then some ((0:Int)) else some (Zaf IntKind.i64 (x0.tdiv (2:Int)))
def ZmE (x:Int):Option (Int):=Zsd x
def Zuf (x0:Turn):Option (Turn×Bool) := match Zf7 (x0.c,x0.th.item,x0.th.node) with
 | some y1 => bif x0.th.phase == (4:Int) then match ZcJ (x0.m,y1) with
  | some y2 => bif y2.snd != (0:Int) then some ((x0,true)) else match ZfY y2.fst with
    | some y3 => bif y3 == (0:Int) then some (({ x0 with th:={ x0.th with phase:=(5:Int) } },true)) else match ZfY y2.fst with
      | some y4 => bif y4 == (1:Int) then some (({ x0 with th:={ x0.th with phase:=(6:Int),x:=y2.fst } },true)) else match Zhw x0 with
       | some y5 => bif y5 then match ZhC x0 with
         | some y6 => some ((y6,true))
         | none=>none else some ((x0,true))
       | none=>none
      | none=>none
    | none=>none
  | none=>none else bif x0.th.phase == (5:Int) then match Zfs x0.t with
   | some y2 => match ZeH (x0.m,y1,(0:Int),y2) with
    | some y3 => bif y3.snd.snd != (0:Int) then some ((x0,true)) else bif !y3.snd.fst then some (({ x0 with th:={ x0.th with phase:=(4:Int) } },true)) else bif fewB ((0:Nat)+x0.th.held.length) then bif fewB (x0.th.held.length+(x0.th.node::([]:List Int)).length) then match ZmE x0.th.node with
        | some y4 => bif y4 == (0:Int) then match ZhC { x0 with m:=y3.fst,th:={ x0.th with phase:=(4:Int),held:=x0.th.held++x0.th.node::([]:List Int),node:=y4 } } with
          | some y5 => some ((y5,true))
          | none=>none else some (({ x0 with m:=y3.fst,th:={ x0.th with phase:=(4:Int),held:=x0.th.held++x0.th.node::([]:List Int),node:=y4 } },true))
        | none=>none else none else none
    | none=>none
   | none=>none else bif x0.th.phase == (6:Int) then match Zi1 x0.t with
    | some y2 => match ZeH (x0.m,y1,x0.th.x,y2) with
     | some y3 => bif y3.snd.snd != (0:Int) then some ((x0,true)) else bif !y3.snd.fst then some (({ x0 with th:={ x0.th with phase:=(4:Int) } },true)) else match ZhC { x0 with m:=y3.fst,th:={ x0.th with phase:=(4:Int),stop:=x0.th.node } } with
       | some y4 => some ((y4,true))
       | none=>none
     | none=>none
    | none=>none else some ((x0,false))
 | none=>none
def ZkJ (x:Turn):Option (Turn×Bool):=Zuf x
def Zvx (x0:Turn):Option (Int) := bif decide (x0.th.at_<(0:Int)) then some ((-1:Int)) else bif decide (x0.th.at_>=(↑x0.th.held.length:Int)) then some ((-1:Int)) else bif decide ((0:Int)<=x0.th.at_) then bif decide (x0.th.at_<(↑x0.th.held.length:Int)) then match Zf7 (x0.c,x0.th.item,x0.th.held.getD x0.th.at_.toNat (0:Int)) with
 | some y1 => some (y1)
 | none=>none else none else none
def Zob (x:Turn):Option (Int):=Zvx x
def ZwH (x0:Int):Option (Int) := match ZfY x0 with
 | some y1 => bif decide (y1<(1:Int)) then some ((-1:Int)) else bif decide (y1>(3:Int)) then some ((-1:Int)) else some (Zaf IntKind.i64 (Zaf IntKind.i64 (x0.tdiv (8:Int))-(1:Int)))
 | none=>none
def ZpI (x:Int):Option (Int):=ZwH x
def Zul (x0:Turn):Option (Turn) := match Zlk { x0 with th:={ x0.th with at_:=Zaf IntKind.i64 (x0.th.at_+(1:Int)) } } with
 | some y1 => some (y1)
 | none=>none
def ZkM (x:Turn):Option (Turn):=Zul x
def ZwE (x0:Memo) (x1:Int):Option ((List Entry)×Int) := bif decide (x1<(0:Int)) then some ((([]:List Entry),(30:Int))) else bif decide (x1>=(↑x0.boxes.length:Int)) then some ((([]:List Entry),(30:Int))) else bif decide ((0:Int)<=x1) then bif decide (x1<(↑x0.boxes.length:Int)) then bif fewB ((0:Nat)+List.length (x0.boxes.getD x1.toNat ([]:List Entry))) then some ((x0.boxes.getD x1.toNat ([]:List Entry),(0:Int))) else none else none else none
def Zl7 (x:Memo×Int):Option ((List Entry)×Int):=ZwE x.1 x.2
def Zr0 (x0:List (List Entry)) (x1:List Entry) (x2:Int):Option (((List (List Entry))×(List Entry)×Int)⊕(((List Entry)))) := bif decide (x2<(↑x0.length:Int)) then bif decide ((0:Int)<=x2) then bif decide (x2<(↑x0.length:Int)) then bif fewB (x1.length+List.length (x0.getD x2.toNat ([]:List Entry))) then some (Sum.inl (x0,x1++x0.getD x2.toNat ([]:List Entry),Zaf IntKind.i64 (x2+(1:Int)))) else none else none else none else some (Sum.inr x1)
def ZiD (x:(List (List Entry))×(List Entry)×Int):Option (((List (List Entry))×(List Entry)×Int)⊕(((List Entry)))):=Zr0 x.1 x.2.1 x.2.2
def Zsf (x:(List (List Entry))×(List Entry)×Int):Option (((List Entry))):=Zav ZiD x
def ZuP (x0:List (List Entry)):Option ((List Entry)) := match Zsf (x0,([]:List Entry),(0:Int)) with
 | some y1 => some (y1)
 | none=>none
def Zox (x:(List (List Entry))):Option ((List Entry)):=ZuP x
def Zug (x0:Turn) (x1:Int) (x2:List Entry):Option (Turn) := bif fewB ((0:Nat)+x0.th.kids.length) then bif fewB (x0.th.kids.length+(Kid.mk x1 (↑x0.th.batch.length:Int)::([]:List Kid)).length) then match Zox (x0.th.batch::x2::([]:List (List Entry))) with
 | some y1 => some ({ x0 with th:={ x0.th with batch:=y1,kids:=x0.th.kids++Kid.mk x1 (↑x0.th.batch.length:Int)::([]:List Kid) } })
 | none=>none else none else none
def Zlr (x:Turn×Int×(List Entry)):Option (Turn):=Zug x.1 x.2.1 x.2.2
def ZwC (x0:Memo) (x1:Int) (x2:List Entry):Option (Memo×Int) := bif decide (x1<(0:Int)) then some ((x0,(30:Int))) else bif decide (x1>=(↑x0.boxes.length:Int)) then some ((x0,(30:Int))) else bif fewB ((0:Nat)+x0.boxes.length) then bif fewB ((0:Nat)+x2.length) then bif decide ((0:Int)<=x1) then bif decide (x1<(↑x0.boxes.length:Int)) then some (({ x0 with boxes:=x0.boxes.set x1.toNat x2 },(0:Int))) else none else none else none else none
def Zmi (x:Memo×Int×(List Entry)):Option (Memo×Int):=ZwC x.1 x.2.1 x.2.2
def ZvE (x0:Turn):Option (Turn×Bool) := match Zob x0 with
 | some y1 => bif x0.th.phase == (7:Int) then match ZcJ (x0.m,y1) with
  | some y2 => bif y2.snd != (0:Int) then some ((x0,true)) else match Zfs x0.t with
    | some y3 => bif y2.fst == y3 then some (({ x0 with th:={ x0.th with phase:=(8:Int) } },true)) else match ZfY y2.fst with
      | some y4 => bif y4 == (3:Int) then match ZpI y2.fst with
        | some y5 => some (({ x0 with th:={ x0.th with phase:=(9:Int),who:=y5 } },true))
        | none=>none else some ((x0,true))
      | none=>none
    | none=>none
  | none=>none else bif x0.th.phase == (8:Int) then match Zfs x0.t with
   | some y2 => match ZeH (x0.m,y1,y2,(0:Int)) with
    | some y3 => bif y3.snd.snd != (0:Int) then some ((x0,true)) else bif y3.snd.fst then match ZkM { x0 with m:=y3.fst } with
       | some y4 => some ((y4,true))
       | none=>none else some (({ x0 with m:=y3.fst,th:={ x0.th with phase:=(7:Int) } },true))
    | none=>none
   | none=>none else bif x0.th.phase == (9:Int) then match Zl7 (x0.m,x0.th.who) with
    | some y2 => bif y2.snd != (0:Int) then some ((x0,true)) else match Zlr (x0,x0.th.who,y2.fst) with
      | some y3 => some (({ y3 with th:={ y3.th with phase:=(10:Int) } },true))
      | none=>none
    | none=>none else bif x0.th.phase == (10:Int) then match Zcv (x0.m,y1,(0:Int)) with
     | some y2 => bif y2.snd != (0:Int) then some ((x0,true)) else match ZkM { x0 with m:=y2.fst } with
       | some y3 => some ((y3,true))
       | none=>none
     | none=>none else bif x0.th.phase == (11:Int) then match Zmi (x0.m,x0.t,x0.th.batch) with
      | some y2 => bif y2.snd != (0:Int) then some ((x0,true)) else some (({ x0 with m:=y2.fst,th:={ x0.th with phase:=(12:Int) } },true))
      | none=>none else bif x0.th.phase == (12:Int) then match Zf7 (x0.c,x0.th.item,x0.th.stop) with
       | some y2 => match ZgA x0.t with
        | some y3 => match Zcv (x0.m,y2,y3) with
         | some y4 => bif y4.snd != (0:Int) then some ((x0,true)) else some (({ x0 with m:=y4.fst,th:={ x0.th with phase:=(13:Int) } },true))
         | none=>none
        | none=>none
       | none=>none else some ((x0,false))
 | none=>none
def ZfZ (x:Turn):Option (Turn×Bool):=ZvE x
def Zr8 (x0:Turn) (x1:Int):Option (Turn) := match Zdy (x0.c,x0.t) with
 | some y1 => match ZfQ (x0.th.item,x0.th.layer) with
  | some y2 => match Zcv (x0.m,y1,y2) with
   | some y3 => bif y3.snd != (0:Int) then some (x0) else bif x1 == (23:Int) then some ({ x0 with m:=y3.fst,th:={ x0.th with phase:=x1,left:=x0.c.spin } }) else some ({ x0 with m:=y3.fst,th:={ x0.th with phase:=x1 } })
   | none=>none
  | none=>none
 | none=>none
def ZiZ (x:Turn×Int):Option (Turn):=Zr8 x.1 x.2
def Zt9 (x0:Tape):Option (Int×Tape) := bif decide (x0.at_<(0:Int)) then some (((0:Int),x0)) else bif decide (x0.at_>=(↑x0.l.length:Int)) then some (((0:Int),x0)) else bif decide ((0:Int)<=x0.at_) then bif decide (x0.at_<(↑x0.l.length:Int)) then some ((x0.l.getD x0.at_.toNat (0:Int),{ x0 with at_:=Zaf IntKind.i64 (x0.at_+(1:Int)) })) else none else none
def Zoa (x:Tape):Option (Int×Tape):=Zt9 x
def Ztq (x0:Tape) (x1:Int):Option (Int×Tape) := bif decide (x1<(1:Int)) then some (((0:Int),x0)) else match Zoa x0 with
 | some y1 => bif decide (x1=(0:Int)) then none else bif decide (Int.tmod y1.fst x1<(0:Int)) then some ((Zaf IntKind.i64 (Int.tmod y1.fst x1+x1),y1.snd)) else some ((Int.tmod y1.fst x1,y1.snd))
 | none=>none
def ZnD (x:Tape×Int):Option (Int×Tape):=Ztq x.1 x.2
def ZuF (x0:Memo) (x1:Int) (x2:Int):Option (Memo×Int×Int) := match ZcJ (x0,x1) with
 | some y1 => match Zcv (x0,x1,x2) with
  | some y2 => some ((y2.fst,y1))
  | none=>none
 | none=>none
def ZoK (x:Memo×Int×Int):Option (Memo×Int×Int):=ZuF x.1 x.2.1 x.2.2
def Zv0 (x0:Config) (x1:Int) (x2:Int) (x3:Int):Option (Int) := bif decide (x1<(0:Int)) then some ((-1:Int)) else bif decide (x1>=x0.items) then some ((-1:Int)) else bif decide (x2<(1:Int)) then some ((-1:Int)) else bif decide (x2>x0.layers) then some ((-1:Int)) else bif decide (x3<(0:Int)) then some ((-1:Int)) else bif decide (x3>=x0.width) then some ((-1:Int)) else match ZdK x0 with
 | some y1 => match Zfk x0 with
  | some y2 => some (Zaf IntKind.i64 (Zaf IntKind.i64 (Zaf IntKind.i64 (Zaf IntKind.i64 (Zaf IntKind.i64 (x1*y1)+(1:Int))+y2)+Zaf IntKind.i64 (Zaf IntKind.i64 (x2-(1:Int))*x0.width))+x3))
  | none=>none
 | none=>none
def Zop (x:Config×Int×Int×Int):Option (Int):=Zv0 x.1 x.2.1 x.2.2.1 x.2.2.2
def ZvP (x0:Turn):Option (Turn) := match ZnD (x0.tape,x0.th.width) with
 | some y1 => match Zop (x0.c,x0.th.item,x0.th.layer,y1.fst) with
  | some y2 => match ZoK (x0.m,y2,Zaf IntKind.i64 (x0.t+(1:Int))) with
   | some y3 => bif y3.snd.snd != (0:Int) then some (x0) else bif decide (y3.snd.fst>=(1:Int)) then bif decide (y3.snd.fst<=x0.c.threads) then bif y3.snd.fst != Zaf IntKind.i64 (x0.t+(1:Int)) then some ({ x0 with m:=y3.fst,th:={ x0.th with phase:=(20:Int),who:=Zaf IntKind.i64 (y3.snd.fst-(1:Int)) },tape:=y1.snd }) else some ({ x0 with m:=y3.fst,th:={ x0.th with phase:=(23:Int),left:=x0.c.spin },tape:=y1.snd }) else some ({ x0 with m:=y3.fst,th:={ x0.th with phase:=(23:Int),left:=x0.c.spin },tape:=y1.snd }) else some ({ x0 with m:=y3.fst,th:={ x0.th with phase:=(23:Int),left:=x0.c.spin },tape:=y1.snd })
   | none=>none
  | none=>none
 | none=>none
def Zoi (x:Turn):Option (Turn):=ZvP x
def Zqd (x0:Turn) (x1:Int) (x2:Int) (x3:Int):Option (Turn) := match Zdy (x0.c,x1) with
 | some y1 => match ZfQ (x0.th.item,x0.th.layer) with
  | some y2 => match ZeH (x0.m,y1,y2,(0:Int)) with
   | some y3 => bif y3.snd.snd != (0:Int) then some (x0) else bif y3.snd.fst then some ({ x0 with m:=y3.fst,th:={ x0.th with phase:=x2 } }) else some ({ x0 with m:=y3.fst,th:={ x0.th with phase:=x3 } })
   | none=>none
  | none=>none
 | none=>none
def Zfb (x:Turn×Int×Int×Int):Option (Turn):=Zqd x.1 x.2.1 x.2.2.1 x.2.2.2
def Zvf (x0:Turn):Option (Turn) := match Zdy (x0.c,x0.t) with
 | some y1 => match ZcJ (x0.m,y1) with
  | some y2 => bif y2.snd != (0:Int) then some (x0) else match ZfQ (x0.th.item,x0.th.layer) with
   | some y3 => bif y2.fst != y3 then some ({ x0 with th:={ x0.th with phase:=(13:Int) } }) else bif decide (x0.th.left<(1:Int)) then some ({ x0 with th:={ x0.th with phase:=(26:Int) } }) else match Zhw x0 with
    | some y4 => bif y4 then some ({ x0 with th:={ x0.th with phase:=(26:Int) } }) else some ({ x0 with th:={ x0.th with left:=Zaf IntKind.i64 (x0.th.left-(1:Int)) } })
    | none=>none
   | none=>none
  | none=>none
 | none=>none
def Zn2 (x:Turn):Option (Turn):=Zvf x
def Zuh (x0:Int):Option (Int) := bif decide (x0<(0:Int)) then some ((-1:Int)) else some (Zaf IntKind.i64 (x0.tdiv (2:Int)))
def Zou (x:Int):Option (Int):=Zuh x
def Zuk (x0:Turn):Option (Turn×Bool) := bif x0.th.phase == (17:Int) then match Zmi (x0.m,x0.t,x0.th.batch) with
 | some y1 => bif y1.snd == (0:Int) then some (({ x0 with m:=y1.fst,th:={ x0.th with phase:=(18:Int) } },true)) else some ((x0,true))
 | none=>none else bif x0.th.phase == (18:Int) then match ZiZ (x0,(19:Int)) with
  | some y1 => some ((y1,true))
  | none=>none else bif x0.th.phase == (19:Int) then match Zoi x0 with
   | some y1 => some ((y1,true))
   | none=>none else bif x0.th.phase == (20:Int) then match Zfb (x0,x0.t,(21:Int),(13:Int)) with
    | some y1 => some ((y1,true))
    | none=>none else bif x0.th.phase == (21:Int) then match Zfb (x0,x0.th.who,(22:Int),(24:Int)) with
     | some y1 => some ((y1,true))
     | none=>none else bif x0.th.phase == (22:Int) then match Zl7 (x0.m,x0.th.who) with
      | some y1 => bif y1.snd == (0:Int) then match Zlr (x0,x0.th.who,y1.fst) with
        | some y2 => some (({ y2 with th:={ y2.th with phase:=(25:Int) } },true))
        | none=>none else some ((x0,true))
      | none=>none else bif x0.th.phase == (23:Int) then match Zn2 x0 with
       | some y1 => some ((y1,true))
       | none=>none else bif x0.th.phase == (24:Int) then match ZiZ (x0,(23:Int)) with
        | some y1 => some ((y1,true))
        | none=>none else bif x0.th.phase == (26:Int) then match Zfb (x0,x0.t,(2:Int),(13:Int)) with
         | some y1 => bif y1.th.phase == (2:Int) then match Zou y1.th.width with
          | some y2 => match Zgk { y1 with th:={ y1.th with width:=if y2>(1:Int) then y2 else (1:Int) } } with
           | some y3 => some ((y3,true))
           | none=>none
          | none=>none else some ((y1,true))
         | none=>none else some ((x0,false))
def Zc5 (x:Turn):Option (Turn×Bool):=Zuk x
def ZuC (x0:Turn):Option (Turn) := bif x0.th.phase == (0:Int) then some (x0) else bif x0.th.phase == (1:Int) then match Zdy (x0.c,x0.t) with
 | some y1 => match Zcv (x0.m,y1,(0:Int)) with
  | some y2 => bif y2.snd != (0:Int) then some ({ x0 with log:=([]:List Mark),done:=false }) else match Zny { x0 with m:=y2.fst,log:=([]:List Mark),done:=false } with
    | some y3 => some (y3)
    | none=>none
  | none=>none
 | none=>none else match Zoh { x0 with log:=([]:List Mark),done:=false } with
 | some y1 => bif !y1.snd then match ZoF { x0 with log:=([]:List Mark),done:=false } with
   | some y2 => bif !y2.snd then match ZkJ { x0 with log:=([]:List Mark),done:=false } with
     | some y3 => bif !y3.snd then match ZfZ { x0 with log:=([]:List Mark),done:=false } with
       | some y4 => bif !y4.snd then match Zc5 { x0 with log:=([]:List Mark),done:=false } with
         | some y5 => some (y5.fst)
         | none=>none else some (y4.fst)
       | none=>none else bif !y3.snd then match Zc5 { x0 with log:=([]:List Mark),done:=false } with
        | some y4 => some (y4.fst)
        | none=>none else some (y3.fst)
     | none=>none else bif !y2.snd then match ZfZ { x0 with log:=([]:List Mark),done:=false } with
      | some y3 => bif !y3.snd then match Zc5 { x0 with log:=([]:List Mark),done:=false } with
        | some y4 => some (y4.fst)
        | none=>none else some (y3.fst)
      | none=>none else bif !y2.snd then match Zc5 { x0 with log:=([]:List Mark),done:=false } with
       | some y3 => some (y3.fst)
       | none=>none else some (y2.fst)
   | none=>none else bif !y1.snd then match ZkJ { x0 with log:=([]:List Mark),done:=false } with
    | some y2 => bif !y2.snd then match ZfZ { x0 with log:=([]:List Mark),done:=false } with
      | some y3 => bif !y3.snd then match Zc5 { x0 with log:=([]:List Mark),done:=false } with
        | some y4 => some (y4.fst)
        | none=>none else some (y3.fst)
      | none=>none else bif !y2.snd then match Zc5 { x0 with log:=([]:List Mark),done:=false } with
       | some y3 => some (y3.fst)
       | none=>none else some (y2.fst)
    | none=>none else bif !y1.snd then match ZfZ { x0 with log:=([]:List Mark),done:=false } with
     | some y2 => bif !y2.snd then match Zc5 { x0 with log:=([]:List Mark),done:=false } with
       | some y3 => some (y3.fst)
       | none=>none else some (y2.fst)
     | none=>none else bif !y1.snd then match Zc5 { x0 with log:=([]:List Mark),done:=false } with
      | some y2 => some (y2.fst)
      | none=>none else some (y1.fst)
 | none=>none
def Zoj (x:Turn):Option (Turn):=ZuC x
def ZrV (x0:Int) (x1:Wld) (x2:Wld) (x3:Turn) (x4:List Mark) (x5:Int):Option ((Int×Wld×Wld×Turn×(List Mark)×Int)⊕((Int×Wld×Wld×Turn×(List Mark)))) := bif decide (x5<(↑x3.log.length:Int)) then bif decide ((0:Int)<=x5) then bif decide (x5<(↑x3.log.length:Int)) then bif fewB (x4.length+({ x3.log.getD x5.toNat ZaU with step:=x1.steps }::([]:List Mark)).length) then some (Sum.inl (x0,x1,x2,x3,x4++{ x3.log.getD x5.toNat ZaU with step:=x1.steps }::([]:List Mark),Zaf IntKind.i64 (x5+(1:Int)))) else none else none else none else some (Sum.inr (x0,x1,x2,x3,x4))
def ZiL (x:Int×Wld×Wld×Turn×(List Mark)×Int):Option ((Int×Wld×Wld×Turn×(List Mark)×Int)⊕((Int×Wld×Wld×Turn×(List Mark)))):=ZrV x.1 x.2.1 x.2.2.1 x.2.2.2.1 x.2.2.2.2.1 x.2.2.2.2.2
def Zr9 (x:Int×Wld×Wld×Turn×(List Mark)×Int):Option ((Int×Wld×Wld×Turn×(List Mark))):=Zav ZiL x
def ZuQ (x0:Wld) (x1:Int):Option (Wld) := bif decide ((0:Int)<=x1) then bif decide (x1<(↑x0.t.length:Int)) then match Zoj (Turn.mk x0.c x1 x0.now x0.m (x0.t.getD x1.toNat Zay) x0.tape ([]:List Mark) false) with
 | some y1 => match Zix ({ x0 with steps:=Zaf IntKind.i64 (x0.steps+(1:Int)) },x1,y1.th) with
  | some y2 => bif fewB ((0:Nat)+y2.log.length) then match Zr9 (x1,{ y2 with m:=y1.m,tape:=y1.tape },Wld.mk (Config.mk (0:Int) (0:Int) (0:Int) (0:Int) (0:Int) (0:Int) (0:Int) (0:Int) false (0:Int) (0:Int) (0:Int)) (Memo.mk ([]:List Int) ([]:List (List Entry))) ([]:List Thread) (0:Int) (0:Int) (Tape.mk ([]:List Int) (0:Int)) ([]:List Mark) ([]:List Event),y1,y2.log,(0:Int)) with
   | some y3 => bif !y3.snd.snd.snd.fst.done then some ({ y3.snd.fst with log:=y3.snd.snd.snd.snd }) else match Zc7 (y3.snd.snd.snd.fst.th.op,y3.snd.snd.snd.fst.th.x,y3.snd.fst.c.lo,y3.snd.fst.c.hi) with
    | some y4 => match Zh5 ({ y3.snd.fst with log:=y3.snd.snd.snd.snd },Event.mk (2:Int) y3.fst y3.snd.snd.snd.fst.th.item y3.snd.snd.snd.fst.th.op y3.snd.snd.snd.fst.th.x y4.snd (0:Int)) with
     | some y5 => some (y5)
     | none=>none
    | none=>none
   | none=>none else none
  | none=>none
 | none=>none else none else none
def ZoE (x:Wld×Int):Option (Wld):=ZuQ x.1 x.2
def Zv1 (x0:Wld) (x1:SEntry):Option (Wld×Int) := match Zj7 (x0.c,x1) with
 | some y1 => bif y1 != (0:Int) then some ((x0,y1)) else bif x1.kind == (3:Int) then some (({ x0 with now:=Zaf IntKind.i64 (x0.now+(1:Int)) },(0:Int))) else bif decide ((0:Int)<=x1.t) then bif decide (x1.t<(↑x0.t.length:Int)) then bif x1.kind == (1:Int) then match ZhY (x0.t.getD x1.t.toNat Zay) with
  | some y2 => bif y2 then match Zh5 (x0,Event.mk (3:Int) x1.t x1.item x1.op (0:Int) false (0:Int)) with
   | some y3 => some ((y3,(170:Int)))
   | none=>none else match Znu (x0.c,x1.t,x0.t.getD x1.t.toNat Zay,x1.item,x1.op,x0.now) with
   | some y3 => match Zix (x0,x1.t,y3) with
    | some y4 => match Zh5 (y4,Event.mk (1:Int) x1.t x1.item x1.op (0:Int) false (0:Int)) with
     | some y5 => some ((y5,(0:Int)))
     | none=>none
    | none=>none
   | none=>none
  | none=>none else match ZhY (x0.t.getD x1.t.toNat Zay) with
  | some y2 => bif !y2 then some ((x0,(0:Int))) else match ZoE (x0,x1.t) with
   | some y3 => some ((y3,(0:Int)))
   | none=>none
  | none=>none else none else none
 | none=>none
def Zn0 (x:Wld×SEntry):Option (Wld×Int):=Zv1 x.1 x.2
def Zty (x0:List SEntry) (x1:Config) (x2:Int):Option (((List SEntry)×Config×Int)⊕((Unit)⊕(Int×Int))) := bif decide (x2<(↑x0.length:Int)) then bif decide ((0:Int)<=x2) then bif decide (x2<(↑x0.length:Int)) then match Zj7 (x1,x0.getD x2.toNat Zbc) with
 | some y1 => bif y1 != (0:Int) then some (Sum.inr (Sum.inr (x2,y1))) else some (Sum.inl (x0,x1,Zaf IntKind.i64 (x2+(1:Int))))
 | none=>none else none else none else some (Sum.inr (Sum.inl ()))
def ZjT (x:(List SEntry)×Config×Int):Option (((List SEntry)×Config×Int)⊕((Unit)⊕(Int×Int))):=Zty x.1 x.2.1 x.2.2
def ZtO (x:(List SEntry)×Config×Int):Option ((Unit)⊕(Int×Int)):=Zav ZjT x
def ZwY (x0:Config) (x1:List SEntry):Option (Int×Int) := match Zem x0 with
 | some y1 => bif y1 != (0:Int) then some (((0:Int),y1)) else bif decide ((↑x1.length:Int)>(65536:Int)) then some (((0:Int),(2:Int))) else match ZtO (x1,x0,(0:Int)) with
  | some (.inl y2) => some (((0:Int),(0:Int)))
  | some (.inr y3) => some (y3)
  | none=>none
 | none=>none
def Zpl (x:Config×(List SEntry)):Option (Int×Int):=ZwY x.1 x.2
def ZtS (x0:List SEntry) (x1:Wld) (x2:Wld) (x3:Int):Option (((List SEntry)×Wld×Wld×Int)⊕((Wld×Wld))) := bif decide (x3<(↑x0.length:Int)) then bif decide ((0:Int)<=x3) then bif decide (x3<(↑x0.length:Int)) then match Zn0 (x2,x0.getD x3.toNat Zbc) with
 | some y1 => some (Sum.inl (x0,x1,y1.fst,Zaf IntKind.i64 (x3+(1:Int))))
 | none=>none else none else none else some (Sum.inr (x1,x2))
def ZjY (x:(List SEntry)×Wld×Wld×Int):Option (((List SEntry)×Wld×Wld×Int)⊕((Wld×Wld))):=ZtS x.1 x.2.1 x.2.2.1 x.2.2.2
def Zth (x:(List SEntry)×Wld×Wld×Int):Option ((Wld×Wld)):=Zav ZjY x
def ZwS (x0:Config) (x1:List SEntry) (x2:List Int):Option (Wld×Int×Int) := match Zpl (x0,x1) with
 | some y1 => bif y1.snd != (0:Int) then some ((Wld.mk (Config.mk (0:Int) (0:Int) (0:Int) (0:Int) (0:Int) (0:Int) (0:Int) (0:Int) false (0:Int) (0:Int) (0:Int)) (Memo.mk ([]:List Int) ([]:List (List Entry))) ([]:List Thread) (0:Int) (0:Int) (Tape.mk ([]:List Int) (0:Int)) ([]:List Mark) ([]:List Event),y1)) else match Zpp (x0,x2) with
  | some y2 => match Zth (x1,Wld.mk (Config.mk (0:Int) (0:Int) (0:Int) (0:Int) (0:Int) (0:Int) (0:Int) (0:Int) false (0:Int) (0:Int) (0:Int)) (Memo.mk ([]:List Int) ([]:List (List Entry))) ([]:List Thread) (0:Int) (0:Int) (Tape.mk ([]:List Int) (0:Int)) ([]:List Mark) ([]:List Event),y2.fst,(0:Int)) with
   | some y3 => some ((y3.snd,(0:Int),(0:Int)))
   | none=>none
  | none=>none
 | none=>none
def Zv6 (x:Config×(List SEntry)×(List Int)):Option (Wld×Int×Int):=ZwS x.1 x.2.1 x.2.2
def ZqO (x0:List SEntry) (x1:List SEntry) (x2:Int):Option (((List SEntry)×(List SEntry)×Int)⊕(((List SEntry)))) := bif decide (x2<(↑x0.length:Int)) then bif decide ((0:Int)<=x2) then bif decide (x2<(↑x0.length:Int)) then bif decide ((0:Int)<=x2) then bif decide (x2<(↑x0.length:Int)) then bif decide ((0:Int)<=x2) then bif decide (x2<(↑x0.length:Int)) then bif decide ((0:Int)<=x2) then bif decide (x2<(↑x0.length:Int)) then bif fewB (x1.length+(x0.getD x2.toNat Zbc::([]:List SEntry)).length) then some (Sum.inl (x0,x1++x0.getD x2.toNat Zbc::([]:List SEntry),Zaf IntKind.i64 (x2+(1:Int)))) else none else none else none else none else none else none else none else none else none else some (Sum.inr x1)
def ZhK (x:(List SEntry)×(List SEntry)×Int):Option (((List SEntry)×(List SEntry)×Int)⊕(((List SEntry)))):=ZqO x.1 x.2.1 x.2.2
def ZqC (x:(List SEntry)×(List SEntry)×Int):Option (((List SEntry))):=Zav ZhK x
def Ztg (x0:List SEntry):Option ((List SEntry)) := match ZqC (x0,([]:List SEntry),(0:Int)) with
 | some y1 => some (y1)
 | none=>none
def ZtG (x:(List SEntry)):Option ((List SEntry)):=Ztg x
def Zg6 (x0:List Event) (x1:List Event) (x2:Int):Option (((List Event)×(List Event)×Int)⊕((Unit)⊕(Bool))) := bif decide (x2<(↑x0.length:Int)) then bif decide ((0:Int)<=x2) then bif decide (x2<(↑x0.length:Int)) then bif decide ((0:Int)<=x2) then bif decide (x2<(↑x1.length:Int)) then bif !((x0.getD x2.toNat Za0).kind == (x1.getD x2.toNat Za0).kind && ((x0.getD x2.toNat Za0).t == (x1.getD x2.toNat Za0).t && ((x0.getD x2.toNat Za0).item == (x1.getD x2.toNat Za0).item && ((x0.getD x2.toNat Za0).op.tag == (x1.getD x2.toNat Za0).op.tag && ((x0.getD x2.toNat Za0).op.v == (x1.getD x2.toNat Za0).op.v && true) && ((x0.getD x2.toNat Za0).prior == (x1.getD x2.toNat Za0).prior && ((x0.getD x2.toNat Za0).did == (x1.getD x2.toNat Za0).did && ((x0.getD x2.toNat Za0).step == (x1.getD x2.toNat Za0).step && true))))))) then some (Sum.inr (Sum.inr false)) else some (Sum.inl (x0,x1,Zaf IntKind.i64 (x2+(1:Int)))) else none else none else none else none else some (Sum.inr (Sum.inl ()))
def Zei (x:(List Event)×(List Event)×Int):Option (((List Event)×(List Event)×Int)⊕((Unit)⊕(Bool))):=Zg6 x.1 x.2.1 x.2.2
def Zlt (x:(List Event)×(List Event)×Int):Option ((Unit)⊕(Bool)):=Zav Zei x
def ZiX (x0:List Event) (x1:List Event):Option (Bool) := bif (↑x0.length:Int) != (↑x1.length:Int) then some (false) else match Zlt (x0,x1,(0:Int)) with
 | some (.inl y1) => some (true)
 | some (.inr y2) => some (y2)
 | none=>none
def ZiA (x:(List Event)×(List Event)):Option (Bool):=ZiX x.1 x.2
def ZiV (x0:Wld) (x1:Wld) (x2:Int):Option ((Wld×Wld×Int)⊕((Unit)⊕(Bool))) := bif decide (x2<(↑x0.t.length:Int)) then bif decide ((0:Int)<=x2) then bif decide (x2<(↑x0.t.length:Int)) then bif decide ((0:Int)<=x2) then bif decide (x2<(↑x1.t.length:Int)) then match ZhQ (x0.t.getD x2.toNat Zay,x1.t.getD x2.toNat Zay) with
 | some y1 => bif !y1 then some (Sum.inr (Sum.inr false)) else some (Sum.inl (x0,x1,Zaf IntKind.i64 (x2+(1:Int))))
 | none=>none else none else none else none else none else some (Sum.inr (Sum.inl ()))
def ZeU (x:Wld×Wld×Int):Option ((Wld×Wld×Int)⊕((Unit)⊕(Bool))):=ZiV x.1 x.2.1 x.2.2
def Zmr (x:Wld×Wld×Int):Option ((Unit)⊕(Bool)):=Zav ZeU x
def Zls (x0:Wld) (x1:Wld):Option (Bool) := bif !(x0.c.threads == x1.c.threads && (x0.c.items == x1.c.items && (x0.c.backend == x1.c.backend && (x0.c.depth == x1.c.depth && (x0.c.layers == x1.c.layers && (x0.c.width == x1.c.width && (x0.c.spin == x1.c.spin && (x0.c.wait == x1.c.wait && (x0.c.bounded == x1.c.bounded && (x0.c.lo == x1.c.lo && (x0.c.hi == x1.c.hi && (x0.c.init == x1.c.init && true)))))))))))) then some (false) else bif x0.now != x1.now then some (false) else bif x0.steps != x1.steps then some (false) else bif (↑x0.t.length:Int) != (↑x1.t.length:Int) then some (false) else match ZhV (x0.m,x1.m) with
 | some y1 => bif !y1 then some (false) else match Zih (x0.tape,x1.tape) with
  | some y2 => bif !y2 then some (false) else match ZgZ (x0.log,x1.log) with
   | some y3 => bif !y3 then some (false) else match ZiA (x0.hist,x1.hist) with
    | some y4 => bif !y4 then some (false) else match Zmr (x0,x1,(0:Int)) with
     | some (.inl y5) => some (true)
     | some (.inr y6) => some (y6)
     | none=>none
    | none=>none
   | none=>none
  | none=>none
 | none=>none
def ZkE (x:Wld×Wld):Option (Bool):=Zls x.1 x.2
def Zgv (x0:List Entry) (x1:List Entry) (x2:Int):Option (((List Entry)×(List Entry)×Int)⊕(((List Entry)))) := bif decide (x2<(↑x0.length:Int)) then bif decide ((0:Int)<=x2) then bif decide (x2<(↑x0.length:Int)) then bif decide ((0:Int)<=x2) then bif decide (x2<(↑x0.length:Int)) then bif fewB (x1.length+(x0.getD x2.toNat Zch::([]:List Entry)).length) then some (Sum.inl (x0,x1++x0.getD x2.toNat Zch::([]:List Entry),Zaf IntKind.i64 (x2+(1:Int)))) else none else none else none else none else none else some (Sum.inr x1)
def ZdR (x:(List Entry)×(List Entry)×Int):Option (((List Entry)×(List Entry)×Int)⊕(((List Entry)))):=Zgv x.1 x.2.1 x.2.2
def Zkf (x:(List Entry)×(List Entry)×Int):Option (((List Entry))):=Zav ZdR x
def ZfK (x0:List Entry):Option ((List Entry)) := match Zkf (x0,([]:List Entry),(0:Int)) with
 | some y1 => some (y1)
 | none=>none
def ZeD (x:(List Entry)):Option ((List Entry)):=ZfK x
def Zg2 (x0:Memo) (x1:Memo) (x2:Memo) (x3:Int):Option ((Memo×Memo×Memo×Int)⊕((Memo×Memo))) := bif decide (x3<(↑x0.boxes.length:Int)) then bif decide ((0:Int)<=x3) then bif decide (x3<(↑x0.boxes.length:Int)) then match ZeD (x0.boxes.getD x3.toNat ([]:List Entry)) with
 | some y1 => bif fewB (x2.boxes.length+(y1::([]:List (List Entry))).length) then some (Sum.inl (x0,x1,{ x2 with boxes:=x2.boxes++y1::([]:List (List Entry)) },Zaf IntKind.i64 (x3+(1:Int)))) else none
 | none=>none else none else none else some (Sum.inr (x1,x2))
def Zef (x:Memo×Memo×Memo×Int):Option ((Memo×Memo×Memo×Int)⊕((Memo×Memo))):=Zg2 x.1 x.2.1 x.2.2.1 x.2.2.2
def ZkD (x:Memo×Memo×Memo×Int):Option ((Memo×Memo)):=Zav Zef x
def Zjc (x0:Memo):Option (Memo) := match ZkD (x0,Memo.mk ([]:List Int) ([]:List (List Entry)),{ x0 with boxes:=([]:List (List Entry)) },(0:Int)) with
 | some y1 => some (y1.snd)
 | none=>none
def ZiK (x:Memo):Option (Memo):=Zjc x
def Zht (x0:List Mark) (x1:List Mark) (x2:Int):Option (((List Mark)×(List Mark)×Int)⊕(((List Mark)))) := bif decide (x2<(↑x0.length:Int)) then bif decide ((0:Int)<=x2) then bif decide (x2<(↑x0.length:Int)) then bif decide ((0:Int)<=x2) then bif decide (x2<(↑x0.length:Int)) then bif decide ((0:Int)<=x2) then bif decide (x2<(↑x0.length:Int)) then bif decide ((0:Int)<=x2) then bif decide (x2<(↑x0.length:Int)) then bif decide ((0:Int)<=x2) then bif decide (x2<(↑x0.length:Int)) then bif fewB (x1.length+(x0.getD x2.toNat ZaU::([]:List Mark)).length) then some (Sum.inl (x0,x1++x0.getD x2.toNat ZaU::([]:List Mark),Zaf IntKind.i64 (x2+(1:Int)))) else none else none else none else none else none else none else none else none else none else none else none else some (Sum.inr x1)
def ZeB (x:(List Mark)×(List Mark)×Int):Option (((List Mark)×(List Mark)×Int)⊕(((List Mark)))):=Zht x.1 x.2.1 x.2.2
def ZlI (x:(List Mark)×(List Mark)×Int):Option (((List Mark))):=Zav ZeB x
def ZjN (x0:List Mark):Option ((List Mark)) := match ZlI (x0,([]:List Mark),(0:Int)) with
 | some y1 => some (y1)
 | none=>none
def ZjR (x:(List Mark)):Option ((List Mark)):=ZjN x
def ZhN (x0:Thread) (x1:Thread) (x2:Thread) (x3:Int):Option ((Thread×Thread×Thread×Int)⊕((Thread×Thread))) := bif decide (x3<(↑x0.kids.length:Int)) then bif decide ((0:Int)<=x3) then bif decide (x3<(↑x0.kids.length:Int)) then bif fewB (x2.kids.length+(x0.kids.getD x3.toNat dKid::([]:List Kid)).length) then some (Sum.inl (x0,x1,{ x2 with kids:=x2.kids++x0.kids.getD x3.toNat dKid::([]:List Kid) },Zaf IntKind.i64 (x3+(1:Int)))) else none else none else none else some (Sum.inr (x1,x2))
def ZeA (x:Thread×Thread×Thread×Int):Option ((Thread×Thread×Thread×Int)⊕((Thread×Thread))):=ZhN x.1 x.2.1 x.2.2.1 x.2.2.2
def ZlX (x:Thread×Thread×Thread×Int):Option ((Thread×Thread)):=Zav ZeA x
def ZjO (x0:Thread):Option (Thread) := match ZeD x0.batch with
 | some y1 => match ZlX (x0,Thread.mk (0:Int) (0:Int) (Op.mk (0:Int) (0:Int)) ([]:List Entry) ([]:List Kid) ([]:List Int) (0:Int) (0:Int) (0:Int) (0:Int) (0:Int) (0:Int) (0:Int) (0:Int) (0:Int) (0:Int),{ x0 with batch:=y1,kids:=([]:List Kid) },(0:Int)) with
  | some y2 => some (y2.snd)
  | none=>none
 | none=>none
def ZjV (x:Thread):Option (Thread):=ZjO x
def Zg4 (x0:Wld) (x1:Wld) (x2:Wld) (x3:Int):Option ((Wld×Wld×Wld×Int)⊕((Wld×Wld))) := bif decide (x3<(↑x0.hist.length:Int)) then bif decide ((0:Int)<=x3) then bif decide (x3<(↑x0.hist.length:Int)) then bif fewB (x2.hist.length+(x0.hist.getD x3.toNat Za0::([]:List Event)).length) then some (Sum.inl (x0,x1,{ x2 with hist:=x2.hist++x0.hist.getD x3.toNat Za0::([]:List Event) },Zaf IntKind.i64 (x3+(1:Int)))) else none else none else none else some (Sum.inr (x1,x2))
def Zd3 (x:Wld×Wld×Wld×Int):Option ((Wld×Wld×Wld×Int)⊕((Wld×Wld))):=Zg4 x.1 x.2.1 x.2.2.1 x.2.2.2
def Zle (x:Wld×Wld×Wld×Int):Option ((Wld×Wld)):=Zav Zd3 x
def Zha (x0:Wld) (x1:Wld) (x2:Wld) (x3:Int):Option ((Wld×Wld×Wld×Int)⊕((Wld×Wld×Wld))) := bif decide (x3<(↑x0.t.length:Int)) then bif decide ((0:Int)<=x3) then bif decide (x3<(↑x0.t.length:Int)) then match ZjV (x0.t.getD x3.toNat Zay) with
 | some y1 => bif fewB (x2.t.length+(y1::([]:List Thread)).length) then some (Sum.inl (x0,x1,{ x2 with t:=x2.t++y1::([]:List Thread) },Zaf IntKind.i64 (x3+(1:Int)))) else none
 | none=>none else none else none else some (Sum.inr (x0,x1,x2))
def Zee (x:Wld×Wld×Wld×Int):Option ((Wld×Wld×Wld×Int)⊕((Wld×Wld×Wld))):=Zha x.1 x.2.1 x.2.2.1 x.2.2.2
def Zlf (x:Wld×Wld×Wld×Int):Option ((Wld×Wld×Wld)):=Zav Zee x
def Zjb (x0:Wld):Option (Wld) := match ZiK x0.m with
 | some y1 => match ZjR x0.log with
  | some y2 => match Zlf (x0,Wld.mk (Config.mk (0:Int) (0:Int) (0:Int) (0:Int) (0:Int) (0:Int) (0:Int) (0:Int) false (0:Int) (0:Int) (0:Int)) (Memo.mk ([]:List Int) ([]:List (List Entry))) ([]:List Thread) (0:Int) (0:Int) (Tape.mk ([]:List Int) (0:Int)) ([]:List Mark) ([]:List Event),{ x0 with m:=y1,t:=([]:List Thread),log:=y2,hist:=([]:List Event) },(0:Int)) with
   | some y3 => match Zle (y3.fst,y3.snd.fst,y3.snd.snd,(0:Int)) with
    | some y4 => some (y4.snd)
    | none=>none
   | none=>none
  | none=>none
 | none=>none
def Zgh (x:Wld):Option (Wld):=Zjb x
def ZrS (x0:Int) (x1:List Thread) (x2:Int) (x3:Int):Option ((Int×(List Thread)×Int×Int)⊕((Int))) := bif decide (x3<x2) then bif decide ((0:Int)<=x3) then bif decide (x3<(↑x1.length:Int)) then match Zby (x1.getD x3.toNat Zay) with
 | some y1 => bif y1 then some (Sum.inl (Zaf IntKind.i64 (x0+(1:Int)),x1,x2,Zaf IntKind.i64 (x3+(1:Int)))) else some (Sum.inl (x0,x1,x2,Zaf IntKind.i64 (x3+(1:Int))))
 | none=>none else none else none else some (Sum.inr x0)
def Zja (x:Int×(List Thread)×Int×Int):Option ((Int×(List Thread)×Int×Int)⊕((Int))):=ZrS x.1 x.2.1 x.2.2.1 x.2.2.2
def Zsi (x:Int×(List Thread)×Int×Int):Option ((Int)):=Zav Zja x
def Zvn (x0:Wld):Option (Int) := match Zsi ((0:Int),x0.t,(↑x0.t.length:Int),(0:Int)) with
 | some y1 => some (y1)
 | none=>none
def ZvJ (x:Wld):Option (Int):=Zvn x
def ZrX (x0:Wld) (x1:Int) (x2:Int):Option ((Wld×Int×Int)⊕((Int))) := bif decide (x2<(↑x0.t.length:Int)) then bif decide ((0:Int)<=x2) then bif decide (x2<(↑x0.t.length:Int)) then match ZhY (x0.t.getD x2.toNat Zay) with
 | some y1 => bif y1 then some (Sum.inl (x0,Zaf IntKind.i64 (x1+(1:Int)),Zaf IntKind.i64 (x2+(1:Int)))) else some (Sum.inl (x0,x1,Zaf IntKind.i64 (x2+(1:Int))))
 | none=>none else none else none else some (Sum.inr x1)
def Zi8 (x:Wld×Int×Int):Option ((Wld×Int×Int)⊕((Int))):=ZrX x.1 x.2.1 x.2.2
def Zsa (x:Wld×Int×Int):Option ((Int)):=Zav Zi8 x
def Zvd (x0:Wld):Option (Int) := match Zsa (x0,(0:Int),(0:Int)) with
 | some y1 => some (y1)
 | none=>none
def Zu3 (x:Wld):Option (Int):=Zvd x
def Zrn (x0:Config) (x1:Wld) (x2:Config) (x3:Int) (x4:Int) (x5:Int):Option ((Config×Wld×Config×Int×Int×Int)⊕((Config×Wld×Config×Int×Int)⊕(Bool))) := bif decide (x5<(↑x1.log.length:Int)) then bif decide ((0:Int)<=x5) then bif decide (x5<(↑x1.log.length:Int)) then bif (x1.log.getD x5.toNat ZaU).item != x3 then some (Sum.inl (x0,x1,x2,x3,x4,Zaf IntKind.i64 (x5+(1:Int)))) else bif (x1.log.getD x5.toNat ZaU).prior != x4 then some (Sum.inr (Sum.inr false)) else bif decide (x5>(0:Int)) then bif decide ((0:Int)<=Zaf IntKind.i64 (x5-(1:Int))) then bif decide (Zaf IntKind.i64 (x5-(1:Int))<(↑x1.log.length:Int)) then bif decide ((x1.log.getD x5.toNat ZaU).step<(x1.log.getD (Zaf IntKind.i64 (x5-(1:Int))).toNat ZaU).step) then some (Sum.inr (Sum.inr false)) else match Zc7 ((x1.log.getD x5.toNat ZaU).op,x4,x0.lo,x0.hi) with
  | some y1 => bif x0.bounded then bif decide (y1.fst<x0.lo) then some (Sum.inr (Sum.inr false)) else bif decide (y1.fst>x0.hi) then some (Sum.inr (Sum.inr false)) else some (Sum.inl (x0,x1,x2,x3,y1.fst,Zaf IntKind.i64 (x5+(1:Int)))) else some (Sum.inl (x0,x1,x2,x3,y1.fst,Zaf IntKind.i64 (x5+(1:Int))))
  | none=>none else none else none else match Zc7 ((x1.log.getD x5.toNat ZaU).op,x4,x0.lo,x0.hi) with
 | some y1 => bif x0.bounded then bif decide (y1.fst<x0.lo) then some (Sum.inr (Sum.inr false)) else bif decide (y1.fst>x0.hi) then some (Sum.inr (Sum.inr false)) else some (Sum.inl (x0,x1,x2,x3,y1.fst,Zaf IntKind.i64 (x5+(1:Int)))) else some (Sum.inl (x0,x1,x2,x3,y1.fst,Zaf IntKind.i64 (x5+(1:Int))))
 | none=>none else none else none else some (Sum.inr (Sum.inl (x0,x1,x2,x3,x4)))
def Zie (x:Config×Wld×Config×Int×Int×Int):Option ((Config×Wld×Config×Int×Int×Int)⊕((Config×Wld×Config×Int×Int)⊕(Bool))):=Zrn x.1 x.2.1 x.2.2.1 x.2.2.2.1 x.2.2.2.2.1 x.2.2.2.2.2
def Zrv (x:Config×Wld×Config×Int×Int×Int):Option ((Config×Wld×Config×Int×Int)⊕(Bool)):=Zav Zie x
def ZqN (x0:Config) (x1:Wld) (x2:Config) (x3:Int):Option ((Config×Wld×Config×Int)⊕((Unit)⊕(Bool))) := bif decide (x3<x0.items) then match Zrv (x0,x1,x2,x3,x0.init,(0:Int)) with
 | some (.inl y1) => match Ze8 (y1.snd.snd.fst,y1.snd.snd.snd.fst) with
  | some y2 => bif decide ((0:Int)<=y2) then bif decide (y2<(↑y1.snd.fst.m.words.length:Int)) then bif y1.snd.fst.m.words.getD (Int.toNat y2) (0:Int) != y1.snd.snd.snd.snd then some (Sum.inr (Sum.inr false)) else some (Sum.inl (y1.fst,y1.snd.fst,y1.snd.snd.fst,Zaf IntKind.i64 (y1.snd.snd.snd.fst+(1:Int)))) else none else none
  | none=>none
 | some (.inr y2) => some (Sum.inr (Sum.inr y2))
 | none=>none else some (Sum.inr (Sum.inl ()))
def Zik (x:Config×Wld×Config×Int):Option ((Config×Wld×Config×Int)⊕((Unit)⊕(Bool))):=ZqN x.1 x.2.1 x.2.2.1 x.2.2.2
def Zq3 (x:Config×Wld×Config×Int):Option ((Unit)⊕(Bool)):=Zav Zik x
def ZtM (x0:Config) (x1:Wld):Option (Bool) := match ZfV x0 with
 | some y1 => bif (↑x1.m.words.length:Int) != y1 then some (false) else bif decide ((↑x1.log.length:Int)>(1000:Int)) then some (false) else match Zq3 (x0,x1,x0,(0:Int)) with
  | some (.inl y2) => some (true)
  | some (.inr y3) => some (y3)
  | none=>none
 | none=>none
def ZtE (x:Config×Wld):Option (Bool):=ZtM x.1 x.2
def Zoo (x0:Config) (x1:Wld) (x2:Int) (x3:List Mark) (x4:Int) (x5:Bool) (x6:Event) (x7:Int):Option ((Config×Wld×Int×(List Mark)×Int×Bool×Event×Int)⊕((Config×Wld×Int×(List Mark)×Int×Bool×Event)⊕(Bool))) := bif decide (x7<(↑x1.hist.length:Int)) then bif decide ((0:Int)<=x7) then bif decide (x7<(↑x1.hist.length:Int)) then bif (x1.hist.getD x7.toNat Za0).t != x2 then some (Sum.inl (x0,x1,x2,x3,x4,x5,x6,Zaf IntKind.i64 (x7+(1:Int)))) else bif (x1.hist.getD x7.toNat Za0).kind == (3:Int) then some (Sum.inl (x0,x1,x2,x3,x4,x5,x6,Zaf IntKind.i64 (x7+(1:Int)))) else bif ((x1.hist.getD x7.toNat Za0).kind == (1:Int)) == x5 then some (Sum.inr (Sum.inr false)) else bif (x1.hist.getD x7.toNat Za0).kind == (1:Int) then some (Sum.inl (x0,x1,x2,x3,x4,true,x1.hist.getD x7.toNat Za0,Zaf IntKind.i64 (x7+(1:Int)))) else match Zc7 ((x1.hist.getD x7.toNat Za0).op,(x1.hist.getD x7.toNat Za0).prior,x0.lo,x0.hi) with
 | some y1 => bif decide (x4>=(↑x3.length:Int)) then some (Sum.inr (Sum.inr false)) else bif decide ((0:Int)<=x4) then bif decide (x4<(↑x3.length:Int)) then bif !((x3.getD x4.toNat ZaU).op.tag == (x1.hist.getD x7.toNat Za0).op.tag && ((x3.getD x4.toNat ZaU).op.v == (x1.hist.getD x7.toNat Za0).op.v && true)) then some (Sum.inr (Sum.inr false)) else bif decide ((0:Int)<=x4) then bif decide (x4<(↑x3.length:Int)) then bif (x3.getD x4.toNat ZaU).item != (x1.hist.getD x7.toNat Za0).item then some (Sum.inr (Sum.inr false)) else bif decide ((0:Int)<=x4) then bif decide (x4<(↑x3.length:Int)) then bif (x3.getD x4.toNat ZaU).prior != (x1.hist.getD x7.toNat Za0).prior then some (Sum.inr (Sum.inr false)) else bif !(x1.hist.getD x7.toNat Za0).did == y1.snd then some (Sum.inr (Sum.inr false)) else bif !(x6.op.tag == (x1.hist.getD x7.toNat Za0).op.tag && (x6.op.v == (x1.hist.getD x7.toNat Za0).op.v && true)) then some (Sum.inr (Sum.inr false)) else bif x6.item != (x1.hist.getD x7.toNat Za0).item then some (Sum.inr (Sum.inr false)) else bif decide ((0:Int)<=x4) then bif decide (x4<(↑x3.length:Int)) then bif decide ((x3.getD x4.toNat ZaU).step<=x6.step) then some (Sum.inr (Sum.inr false)) else bif decide ((0:Int)<=x4) then bif decide (x4<(↑x3.length:Int)) then bif decide ((x3.getD x4.toNat ZaU).step>(x1.hist.getD x7.toNat Za0).step) then some (Sum.inr (Sum.inr false)) else some (Sum.inl (x0,x1,x2,x3,Zaf IntKind.i64 (x4+(1:Int)),false,x6,Zaf IntKind.i64 (x7+(1:Int)))) else none else none else none else none else none else none else none else none else none else none
 | none=>none else none else none else some (Sum.inr (Sum.inl (x0,x1,x2,x3,x4,x5,x6)))
def Zf1 (x:Config×Wld×Int×(List Mark)×Int×Bool×Event×Int):Option ((Config×Wld×Int×(List Mark)×Int×Bool×Event×Int)⊕((Config×Wld×Int×(List Mark)×Int×Bool×Event)⊕(Bool))):=Zoo x.1 x.2.1 x.2.2.1 x.2.2.2.1 x.2.2.2.2.1 x.2.2.2.2.2.1 x.2.2.2.2.2.2.1 x.2.2.2.2.2.2.2
def ZoB (x:Config×Wld×Int×(List Mark)×Int×Bool×Event×Int):Option ((Config×Wld×Int×(List Mark)×Int×Bool×Event)⊕(Bool)):=Zav Zf1 x
def Zpc (x0:Config) (x1:Wld) (x2:Int) (x3:List Mark) (x4:Int):Option ((Config×Wld×Int×(List Mark)×Int)⊕((Config×Wld×Int×(List Mark)))) := bif decide (x4<(↑x1.log.length:Int)) then bif decide ((0:Int)<=x4) then bif decide (x4<(↑x1.log.length:Int)) then bif (x1.log.getD x4.toNat ZaU).t == x2 then bif decide ((0:Int)<=x4) then bif decide (x4<(↑x1.log.length:Int)) then bif fewB (x3.length+(x1.log.getD x4.toNat ZaU::([]:List Mark)).length) then some (Sum.inl (x0,x1,x2,x3++x1.log.getD x4.toNat ZaU::([]:List Mark),Zaf IntKind.i64 (x4+(1:Int)))) else none else none else none else some (Sum.inl (x0,x1,x2,x3,Zaf IntKind.i64 (x4+(1:Int)))) else none else none else some (Sum.inr (x0,x1,x2,x3))
def Zgw (x:Config×Wld×Int×(List Mark)×Int):Option ((Config×Wld×Int×(List Mark)×Int)⊕((Config×Wld×Int×(List Mark)))):=Zpc x.1 x.2.1 x.2.2.1 x.2.2.2.1 x.2.2.2.2
def Zpe (x:Config×Wld×Int×(List Mark)×Int):Option ((Config×Wld×Int×(List Mark))):=Zav Zgw x
def Zpd (x0:Config) (x1:Wld) (x2:Int):Option ((Config×Wld×Int)⊕((Unit)⊕(Bool))) := bif decide (x2<x0.threads) then match Zpe (x0,x1,x2,([]:List Mark),(0:Int)) with
 | some y1 => match ZoB (y1.fst,y1.snd.fst,y1.snd.snd.fst,y1.snd.snd.snd,(0:Int),false,Event.mk (0:Int) (0:Int) (0:Int) (Op.mk (0:Int) (0:Int)) (0:Int) false (0:Int),(0:Int)) with
  | some (.inl y2) => bif (↑(List.length y2.snd.snd.snd.fst):Int) != y2.snd.snd.snd.snd.fst then bif !y2.snd.snd.snd.snd.snd.fst then some (Sum.inr (Sum.inr false)) else bif (↑(List.length y2.snd.snd.snd.fst):Int) != Zaf IntKind.i64 (y2.snd.snd.snd.snd.fst+(1:Int)) then some (Sum.inr (Sum.inr false)) else bif decide ((0:Int)<=y2.snd.snd.snd.snd.fst) then bif decide (y2.snd.snd.snd.snd.fst<(↑(List.length y2.snd.snd.snd.fst):Int)) then bif !((List.getD y2.snd.snd.snd.fst (Int.toNat y2.snd.snd.snd.snd.fst) ZaU).op.tag == y2.snd.snd.snd.snd.snd.snd.op.tag && ((List.getD y2.snd.snd.snd.fst (Int.toNat y2.snd.snd.snd.snd.fst) ZaU).op.v == y2.snd.snd.snd.snd.snd.snd.op.v && true)) then some (Sum.inr (Sum.inr false)) else bif decide ((0:Int)<=y2.snd.snd.snd.snd.fst) then bif decide (y2.snd.snd.snd.snd.fst<(↑(List.length y2.snd.snd.snd.fst):Int)) then bif (List.getD y2.snd.snd.snd.fst (Int.toNat y2.snd.snd.snd.snd.fst) ZaU).item != y2.snd.snd.snd.snd.snd.snd.item then some (Sum.inr (Sum.inr false)) else bif decide ((0:Int)<=y2.snd.snd.snd.snd.fst) then bif decide (y2.snd.snd.snd.snd.fst<(↑(List.length y2.snd.snd.snd.fst):Int)) then bif decide ((List.getD y2.snd.snd.snd.fst (Int.toNat y2.snd.snd.snd.snd.fst) ZaU).step<=y2.snd.snd.snd.snd.snd.snd.step) then some (Sum.inr (Sum.inr false)) else some (Sum.inl (y2.fst,y2.snd.fst,Zaf IntKind.i64 (y2.snd.snd.fst+(1:Int)))) else none else none else none else none else none else none else some (Sum.inl (y2.fst,y2.snd.fst,Zaf IntKind.i64 (y2.snd.snd.fst+(1:Int))))
  | some (.inr y3) => some (Sum.inr (Sum.inr y3))
  | none=>none
 | none=>none else some (Sum.inr (Sum.inl ()))
def Zgu (x:Config×Wld×Int):Option ((Config×Wld×Int)⊕((Unit)⊕(Bool))):=Zpd x.1 x.2.1 x.2.2
def Zpg (x:Config×Wld×Int):Option ((Unit)⊕(Bool)):=Zav Zgu x
def Zrq (x0:Config) (x1:Wld):Option (Bool) := bif decide ((↑x1.hist.length:Int)>(1000:Int)) then some (false) else match Zpg (x0,x1,(0:Int)) with
 | some (.inl y1) => some (true)
 | some (.inr y2) => some (y2)
 | none=>none
def ZqL (x:Config×Wld):Option (Bool):=Zrq x.1 x.2
def ZhM (x0:Turn):Option (Turn) := bif x0.c.backend == (2:Int) then bif decide (x0.c.depth>(0:Int)) then some ({ x0 with th:={ x0.th with phase:=(4:Int) } }) else bif x0.c.backend == (3:Int) then bif decide (x0.c.layers>(0:Int)) then some ({ x0 with th:={ x0.th with phase:=(17:Int),layer:=(1:Int) } }) else some ({ x0 with th:={ x0.th with phase:=(2:Int) } }) else some ({ x0 with th:={ x0.th with phase:=(2:Int) } }) else bif x0.c.backend == (3:Int) then bif decide (x0.c.layers>(0:Int)) then some ({ x0 with th:={ x0.th with phase:=(17:Int),layer:=(1:Int) } }) else some ({ x0 with th:={ x0.th with phase:=(2:Int) } }) else some ({ x0 with th:={ x0.th with phase:=(2:Int) } })
def ZfL (x:Turn):Option (Turn):=ZhM x
def Zdw (x0:List Int):Option ((List Int)) := bif fewB ((0:Nat)+x0.length) then some (x0) else none
def ZbB (x:(List Int)):Option ((List Int)):=Zdw x
def Zfh (x0:List Int) (x1:Int):Option (Int×Int) := bif decide (x1<(0:Int)) then some (((0:Int),(30:Int))) else bif decide (x1>=(↑x0.length:Int)) then some (((0:Int),(30:Int))) else bif decide ((0:Int)<=x1) then bif decide (x1<(↑x0.length:Int)) then some ((x0.getD x1.toNat (0:Int),(0:Int))) else none else none
def ZbH (x:(List Int)×Int):Option (Int×Int):=Zfh x.1 x.2
def ZfR (x0:Memo) (x1:Int) (x2:Int):Option (Memo×Int) := match ZbH (x0.words,x1) with
 | some y1 => bif y1.snd != (0:Int) then some ((x0,y1.snd)) else match ZbB x0.words with
  | some y2 => bif decide ((0:Int)<=x1) then bif decide (x1<(↑(List.length y2):Int)) then some (({ x0 with words:=List.set y2 x1.toNat x2 },y1.snd)) else none else none
  | none=>none
 | none=>none
def Zcd (x:Memo×Int×Int):Option (Memo×Int):=ZfR x.1 x.2.1 x.2.2
def ZkP (x0:Config) (x1:Int):Option (Int) := bif decide (x1<(0:Int)) then some ((-1:Int)) else bif decide (x1>=x0.threads) then some ((-1:Int)) else match Zco x0 with
 | some y1 => some (Zaf IntKind.i64 (y1.lines+Zaf IntKind.i64 ((2:Int)*x1)))
 | none=>none
def Zc3 (x:Config×Int):Option (Int):=ZkP x.1 x.2
def Zig (x0:Turn):Option (Turn×Bool) := bif x0.th.phase != (1:Int) then some ((x0,false)) else match Zc3 (x0.c,x0.t) with
 | some y1 => match Zcd (x0.m,y1,(0:Int)) with
  | some y2 => bif y2.snd != (0:Int) then some ((x0,true)) else match ZfL { x0 with m:=y2.fst } with
   | some y3 => some ((y3,true))
   | none=>none
  | none=>none
 | none=>none
def Zio (x:Turn):Option (Turn×Bool):=Zig x
def ZkA (x0:Config) (x1:Int) (x2:Int):Option (Int) := bif decide (x1<(0:Int)) then some ((-1:Int)) else bif decide (x1>=x0.items) then some ((-1:Int)) else match Zfl x0 with
 | some y1 => bif decide (x2<(1:Int)) then some ((-1:Int)) else bif decide (x2>=Zaf IntKind.i64 ((1:Int)+y1)) then some ((-1:Int)) else match Zco x0 with
  | some y2 => some (Zaf IntKind.i64 (Zaf IntKind.i64 (x1*y2.block)+x2))
  | none=>none
 | none=>none
def Zd2 (x:Config×Int×Int):Option (Int):=ZkA x.1 x.2.1 x.2.2
def Zde (x0:Said):Option (Int) :=
 some (Zaf IntKind.i64 (Zaf IntKind.i64 ((8:Int)*Zaf IntKind.i64 (x0.n+(1:Int)))+x0.kind))
def ZbT (x:Said):Option (Int):=Zde x
def Zlo (x0:Int):Option (Int) := match ZbT (Said.mk (1:Int) x0) with
 | some y1 => some (y1)
 | none=>none
def ZeX (x:Int):Option (Int):=Zlo x
def Zms (x0:Int):Option (Int) :=
 some ((if (0:Int)>x0 then (0:Int) else x0).fdiv ((2:Int) ^ min (Int.toNat (1:Int)) IntKind.i64.bits))
def ZiT (x:Int):Option (Int):=Zms x
def ZkS (x0:Turn):Option (Turn) := bif decide (x0.th.stop>(0:Int)) then bif decide (x0.th.at_>=(0:Int)) then bif decide (x0.th.at_<(↑x0.th.held.length:Int)) then some ({ x0 with th:={ x0.th with phase:=(7:Int) } }) else some ({ x0 with th:={ x0.th with phase:=(11:Int) } }) else some ({ x0 with th:={ x0.th with phase:=(11:Int) } }) else bif decide (x0.th.at_>=(0:Int)) then bif decide (x0.th.at_<(↑x0.th.held.length:Int)) then some ({ x0 with th:={ x0.th with phase:=(7:Int) } }) else some ({ x0 with th:={ x0.th with phase:=(2:Int) } }) else some ({ x0 with th:={ x0.th with phase:=(2:Int) } })
def Zf8 (x:Turn):Option (Turn):=ZkS x
def Zk5 (x0:Turn):Option (Turn) := match Zf8 { x0 with th:={ x0.th with at_:=(0:Int) } } with
 | some y1 => some (y1)
 | none=>none
def Zd9 (x:Turn):Option (Turn):=Zk5 x
def ZjW (x0:Turn):Option (Turn) := match ZbB x0.th.held with
 | some y1 => bif fewB (List.length y1+(x0.th.node::([]:List Int)).length) then match ZiT x0.th.node with
  | some y2 => bif decide (y2>(0:Int)) then some ({ x0 with th:={ x0.th with held:=y1++x0.th.node::([]:List Int),node:=y2 } }) else match Zd9 { x0 with th:={ x0.th with held:=y1++x0.th.node::([]:List Int),node:=y2 } } with
   | some y3 => some (y3)
   | none=>none
  | none=>none else none
 | none=>none
def ZjH (x:Turn):Option (Turn):=ZjW x
def ZhU (x0:Memo) (x1:Int) (x2:Int) (x3:Int):Option (Memo×Bool×Int) := match ZbH (x0.words,x1) with
 | some y1 => bif y1.snd != (0:Int) then some ((x0,false,y1.snd)) else bif y1.fst == x2 then match ZbB x0.words with
  | some y2 => bif decide ((0:Int)<=x1) then bif decide (x1<(↑(List.length y2):Int)) then some (({ x0 with words:=List.set y2 x1.toNat x3 },y1.fst == x2,y1.snd)) else none else none
  | none=>none else some ((x0,y1.fst == x2,y1.snd))
 | none=>none
def ZcQ (x:Memo×Int×Int×Int):Option (Memo×Bool×Int):=ZhU x.1 x.2.1 x.2.2.1 x.2.2.2
def ZfC (x0:Memo) (x1:Int):Option (Int×Int) := match ZbH (x0.words,x1) with
 | some y1 => some (y1)
 | none=>none
def Zce (x:Memo×Int):Option (Int×Int):=ZfC x.1 x.2
def ZjE (x0:Turn):Option (Bool) := bif decide ((0:Int)<x0.th.until_) then some (decide (x0.th.until_<=x0.now)) else some (false)
def ZdH (x:Turn):Option (Bool):=ZjE x
def Zon (x0:Int):Option (Said) := bif Zaf IntKind.i64 (↑(BitVec.ofInt IntKind.i64.bits x0 &&& BitVec.ofInt IntKind.i64.bits (7:Int)).toNat:Int) == (5:Int) && (Zaf IntKind.i64 (x0.fdiv ((2:Int) ^ min (Int.toNat (3:Int)) IntKind.i64.bits)-(1:Int)) == (-1:Int) && true) then some (Said.mk (Zaf IntKind.i64 (↑(BitVec.ofInt IntKind.i64.bits x0 &&& BitVec.ofInt IntKind.i64.bits (7:Int)).toNat:Int)) (Zaf IntKind.i64 (x0.fdiv ((2:Int) ^ min (Int.toNat (3:Int)) IntKind.i64.bits)-(1:Int)))) else bif decide (Zaf IntKind.i64 (↑(BitVec.ofInt IntKind.i64.bits x0 &&& BitVec.ofInt IntKind.i64.bits (7:Int)).toNat:Int)>=(1:Int)) then bif decide (Zaf IntKind.i64 (↑(BitVec.ofInt IntKind.i64.bits x0 &&& BitVec.ofInt IntKind.i64.bits (7:Int)).toNat:Int)<=(3:Int)) then bif decide (Zaf IntKind.i64 (x0.fdiv ((2:Int) ^ min (Int.toNat (3:Int)) IntKind.i64.bits)-(1:Int))>=(0:Int)) then bif decide (Zaf IntKind.i64 (x0.fdiv ((2:Int) ^ min (Int.toNat (3:Int)) IntKind.i64.bits)-(1:Int))<(16:Int)) then some (Said.mk (Zaf IntKind.i64 (↑(BitVec.ofInt IntKind.i64.bits x0 &&& BitVec.ofInt IntKind.i64.bits (7:Int)).toNat:Int)) (Zaf IntKind.i64 (x0.fdiv ((2:Int) ^ min (Int.toNat (3:Int)) IntKind.i64.bits)-(1:Int)))) else bif Zaf IntKind.i64 (↑(BitVec.ofInt IntKind.i64.bits x0 &&& BitVec.ofInt IntKind.i64.bits (7:Int)).toNat:Int) == (4:Int) then bif decide ((Zaf IntKind.i64 (x0.fdiv ((2:Int) ^ min (Int.toNat (3:Int)) IntKind.i64.bits)-(1:Int))).fdiv ((2:Int) ^ min (Int.toNat (4:Int)) IntKind.i64.bits)>=(0:Int)) then bif decide ((Zaf IntKind.i64 (x0.fdiv ((2:Int) ^ min (Int.toNat (3:Int)) IntKind.i64.bits)-(1:Int))).fdiv ((2:Int) ^ min (Int.toNat (4:Int)) IntKind.i64.bits)<(4:Int)) then bif decide (Zaf IntKind.i64 (↑(BitVec.ofInt IntKind.i64.bits (Zaf IntKind.i64 (x0.fdiv ((2:Int) ^ min (Int.toNat (3:Int)) IntKind.i64.bits)-(1:Int))) &&& BitVec.ofInt IntKind.i64.bits (15:Int)).toNat:Int)>=(1:Int)) then bif decide (Zaf IntKind.i64 (↑(BitVec.ofInt IntKind.i64.bits (Zaf IntKind.i64 (x0.fdiv ((2:Int) ^ min (Int.toNat (3:Int)) IntKind.i64.bits)-(1:Int))) &&& BitVec.ofInt IntKind.i64.bits (15:Int)).toNat:Int)<=(3:Int)) then some (Said.mk (Zaf IntKind.i64 (↑(BitVec.ofInt IntKind.i64.bits x0 &&& BitVec.ofInt IntKind.i64.bits (7:Int)).toNat:Int)) (Zaf IntKind.i64 (x0.fdiv ((2:Int) ^ min (Int.toNat (3:Int)) IntKind.i64.bits)-(1:Int)))) else some (Said.mk (0:Int) (0:Int)) else some (Said.mk (0:Int) (0:Int)) else some (Said.mk (0:Int) (0:Int)) else some (Said.mk (0:Int) (0:Int)) else some (Said.mk (0:Int) (0:Int)) else bif Zaf IntKind.i64 (↑(BitVec.ofInt IntKind.i64.bits x0 &&& BitVec.ofInt IntKind.i64.bits (7:Int)).toNat:Int) == (4:Int) then bif decide ((Zaf IntKind.i64 (x0.fdiv ((2:Int) ^ min (Int.toNat (3:Int)) IntKind.i64.bits)-(1:Int))).fdiv ((2:Int) ^ min (Int.toNat (4:Int)) IntKind.i64.bits)>=(0:Int)) then bif decide ((Zaf IntKind.i64 (x0.fdiv ((2:Int) ^ min (Int.toNat (3:Int)) IntKind.i64.bits)-(1:Int))).fdiv ((2:Int) ^ min (Int.toNat (4:Int)) IntKind.i64.bits)<(4:Int)) then bif decide (Zaf IntKind.i64 (↑(BitVec.ofInt IntKind.i64.bits (Zaf IntKind.i64 (x0.fdiv ((2:Int) ^ min (Int.toNat (3:Int)) IntKind.i64.bits)-(1:Int))) &&& BitVec.ofInt IntKind.i64.bits (15:Int)).toNat:Int)>=(1:Int)) then bif decide (Zaf IntKind.i64 (↑(BitVec.ofInt IntKind.i64.bits (Zaf IntKind.i64 (x0.fdiv ((2:Int) ^ min (Int.toNat (3:Int)) IntKind.i64.bits)-(1:Int))) &&& BitVec.ofInt IntKind.i64.bits (15:Int)).toNat:Int)<=(3:Int)) then some (Said.mk (Zaf IntKind.i64 (↑(BitVec.ofInt IntKind.i64.bits x0 &&& BitVec.ofInt IntKind.i64.bits (7:Int)).toNat:Int)) (Zaf IntKind.i64 (x0.fdiv ((2:Int) ^ min (Int.toNat (3:Int)) IntKind.i64.bits)-(1:Int)))) else some (Said.mk (0:Int) (0:Int)) else some (Said.mk (0:Int) (0:Int)) else some (Said.mk (0:Int) (0:Int)) else some (Said.mk (0:Int) (0:Int)) else some (Said.mk (0:Int) (0:Int)) else bif Zaf IntKind.i64 (↑(BitVec.ofInt IntKind.i64.bits x0 &&& BitVec.ofInt IntKind.i64.bits (7:Int)).toNat:Int) == (4:Int) then bif decide ((Zaf IntKind.i64 (x0.fdiv ((2:Int) ^ min (Int.toNat (3:Int)) IntKind.i64.bits)-(1:Int))).fdiv ((2:Int) ^ min (Int.toNat (4:Int)) IntKind.i64.bits)>=(0:Int)) then bif decide ((Zaf IntKind.i64 (x0.fdiv ((2:Int) ^ min (Int.toNat (3:Int)) IntKind.i64.bits)-(1:Int))).fdiv ((2:Int) ^ min (Int.toNat (4:Int)) IntKind.i64.bits)<(4:Int)) then bif decide (Zaf IntKind.i64 (↑(BitVec.ofInt IntKind.i64.bits (Zaf IntKind.i64 (x0.fdiv ((2:Int) ^ min (Int.toNat (3:Int)) IntKind.i64.bits)-(1:Int))) &&& BitVec.ofInt IntKind.i64.bits (15:Int)).toNat:Int)>=(1:Int)) then bif decide (Zaf IntKind.i64 (↑(BitVec.ofInt IntKind.i64.bits (Zaf IntKind.i64 (x0.fdiv ((2:Int) ^ min (Int.toNat (3:Int)) IntKind.i64.bits)-(1:Int))) &&& BitVec.ofInt IntKind.i64.bits (15:Int)).toNat:Int)<=(3:Int)) then some (Said.mk (Zaf IntKind.i64 (↑(BitVec.ofInt IntKind.i64.bits x0 &&& BitVec.ofInt IntKind.i64.bits (7:Int)).toNat:Int)) (Zaf IntKind.i64 (x0.fdiv ((2:Int) ^ min (Int.toNat (3:Int)) IntKind.i64.bits)-(1:Int)))) else some (Said.mk (0:Int) (0:Int)) else some (Said.mk (0:Int) (0:Int)) else some (Said.mk (0:Int) (0:Int)) else some (Said.mk (0:Int) (0:Int)) else some (Said.mk (0:Int) (0:Int)) else bif Zaf IntKind.i64 (↑(BitVec.ofInt IntKind.i64.bits x0 &&& BitVec.ofInt IntKind.i64.bits (7:Int)).toNat:Int) == (4:Int) then bif decide ((Zaf IntKind.i64 (x0.fdiv ((2:Int) ^ min (Int.toNat (3:Int)) IntKind.i64.bits)-(1:Int))).fdiv ((2:Int) ^ min (Int.toNat (4:Int)) IntKind.i64.bits)>=(0:Int)) then bif decide ((Zaf IntKind.i64 (x0.fdiv ((2:Int) ^ min (Int.toNat (3:Int)) IntKind.i64.bits)-(1:Int))).fdiv ((2:Int) ^ min (Int.toNat (4:Int)) IntKind.i64.bits)<(4:Int)) then bif decide (Zaf IntKind.i64 (↑(BitVec.ofInt IntKind.i64.bits (Zaf IntKind.i64 (x0.fdiv ((2:Int) ^ min (Int.toNat (3:Int)) IntKind.i64.bits)-(1:Int))) &&& BitVec.ofInt IntKind.i64.bits (15:Int)).toNat:Int)>=(1:Int)) then bif decide (Zaf IntKind.i64 (↑(BitVec.ofInt IntKind.i64.bits (Zaf IntKind.i64 (x0.fdiv ((2:Int) ^ min (Int.toNat (3:Int)) IntKind.i64.bits)-(1:Int))) &&& BitVec.ofInt IntKind.i64.bits (15:Int)).toNat:Int)<=(3:Int)) then some (Said.mk (Zaf IntKind.i64 (↑(BitVec.ofInt IntKind.i64.bits x0 &&& BitVec.ofInt IntKind.i64.bits (7:Int)).toNat:Int)) (Zaf IntKind.i64 (x0.fdiv ((2:Int) ^ min (Int.toNat (3:Int)) IntKind.i64.bits)-(1:Int)))) else some (Said.mk (0:Int) (0:Int)) else some (Said.mk (0:Int) (0:Int)) else some (Said.mk (0:Int) (0:Int)) else some (Said.mk (0:Int) (0:Int)) else some (Said.mk (0:Int) (0:Int))
def Zjv (x:Int):Option (Said):=Zon x
def Zmh (x0:Int):Option (Int) := match Zjv x0 with
 | some y1 => bif x0 == (0:Int) then some (y1.kind) else bif !(y1.kind == (0:Int) && (y1.n == (0:Int) && true)) then some (y1.kind) else some ((-1:Int))
 | none=>none
def ZgF (x:Int):Option (Int):=Zmh x
def Zk9 (x0:Turn) (x1:Int):Option (Turn) := match ZgF x1 with
 | some y1 => bif y1 == (1:Int) then some ({ x0 with th:={ x0.th with phase:=(6:Int),x:=x1 } }) else bif y1 == (0:Int) then some ({ x0 with th:={ x0.th with phase:=(5:Int) } }) else match ZdH x0 with
  | some y2 => bif y2 then match Zd9 x0 with
   | some y3 => some (y3)
   | none=>none else some (x0)
  | none=>none
 | none=>none
def ZkL (x:Turn×Int):Option (Turn):=Zk9 x.1 x.2
def ZjQ (x0:Int):Option (Int) := match ZbT (Said.mk (2:Int) x0) with
 | some y1 => some (y1)
 | none=>none
def Zj1 (x:Int):Option (Int):=ZjQ x
def ZiH (x0:Turn):Option (Turn) := match Zd9 { x0 with th:={ x0.th with stop:=x0.th.node } } with
 | some y1 => some (y1)
 | none=>none
def Zi2 (x:Turn):Option (Turn):=ZiH x
def ZkB (x0:Turn):Option (Turn×Bool) := match Zd2 (x0.c,x0.th.item,x0.th.node) with
 | some y1 => match ZeX x0.t with
  | some y2 => bif x0.th.phase == (4:Int) then match Zce (x0.m,y1) with
   | some y3 => bif y3.snd != (0:Int) then some ((x0,true)) else match ZkL (x0,y3.fst) with
     | some y4 => some ((y4,true))
     | none=>none
   | none=>none else bif x0.th.phase == (6:Int) then match Zj1 x0.t with
    | some y3 => match ZcQ (x0.m,y1,x0.th.x,y3) with
     | some y4 => bif y4.snd.snd != (0:Int) then some ((x0,true)) else bif y4.snd.fst then match Zi2 { x0 with m:=y4.fst,th:={ x0.th with phase:=(4:Int) } } with
      | some y5 => some ((y5,true))
      | none=>none else some (({ x0 with m:=y4.fst,th:={ x0.th with phase:=(4:Int) } },true))
     | none=>none
    | none=>none else bif x0.th.phase == (5:Int) then match ZcQ (x0.m,y1,(0:Int),y2) with
     | some y3 => bif y3.snd.snd != (0:Int) then some ((x0,true)) else bif y3.snd.fst then match ZjH { x0 with m:=y3.fst,th:={ x0.th with phase:=(4:Int) } } with
      | some y4 => some ((y4,true))
      | none=>none else some (({ x0 with m:=y3.fst,th:={ x0.th with phase:=(4:Int) } },true))
     | none=>none else some ((x0,false))
  | none=>none
 | none=>none
def Zk6 (x:Turn):Option (Turn×Bool):=ZkB x
def ZjM (x0:Turn):Option (Int) := bif decide (x0.th.at_<(0:Int)) then some ((-1:Int)) else bif decide (x0.th.at_>=(↑x0.th.held.length:Int)) then some ((-1:Int)) else bif decide ((0:Int)<=x0.th.at_) then bif decide (x0.th.at_<(↑x0.th.held.length:Int)) then match Zd2 (x0.c,x0.th.item,x0.th.held.getD x0.th.at_.toNat (0:Int)) with
 | some y1 => some (y1)
 | none=>none else none else none
def Zfm (x:Turn):Option (Int):=ZjM x
def Zm2 (x0:Int):Option (Int) := match Zjv x0 with
 | some y1 => bif decide (y1.kind>=(1:Int)) then bif decide (y1.kind<=(3:Int)) then some (y1.n) else some ((-1:Int)) else some ((-1:Int))
 | none=>none
def ZmW (x:Int):Option (Int):=Zm2 x
def ZnJ (x0:Turn):Option (Turn) := match Zfm x0 with
 | some y1 => match Zce (x0.m,y1) with
  | some y2 => bif y2.snd != (0:Int) then some (x0) else match ZeX x0.t with
   | some y3 => bif y2.fst == y3 then some ({ x0 with th:={ x0.th with phase:=(8:Int) } }) else match ZgF y2.fst with
    | some y4 => bif y4 == (3:Int) then match ZmW y2.fst with
     | some y5 => some ({ x0 with th:={ x0.th with phase:=(9:Int),who:=y5 } })
     | none=>none else some (x0)
    | none=>none
   | none=>none
  | none=>none
 | none=>none
def Zkc (x:Turn):Option (Turn):=ZnJ x
def ZjX (x0:Turn):Option (Turn) := match Zf8 { x0 with th:={ x0.th with at_:=Zaf IntKind.i64 (x0.th.at_+(1:Int)) } } with
 | some y1 => some (y1)
 | none=>none
def ZgX (x:Turn):Option (Turn):=ZjX x
def ZnM (x0:Turn):Option (Turn) := match Zfm x0 with
 | some y1 => match ZeX x0.t with
  | some y2 => match ZcQ (x0.m,y1,y2,(0:Int)) with
   | some y3 => bif !y3.snd.fst then bif y3.snd.snd != (0:Int) then some (x0) else some ({ x0 with m:=y3.fst,th:={ x0.th with phase:=(7:Int) } }) else bif y3.snd.snd != (0:Int) then some (x0) else match ZgX { x0 with m:=y3.fst } with
    | some y4 => some (y4)
    | none=>none
   | none=>none
  | none=>none
 | none=>none
def ZjC (x:Turn):Option (Turn):=ZnM x
def ZcS (x0:List Entry):Option ((List Entry)) := bif fewB ((0:Nat)+x0.length) then some (x0) else none
def Zbs (x:(List Entry)):Option ((List Entry)):=ZcS x
def Zcj (x0:List (List Entry)) (x1:Int):Option ((List Entry)×Int) := bif decide (x1<(0:Int)) then some ((([]:List Entry),(30:Int))) else bif decide (x1>=(↑x0.length:Int)) then some ((([]:List Entry),(30:Int))) else bif decide ((0:Int)<=x1) then bif decide (x1<(↑x0.length:Int)) then some ((x0.getD x1.toNat ([]:List Entry),(0:Int))) else none else none
def Zcl (x:(List (List Entry))×Int):Option ((List Entry)×Int):=Zcj x.1 x.2
def ZhL (x0:Memo) (x1:Int):Option ((List Entry)×Int) := match Zcl (x0.boxes,x1) with
 | some y1 => match Zbs y1.fst with
  | some y2 => some ((y2,y1.snd))
  | none=>none
 | none=>none
def Zid (x:Memo×Int):Option ((List Entry)×Int):=ZhL x.1 x.2
def Zeg (x0:Unit) (x1:Int):Option ((List Kid)) := bif decide (x1<(0:Int)) then none else bif decide (Zaf IntKind.i64 (x1-Zaf IntKind.i64 ((0:Int)-(0:Int)))>(0:Int)) then bif decide ((0:Int)<=Zaf IntKind.i64 (x1-Zaf IntKind.i64 ((0:Int)-(0:Int)))) then bif decide (Zaf IntKind.i64 (x1-Zaf IntKind.i64 ((0:Int)-(0:Int)))<=ZbA) then some (List.take (Int.toNat (0:Int)) (List.replicate (Zaf IntKind.i64 (x1-Zaf IntKind.i64 ((0:Int)-(0:Int)))).toNat (Kid.mk (0:Int) (0:Int)))) else none else none else some (([]:List Kid))
def Zec (x:Unit×Int):Option ((List Kid)):=Zeg x.1 x.2
def Zcq (x0:List Kid) (x1:List (List Kid)) (x2:Int) (x3:Int):Option (((List Kid)×(List (List Kid))×Int×Int)⊕(((List Kid)))) := bif decide (x3<x2) then bif decide ((0:Int)<=x3) then bif decide (x3<(↑x1.length:Int)) then bif fewB (x0.length+List.length (x1.getD x3.toNat ([]:List Kid))) then some (Sum.inl (x0++x1.getD x3.toNat ([]:List Kid),x1,x2,Zaf IntKind.i64 (x3+(1:Int)))) else none else none else none else some (Sum.inr x0)
def ZbL (x:(List Kid)×(List (List Kid))×Int×Int):Option (((List Kid)×(List (List Kid))×Int×Int)⊕(((List Kid)))):=Zcq x.1 x.2.1 x.2.2.1 x.2.2.2
def Zda (x:(List Kid)×(List (List Kid))×Int×Int):Option (((List Kid))):=Zav ZbL x
def Zcx (x0:List (List Kid)) (x1:Int) (x2:List (List Kid)) (x3:Int) (x4:Int):Option (((List (List Kid))×Int×(List (List Kid))×Int×Int)⊕(((List (List Kid))×Int))) := bif decide (x4<x3) then bif decide ((0:Int)<=x4) then bif decide (x4<(↑x2.length:Int)) then bif decide (Zaf IntKind.i64 (x1+(↑(List.length (x2.getD x4.toNat ([]:List Kid))):Int))<(0:Int)) then none else some (Sum.inl (x0,Zaf IntKind.i64 (x1+(↑(List.length (x2.getD x4.toNat ([]:List Kid))):Int)),x2,x3,Zaf IntKind.i64 (x4+(1:Int)))) else none else none else some (Sum.inr (x0,x1))
def ZbQ (x:(List (List Kid))×Int×(List (List Kid))×Int×Int):Option (((List (List Kid))×Int×(List (List Kid))×Int×Int)⊕(((List (List Kid))×Int))):=Zcx x.1 x.2.1 x.2.2.1 x.2.2.2.1 x.2.2.2.2
def Zdf (x:(List (List Kid))×Int×(List (List Kid))×Int×Int):Option (((List (List Kid))×Int)):=Zav ZbQ x
def ZdM (x0:List (List Kid)):Option ((List Kid)) := match Zdf (x0,(0:Int),x0,(↑x0.length:Int),(0:Int)) with
 | some y1 => match Zec ((),y1.snd) with
  | some y2 => match Zda (y2,y1.fst,(↑(List.length y1.fst):Int),(0:Int)) with
   | some y3 => some (y3)
   | none=>none
  | none=>none
 | none=>none
def ZdN (x:(List (List Kid))):Option ((List Kid)):=ZdM x
def ZdV (x0:Unit) (x1:Int):Option ((List Entry)) := bif decide (x1<(0:Int)) then none else bif decide (Zaf IntKind.i64 (x1-Zaf IntKind.i64 ((0:Int)-(0:Int)))>(0:Int)) then bif decide ((0:Int)<=Zaf IntKind.i64 (x1-Zaf IntKind.i64 ((0:Int)-(0:Int)))) then bif decide (Zaf IntKind.i64 (x1-Zaf IntKind.i64 ((0:Int)-(0:Int)))<=ZbA) then some (List.take (Int.toNat (0:Int)) (List.replicate (Zaf IntKind.i64 (x1-Zaf IntKind.i64 ((0:Int)-(0:Int)))).toNat (Entry.mk (0:Int) (Op.mk (0:Int) (0:Int))))) else none else none else some (([]:List Entry))
def ZdS (x:Unit×Int):Option ((List Entry)):=ZdV x.1 x.2
def Zcn (x0:List Entry) (x1:List (List Entry)) (x2:Int) (x3:Int):Option (((List Entry)×(List (List Entry))×Int×Int)⊕(((List Entry)))) := bif decide (x3<x2) then bif decide ((0:Int)<=x3) then bif decide (x3<(↑x1.length:Int)) then bif fewB (x0.length+List.length (x1.getD x3.toNat ([]:List Entry))) then some (Sum.inl (x0++x1.getD x3.toNat ([]:List Entry),x1,x2,Zaf IntKind.i64 (x3+(1:Int)))) else none else none else none else some (Sum.inr x0)
def ZbG (x:(List Entry)×(List (List Entry))×Int×Int):Option (((List Entry)×(List (List Entry))×Int×Int)⊕(((List Entry)))):=Zcn x.1 x.2.1 x.2.2.1 x.2.2.2
def Zc2 (x:(List Entry)×(List (List Entry))×Int×Int):Option (((List Entry))):=Zav ZbG x
def Zcs (x0:List (List Entry)) (x1:Int) (x2:List (List Entry)) (x3:Int) (x4:Int):Option (((List (List Entry))×Int×(List (List Entry))×Int×Int)⊕(((List (List Entry))×Int))) := bif decide (x4<x3) then bif decide ((0:Int)<=x4) then bif decide (x4<(↑x2.length:Int)) then bif decide (Zaf IntKind.i64 (x1+(↑(List.length (x2.getD x4.toNat ([]:List Entry))):Int))<(0:Int)) then none else some (Sum.inl (x0,Zaf IntKind.i64 (x1+(↑(List.length (x2.getD x4.toNat ([]:List Entry))):Int)),x2,x3,Zaf IntKind.i64 (x4+(1:Int)))) else none else none else some (Sum.inr (x0,x1))
def ZbM (x:(List (List Entry))×Int×(List (List Entry))×Int×Int):Option (((List (List Entry))×Int×(List (List Entry))×Int×Int)⊕(((List (List Entry))×Int))):=Zcs x.1 x.2.1 x.2.2.1 x.2.2.2.1 x.2.2.2.2
def Zdb (x:(List (List Entry))×Int×(List (List Entry))×Int×Int):Option (((List (List Entry))×Int)):=Zav ZbM x
def Zdx (x0:List (List Entry)):Option ((List Entry)) := match Zdb (x0,(0:Int),x0,(↑x0.length:Int),(0:Int)) with
 | some y1 => match ZdS ((),y1.snd) with
  | some y2 => match Zc2 (y2,y1.fst,(↑(List.length y1.fst):Int),(0:Int)) with
   | some y3 => some (y3)
   | none=>none
  | none=>none
 | none=>none
def Zds (x:(List (List Entry))):Option ((List Entry)):=Zdx x
def Zor (x0:List (List Entry)):Option ((List Entry)) := match Zds x0 with
 | some y1 => some (y1)
 | none=>none
def Zlb (x:(List (List Entry))):Option ((List Entry)):=Zor x
def ZjZ (x0:Turn) (x1:Int) (x2:List Entry):Option (Turn) := match ZdN (x0.th.kids::(Kid.mk x1 (↑x0.th.batch.length:Int)::([]:List Kid))::([]:List (List Kid))) with
 | some y1 => match Zlb (x0.th.batch::x2::([]:List (List Entry))) with
  | some y2 => some ({ x0 with th:={ x0.th with batch:=y2,kids:=y1 } })
  | none=>none
 | none=>none
def Zfj (x:Turn×Int×(List Entry)):Option (Turn):=ZjZ x.1 x.2.1 x.2.2
def ZkV (x0:Turn):Option (Turn) := match Zid (x0.m,x0.th.who) with
 | some y1 => bif y1.snd != (0:Int) then some (x0) else match Zfj (x0,x0.th.who,y1.fst) with
  | some y2 => some ({ y2 with th:={ y2.th with phase:=(10:Int) } })
  | none=>none
 | none=>none
def Zhk (x:Turn):Option (Turn):=ZkV x
def ZnB (x0:Turn):Option (Turn) := match Zfm x0 with
 | some y1 => match Zcd (x0.m,y1,(0:Int)) with
  | some y2 => bif y2.snd != (0:Int) then some (x0) else match ZgX { x0 with m:=y2.fst } with
   | some y3 => some (y3)
   | none=>none
  | none=>none
 | none=>none
def ZjU (x:Turn):Option (Turn):=ZnB x
def Zdt (x0:List (List Entry)):Option ((List (List Entry))) := bif fewB ((0:Nat)+x0.length) then some (x0) else none
def Zdq (x:(List (List Entry))):Option ((List (List Entry))):=Zdt x
def Zna (x0:Memo) (x1:Int) (x2:List Entry):Option (Memo×Int) := match Zcl (x0.boxes,x1) with
 | some y1 => bif y1.snd != (0:Int) then some ((x0,y1.snd)) else match Zdq x0.boxes with
  | some y2 => match Zbs x2 with
   | some y3 => bif decide ((0:Int)<=x1) then bif decide (x1<(↑(List.length y2):Int)) then some (({ x0 with boxes:=List.set y2 x1.toNat y3 },(0:Int))) else none else none
   | none=>none
  | none=>none
 | none=>none
def Zhy (x:Memo×Int×(List Entry)):Option (Memo×Int):=Zna x.1 x.2.1 x.2.2
def Zk7 (x0:Turn):Option (Turn) := match Zhy (x0.m,x0.t,x0.th.batch) with
 | some y1 => bif y1.snd != (0:Int) then some (x0) else some ({ x0 with m:=y1.fst,th:={ x0.th with phase:=(12:Int) } })
 | none=>none
def Zhj (x:Turn):Option (Turn):=Zk7 x
def Zg9 (x0:Int):Option (Int) := match ZbT (Said.mk (3:Int) x0) with
 | some y1 => some (y1)
 | none=>none
def Zhi (x:Int):Option (Int):=Zg9 x
def Zky (x0:Turn):Option (Turn) := match Zd2 (x0.c,x0.th.item,x0.th.stop) with
 | some y1 => match Zhi x0.t with
  | some y2 => match Zcd (x0.m,y1,y2) with
   | some y3 => bif y3.snd != (0:Int) then some (x0) else some ({ x0 with m:=y3.fst,th:={ x0.th with phase:=(13:Int) } })
   | none=>none
  | none=>none
 | none=>none
def Zg5 (x:Turn):Option (Turn):=Zky x
def ZjL (x0:Turn):Option (Turn×Bool) := bif x0.th.phase == (7:Int) then match Zkc x0 with
 | some y1 => some ((y1,true))
 | none=>none else bif x0.th.phase == (8:Int) then match ZjC x0 with
  | some y1 => some ((y1,true))
  | none=>none else bif x0.th.phase == (9:Int) then match Zhk x0 with
   | some y1 => some ((y1,true))
   | none=>none else bif x0.th.phase == (10:Int) then match ZjU x0 with
    | some y1 => some ((y1,true))
    | none=>none else bif x0.th.phase == (11:Int) then match Zhj x0 with
     | some y1 => some ((y1,true))
     | none=>none else bif x0.th.phase == (12:Int) then match Zg5 x0 with
      | some y1 => some ((y1,true))
      | none=>none else some ((x0,false))
def ZjG (x:Turn):Option (Turn×Bool):=ZjL x
def Zp9 (x0:Config) (x1:Int×Int×Int×Int×Int×Int×Int×Int×Int×Int×Int×Int×Int×Int×Int×Int×Int×Int×Int×Int×Int×Int×Int×Int) (x2:Int):Option ((Config×(Int×Int×Int×Int×Int×Int×Int×Int×Int×Int×Int×Int×Int×Int×Int×Int×Int×Int×Int×Int×Int×Int×Int×Int)×Int)⊕((Config)⊕(Int))) := bif decide (x2<(8:Int)) then bif decide ((0:Int)<=x2) then bif decide (x2<(↑(8:Nat):Int)) then bif decide (x2=(↑(0:Nat):Int)) then bif decide (x1.fst<x1.snd.fst) then some (Sum.inr (Sum.inr (Zaf IntKind.i64 ((50:Int)+x2)))) else bif decide (x1.fst>x1.snd.snd.fst) then some (Sum.inr (Sum.inr (Zaf IntKind.i64 ((50:Int)+x2)))) else some (Sum.inl (x0,x1,Zaf IntKind.i64 (x2+(1:Int)))) else bif decide (x2=(↑((0:Nat)+(1:Nat)):Int)) then bif decide (x1.snd.snd.snd.fst<x1.snd.snd.snd.snd.fst) then some (Sum.inr (Sum.inr (Zaf IntKind.i64 ((50:Int)+x2)))) else bif decide (x1.snd.snd.snd.fst>x1.snd.snd.snd.snd.snd.fst) then some (Sum.inr (Sum.inr (Zaf IntKind.i64 ((50:Int)+x2)))) else some (Sum.inl (x0,x1,Zaf IntKind.i64 (x2+(1:Int)))) else bif decide (x2=(↑((0:Nat)+(1:Nat)+(1:Nat)):Int)) then bif decide (x1.snd.snd.snd.snd.snd.snd.fst<x1.snd.snd.snd.snd.snd.snd.snd.fst) then some (Sum.inr (Sum.inr (Zaf IntKind.i64 ((50:Int)+x2)))) else bif decide (x1.snd.snd.snd.snd.snd.snd.fst>x1.snd.snd.snd.snd.snd.snd.snd.snd.fst) then some (Sum.inr (Sum.inr (Zaf IntKind.i64 ((50:Int)+x2)))) else some (Sum.inl (x0,x1,Zaf IntKind.i64 (x2+(1:Int)))) else bif decide (x2=(↑((0:Nat)+(1:Nat)+(1:Nat)+(1:Nat)):Int)) then bif decide (x1.snd.snd.snd.snd.snd.snd.snd.snd.snd.fst<x1.snd.snd.snd.snd.snd.snd.snd.snd.snd.snd.fst) then some (Sum.inr (Sum.inr (Zaf IntKind.i64 ((50:Int)+x2)))) else bif decide (x1.snd.snd.snd.snd.snd.snd.snd.snd.snd.fst>x1.snd.snd.snd.snd.snd.snd.snd.snd.snd.snd.snd.fst) then some (Sum.inr (Sum.inr (Zaf IntKind.i64 ((50:Int)+x2)))) else some (Sum.inl (x0,x1,Zaf IntKind.i64 (x2+(1:Int)))) else bif decide (x2=(↑((0:Nat)+(1:Nat)+(1:Nat)+(1:Nat)+(1:Nat)):Int)) then bif decide (x1.snd.snd.snd.snd.snd.snd.snd.snd.snd.snd.snd.snd.fst<x1.snd.snd.snd.snd.snd.snd.snd.snd.snd.snd.snd.snd.snd.fst) then some (Sum.inr (Sum.inr (Zaf IntKind.i64 ((50:Int)+x2)))) else bif decide (x1.snd.snd.snd.snd.snd.snd.snd.snd.snd.snd.snd.snd.fst>x1.snd.snd.snd.snd.snd.snd.snd.snd.snd.snd.snd.snd.snd.snd.fst) then some (Sum.inr (Sum.inr (Zaf IntKind.i64 ((50:Int)+x2)))) else some (Sum.inl (x0,x1,Zaf IntKind.i64 (x2+(1:Int)))) else bif decide (x2=(↑((0:Nat)+(1:Nat)+(1:Nat)+(1:Nat)+(1:Nat)+(1:Nat)):Int)) then bif decide (x1.snd.snd.snd.snd.snd.snd.snd.snd.snd.snd.snd.snd.snd.snd.snd.fst<x1.snd.snd.snd.snd.snd.snd.snd.snd.snd.snd.snd.snd.snd.snd.snd.snd.fst) then some (Sum.inr (Sum.inr (Zaf IntKind.i64 ((50:Int)+x2)))) else bif decide (x1.snd.snd.snd.snd.snd.snd.snd.snd.snd.snd.snd.snd.snd.snd.snd.fst>x1.snd.snd.snd.snd.snd.snd.snd.snd.snd.snd.snd.snd.snd.snd.snd.snd.snd.fst) then some (Sum.inr (Sum.inr (Zaf IntKind.i64 ((50:Int)+x2)))) else some (Sum.inl (x0,x1,Zaf IntKind.i64 (x2+(1:Int)))) else bif decide (x2=(↑((0:Nat)+(1:Nat)+(1:Nat)+(1:Nat)+(1:Nat)+(1:Nat)+(1:Nat)):Int)) then bif decide (x1.snd.snd.snd.snd.snd.snd.snd.snd.snd.snd.snd.snd.snd.snd.snd.snd.snd.snd.fst<x1.snd.snd.snd.snd.snd.snd.snd.snd.snd.snd.snd.snd.snd.snd.snd.snd.snd.snd.snd.fst) then some (Sum.inr (Sum.inr (Zaf IntKind.i64 ((50:Int)+x2)))) else bif decide (x1.snd.snd.snd.snd.snd.snd.snd.snd.snd.snd.snd.snd.snd.snd.snd.snd.snd.snd.fst>x1.snd.snd.snd.snd.snd.snd.snd.snd.snd.snd.snd.snd.snd.snd.snd.snd.snd.snd.snd.snd.fst) then some (Sum.inr (Sum.inr (Zaf IntKind.i64 ((50:Int)+x2)))) else some (Sum.inl (x0,x1,Zaf IntKind.i64 (x2+(1:Int)))) else bif decide (x2=(↑((0:Nat)+(1:Nat)+(1:Nat)+(1:Nat)+(1:Nat)+(1:Nat)+(1:Nat)+(1:Nat)):Int)) then bif decide (x1.snd.snd.snd.snd.snd.snd.snd.snd.snd.snd.snd.snd.snd.snd.snd.snd.snd.snd.snd.snd.snd.fst<x1.snd.snd.snd.snd.snd.snd.snd.snd.snd.snd.snd.snd.snd.snd.snd.snd.snd.snd.snd.snd.snd.snd.fst) then some (Sum.inr (Sum.inr (Zaf IntKind.i64 ((50:Int)+x2)))) else bif decide (x1.snd.snd.snd.snd.snd.snd.snd.snd.snd.snd.snd.snd.snd.snd.snd.snd.snd.snd.snd.snd.snd.fst>x1.snd.snd.snd.snd.snd.snd.snd.snd.snd.snd.snd.snd.snd.snd.snd.snd.snd.snd.snd.snd.snd.snd.snd) then some (Sum.inr (Sum.inr (Zaf IntKind.i64 ((50:Int)+x2)))) else some (Sum.inl (x0,x1,Zaf IntKind.i64 (x2+(1:Int)))) else none else none else none else some (Sum.inr (Sum.inl x0))
def Zd7 (x:Config×(Int×Int×Int×Int×Int×Int×Int×Int×Int×Int×Int×Int×Int×Int×Int×Int×Int×Int×Int×Int×Int×Int×Int×Int)×Int):Option ((Config×(Int×Int×Int×Int×Int×Int×Int×Int×Int×Int×Int×Int×Int×Int×Int×Int×Int×Int×Int×Int×Int×Int×Int×Int)×Int)⊕((Config)⊕(Int))):=Zp9 x.1 x.2.1 x.2.2
def ZcU (x:Config×(Int×Int×Int×Int×Int×Int×Int×Int×Int×Int×Int×Int×Int×Int×Int×Int×Int×Int×Int×Int×Int×Int×Int×Int)×Int):Option ((Config)⊕(Int)):=Zav Zd7 x
def Zi6 (x0:Config):Option (Int) := match ZcU (x0,(x0.threads,(1:Int),(16:Int),x0.items,(1:Int),(4:Int),x0.backend,(1:Int),(3:Int),x0.depth,(0:Int),(4:Int),x0.layers,(0:Int),(3:Int),x0.width,(1:Int),(8:Int),x0.spin,(0:Int),(20:Int),x0.wait,(0:Int),(1000:Int)),(0:Int)) with
 | some (.inl y1) => bif y1.bounded then bif decide (y1.init<y1.lo) then some ((58:Int)) else bif decide (y1.hi<y1.init) then some ((58:Int)) else some ((0:Int)) else some ((0:Int))
 | some (.inr y2) => some (y2)
 | none=>none
def ZeV (x:Config):Option (Int):=Zi6 x
def ZhP (x0:Int) (x1:Int):Option (Bool) := bif decide ((0:Int)<=x0) then some (decide (x0<x1)) else some (false)
def ZdB (x:Int×Int):Option (Bool):=ZhP x.1 x.2
def ZoM (x0:Int):Option (Bool) := bif decide ((1:Int)<=x0) then some (decide (x0<=(9:Int))) else some (false)
def Zlq (x:Int):Option (Bool):=ZoM x
def ZmY (x0:Op) (x1:Bool):Option (Bool) := bif !x1 then match Zlq x0.tag with
 | some y1 => bif y1 then some (decide (x0.tag<(8:Int))) else some (false)
 | none=>none else bif x0.tag == (9:Int) then some (decide (x0.v>=(0:Int))) else some (x0.tag == (8:Int))
def Zkm (x:Op×Bool):Option (Bool):=ZmY x.1 x.2
def Ziy (x0:Config) (x1:SEntry):Option (Int) := bif x1.kind == (1:Int) then bif x1.kind == (1:Int) then match ZdB (x1.t,x0.threads) with
 | some y1 => bif !y1 then some ((91:Int)) else bif x1.kind == (2:Int) then some ((0:Int)) else match ZdB (x1.item,x0.items) with
  | some y2 => bif !y2 then some ((92:Int)) else match Zkm (x1.op,x0.bounded) with
   | some y3 => bif !y3 then some ((93:Int)) else some ((0:Int))
   | none=>none
  | none=>none
 | none=>none else bif x1.kind == (3:Int) then some ((0:Int)) else some ((90:Int)) else bif x1.kind == (2:Int) then match ZdB (x1.t,x0.threads) with
 | some y1 => bif !y1 then some ((91:Int)) else bif x1.kind == (2:Int) then some ((0:Int)) else match ZdB (x1.item,x0.items) with
  | some y2 => bif !y2 then some ((92:Int)) else match Zkm (x1.op,x0.bounded) with
   | some y3 => bif !y3 then some ((93:Int)) else some ((0:Int))
   | none=>none
  | none=>none
 | none=>none else bif x1.kind == (3:Int) then some ((0:Int)) else some ((90:Int))
def ZeO (x:Config×SEntry):Option (Int):=Ziy x.1 x.2
def ZeY (x0:Config) (x1:List SEntry) (x2:Int) (x3:Int):Option ((Config×(List SEntry)×Int×Int)⊕((Unit)⊕(Int×Int))) := bif decide (x3<x2) then bif decide ((0:Int)<=x3) then bif decide (x3<(↑x1.length:Int)) then match ZeO (x0,x1.getD x3.toNat Zbc) with
 | some y1 => bif y1 != (0:Int) then some (Sum.inr (Sum.inr (x3,y1))) else some (Sum.inl (x0,x1,x2,Zaf IntKind.i64 (x3+(1:Int))))
 | none=>none else none else none else some (Sum.inr (Sum.inl ()))
def Zgf (x:Config×(List SEntry)×Int×Int):Option ((Config×(List SEntry)×Int×Int)⊕((Unit)⊕(Int×Int))):=ZeY x.1 x.2.1 x.2.2.1 x.2.2.2
def ZiS (x:Config×(List SEntry)×Int×Int):Option ((Unit)⊕(Int×Int)):=Zav Zgf x
def ZkY (x0:Config) (x1:List SEntry):Option (Int×Int) := match ZeV x0 with
 | some y1 => bif y1 != (0:Int) then some (((0:Int),y1)) else bif decide ((↑x1.length:Int)>(65536:Int)) then some (((0:Int),(2:Int))) else match ZiS (x0,x1,(↑x1.length:Int),(0:Int)) with
  | some (.inl y2) => some (((0:Int),(0:Int)))
  | some (.inr y3) => some (y3)
  | none=>none
 | none=>none
def Zhz (x:Config×(List SEntry)):Option (Int×Int):=ZkY x.1 x.2
def ZhO (x0:Turn):Option (Turn) := bif decide (x0.th.layer<x0.c.layers) then match ZdH { x0 with th:={ x0.th with phase:=(2:Int) } } with
 | some y1 => bif !y1 then some ({ x0 with th:={ x0.th with phase:=(17:Int),layer:=Zaf IntKind.i64 (x0.th.layer+(1:Int)) } }) else some ({ x0 with th:={ x0.th with phase:=(2:Int) } })
 | none=>none else some ({ x0 with th:={ x0.th with phase:=(2:Int) } })
def Zcp (x:Turn):Option (Turn):=ZhO x
def Zjg (x0:Int) (x1:Int):Option (Int) := match ZbT (Said.mk (4:Int) (Zaf IntKind.i64 (Zaf IntKind.i64 (x0*(2:Int) ^ min (Int.toNat (4:Int)) IntKind.i64.bits)+x1))) with
 | some y1 => some (y1)
 | none=>none
def Zjl (x:Int×Int):Option (Int):=Zjg x.1 x.2
def ZhW (x0:Turn×Int) (x1:Int):Option (Int) := match Zc3 (x0.fst.c,x1) with
 | some y1 => some (y1)
 | none=>none
def Zb3 (x:(Turn×Int)×Int):Option (Int):=ZhW x.1 x.2
def Zpi (x0:Int) (x1:Int):Option (Int×Int) :=
 some ((Zaf IntKind.u64 (Zaf IntKind.u64 (Zaf IntKind.u64 (x0.fdiv ((2:Int) ^ min (Int.toNat (32:Int)) IntKind.u64.bits)*x1.fdiv ((2:Int) ^ min (Int.toNat (32:Int)) IntKind.u64.bits))+(Zaf IntKind.u64 (Zaf IntKind.u64 (x0.fdiv ((2:Int) ^ min (Int.toNat (32:Int)) IntKind.u64.bits)*Zaf IntKind.u64 (↑(BitVec.ofInt IntKind.u64.bits x1 &&& BitVec.ofInt IntKind.u64.bits (4294967295:Int)).toNat:Int))+(Zaf IntKind.u64 (Zaf IntKind.u64 (↑(BitVec.ofInt IntKind.u64.bits x0 &&& BitVec.ofInt IntKind.u64.bits (4294967295:Int)).toNat:Int)*Zaf IntKind.u64 (↑(BitVec.ofInt IntKind.u64.bits x1 &&& BitVec.ofInt IntKind.u64.bits (4294967295:Int)).toNat:Int))).fdiv ((2:Int) ^ min (Int.toNat (32:Int)) IntKind.u64.bits))).fdiv ((2:Int) ^ min (Int.toNat (32:Int)) IntKind.u64.bits))+(Zaf IntKind.u64 (Zaf IntKind.u64 (↑(BitVec.ofInt IntKind.u64.bits (Zaf IntKind.u64 (Zaf IntKind.u64 (x0.fdiv ((2:Int) ^ min (Int.toNat (32:Int)) IntKind.u64.bits)*Zaf IntKind.u64 (↑(BitVec.ofInt IntKind.u64.bits x1 &&& BitVec.ofInt IntKind.u64.bits (4294967295:Int)).toNat:Int))+(Zaf IntKind.u64 (Zaf IntKind.u64 (↑(BitVec.ofInt IntKind.u64.bits x0 &&& BitVec.ofInt IntKind.u64.bits (4294967295:Int)).toNat:Int)*Zaf IntKind.u64 (↑(BitVec.ofInt IntKind.u64.bits x1 &&& BitVec.ofInt IntKind.u64.bits (4294967295:Int)).toNat:Int))).fdiv ((2:Int) ^ min (Int.toNat (32:Int)) IntKind.u64.bits))) &&& BitVec.ofInt IntKind.u64.bits (4294967295:Int)).toNat:Int)+Zaf IntKind.u64 (Zaf IntKind.u64 (↑(BitVec.ofInt IntKind.u64.bits x0 &&& BitVec.ofInt IntKind.u64.bits (4294967295:Int)).toNat:Int)*x1.fdiv ((2:Int) ^ min (Int.toNat (32:Int)) IntKind.u64.bits)))).fdiv ((2:Int) ^ min (Int.toNat (32:Int)) IntKind.u64.bits)),Zaf IntKind.u64 (x0*x1)))
def Zkg (x:Int×Int):Option (Int×Int):=Zpi x.1 x.2
def Zqn (x0:Int) (x1:Int):Option (Int×Int) := match Zkg (x0,x1) with
 | some y1 => some (y1)
 | none=>none
def ZdA (x:Int×Int):Option (Int×Int):=Zqn x.1 x.2
def ZeR (x0:List Thread):Option ((List Thread)) := bif fewB ((0:Nat)+x0.length) then some (x0) else none
def Zcy (x:(List Thread)):Option ((List Thread)):=ZeR x
def Zfr (x0:List Mark):Option ((List Mark)) := bif fewB ((0:Nat)+x0.length) then some (x0) else none
def ZcT (x:(List Mark)):Option ((List Mark)):=Zfr x
def Zft (x0:List Event):Option ((List Event)) := bif fewB ((0:Nat)+x0.length) then some (x0) else none
def ZcP (x:(List Event)):Option ((List Event)):=Zft x
def ZpA:Option (Int) := match ZbT (Said.mk (5:Int) (-1:Int)) with
 | some y1 => some (y1)
 | none=>none
def ZgU (x:Unit):Option (Int):=ZpA
def Zi0 (x0:Config) (x1:Int):Option (Int) := bif decide (x1<(0:Int)) then some ((-1:Int)) else bif decide (x1>=x0.threads) then some ((-1:Int)) else match Zco x0 with
 | some y1 => some (Zaf IntKind.i64 (Zaf IntKind.i64 (y1.lines+Zaf IntKind.i64 ((2:Int)*x1))+(1:Int)))
 | none=>none
def Ze4 (x:Config×Int):Option (Int):=Zi0 x.1 x.2
def ZiW (x0:Turn):Option (Turn) := bif decide (x0.th.at_<(0:Int)) then some ({ x0 with th:={ x0.th with phase:=(0:Int) },done:=true }) else bif decide (x0.th.at_>=(↑x0.th.kids.length:Int)) then some ({ x0 with th:={ x0.th with phase:=(0:Int) },done:=true }) else bif decide ((0:Int)<=x0.th.at_) then bif decide (x0.th.at_<(↑x0.th.kids.length:Int)) then some ({ x0 with th:={ x0.th with phase:=(15:Int) } }) else none else none
def Zdg (x:Turn):Option (Turn):=ZiW x
def Zk4 (x0:List Entry) (x1:Int):Option ((List Entry)) := bif decide ((0:Int)<=if (if (↑x0.length:Int)<x1 then (↑x0.length:Int) else x1)>(0:Int) then if (↑x0.length:Int)<x1 then (↑x0.length:Int) else x1 else (0:Int)) then bif decide ((if (if (↑x0.length:Int)<x1 then (↑x0.length:Int) else x1)>(0:Int) then if (↑x0.length:Int)<x1 then (↑x0.length:Int) else x1 else (0:Int))<=(↑x0.length:Int)) then match Zbs (List.drop (Int.toNat (0:Int)) (List.take (if (if (↑x0.length:Int)<x1 then (↑x0.length:Int) else x1)>(0:Int) then if (↑x0.length:Int)<x1 then (↑x0.length:Int) else x1 else (0:Int)).toNat x0)) with
 | some y1 => some (y1)
 | none=>none else none else none
def Zlg (x:(List Entry)×Int):Option ((List Entry)):=Zk4 x.1 x.2
def Znz (x0:Int) (x1:Int) (x2:Int) (x3:Int):Option (Bool) := bif decide (x1>=(0:Int)) then bif decide (Zaf IntKind.i64 (x0+x1)>=x0) then bif decide (Zaf IntKind.i64 (x0+x1)<x2) then some (true) else some (decide (Zaf IntKind.i64 (x0+x1)>x3)) else bif decide (x1<(0:Int)) then bif decide (Zaf IntKind.i64 (x0+x1)<x0) then bif decide (Zaf IntKind.i64 (x0+x1)<x2) then some (true) else some (decide (Zaf IntKind.i64 (x0+x1)>x3)) else some (true) else some (true) else bif decide (x1<(0:Int)) then bif decide (Zaf IntKind.i64 (x0+x1)<x0) then bif decide (Zaf IntKind.i64 (x0+x1)<x2) then some (true) else some (decide (Zaf IntKind.i64 (x0+x1)>x3)) else some (true) else some (true)
def Zkd (x:Int×Int×Int×Int):Option (Bool):=Znz x.1 x.2.1 x.2.2.1 x.2.2.2
def ZhI (x0:Op) (x1:Int) (x2:Int) (x3:Int):Option (Int×Bool) := bif x0.tag == (2:Int) then some ((Zaf IntKind.i64 (x1+Zaf IntKind.i64 ((0:Int)-x0.v)),true)) else bif x0.tag == (1:Int) then some ((Zaf IntKind.i64 (x1+x0.v),true)) else bif x0.tag == (3:Int) then some ((Zaf IntKind.i64 (↑(BitVec.ofInt IntKind.i64.bits x1 ||| BitVec.ofInt IntKind.i64.bits x0.v).toNat:Int),true)) else bif x0.tag == (4:Int) then some ((Zaf IntKind.i64 (↑(BitVec.ofInt IntKind.i64.bits x1 &&& BitVec.ofInt IntKind.i64.bits x0.v).toNat:Int),true)) else bif x0.tag == (5:Int) then some ((if x1>x0.v then x1 else x0.v,true)) else bif x0.tag == (6:Int) then some ((if x1<x0.v then x1 else x0.v,true)) else bif x0.tag == (7:Int) then some ((x0.v,true)) else bif x0.tag == (9:Int) then bif decide (x0.v<(0:Int)) then some ((x1,false)) else bif decide (x1<x2) then some ((x1,false)) else bif decide (Zaf IntKind.i64 (x1-x0.v)<=x1) then bif decide (Zaf IntKind.i64 (x1-x0.v)>=x2) then some ((Zaf IntKind.i64 (x1-x0.v),true)) else some ((x2,true)) else some ((x2,true)) else bif x0.tag == (8:Int) then match Zkd (x1,x0.v,x2,x3) with
 | some y1 => bif !y1 then some ((Zaf IntKind.i64 (x1+x0.v),true)) else some ((x1,false))
 | none=>none else some ((x1,false))
def Zd5 (x:Op×Int×Int×Int):Option (Int×Bool):=ZhI x.1 x.2.1 x.2.2.1 x.2.2.2
def ZgM (x0:Memo) (x1:Int) (x2:Int):Option (Memo×Int×Int) := match ZbH (x0.words,x1) with
 | some y1 => bif y1.snd != (0:Int) then some ((x0,(0:Int),y1.snd)) else match ZbB x0.words with
  | some y2 => bif decide ((0:Int)<=x1) then bif decide (x1<(↑(List.length y2):Int)) then some (({ x0 with words:=List.set y2 x1.toNat x2 },y1)) else none else none
  | none=>none
 | none=>none
def Zl2 (x:Memo×Int×Int):Option (Memo×Int×Int):=ZgM x.1 x.2.1 x.2.2
def Zk3 (x0:Config) (x1:Int) (x2:Int) (x3:Int):Option (Int) := bif decide (x1<(0:Int)) then some ((-1:Int)) else bif decide (x1>=x0.items) then some ((-1:Int)) else bif decide (x2<(1:Int)) then some ((-1:Int)) else bif decide (x2>=Zaf IntKind.i64 ((1:Int)+x0.layers)) then some ((-1:Int)) else bif decide (x3<(0:Int)) then some ((-1:Int)) else bif decide (x3>=x0.width) then some ((-1:Int)) else match Zco x0 with
 | some y1 => match Zco x0 with
  | some y2 => some (Zaf IntKind.i64 (Zaf IntKind.i64 (Zaf IntKind.i64 (Zaf IntKind.i64 (x1*y1.block)+y2.slots)+Zaf IntKind.i64 (Zaf IntKind.i64 (x2-(1:Int))*x0.width))+x3))
  | none=>none
 | none=>none
def ZkT (x:Config×Int×Int×Int):Option (Int):=Zk3 x.1 x.2.1 x.2.2.1 x.2.2.2
def ZgQ (x0:Tape):Option (Int) := bif decide (x0.at_<(0:Int)) then some ((0:Int)) else some (if Zaf IntKind.i64 ((↑x0.l.length:Int)-x0.at_)>(0:Int) then Zaf IntKind.i64 ((↑x0.l.length:Int)-x0.at_) else (0:Int))
def Zfz (x:Tape):Option (Int):=ZgQ x
end Go.Proofs.Mill
