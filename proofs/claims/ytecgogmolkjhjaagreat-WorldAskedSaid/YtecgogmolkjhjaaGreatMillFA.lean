/- What the functions compute. -/
import Derived.Test.YtecgogmolkjhjaaGreatMillAll3
set_option linter.all false
noncomputable section
namespace Go.Proofs.Mill
def ZsX (x0:Turn) (x1:Int):Option ((Turn×Int)⊕((Turn)⊕(Bool))) := bif decide (x1<(↑x0.m.boxes.length:Int)) then bif decide (x1<(20:Int)) then bif decide ((0:Int)<=x1) then bif decide (x1<(↑x0.m.boxes.length:Int)) then bif decide ((↑(List.length (x0.m.boxes.getD x1.toNat ([]:List Entry))):Int)>(20:Int)) then some (Sum.inr (Sum.inr true)) else some (Sum.inl (x0,Zaf IntKind.i64 (x1+(1:Int)))) else none else none else some (Sum.inr (Sum.inl x0)) else some (Sum.inr (Sum.inl x0))
def Zi9 (x:Turn×Int):Option ((Turn×Int)⊕((Turn)⊕(Bool))):=ZsX x.1 x.2
def Ztn (x:Turn×Int):Option ((Turn)⊕(Bool)):=Zav Zi9 x
def Zwu (x0:Turn):Option (Bool) := match Ztn (x0,(0:Int)) with
 | some (.inl y1) => bif decide ((↑y1.m.words.length:Int)>(400:Int)) then some (true) else bif decide ((↑y1.m.boxes.length:Int)>(16:Int)) then some (true) else bif decide ((↑y1.th.batch.length:Int)>(20:Int)) then some (true) else bif decide ((↑y1.th.kids.length:Int)>(20:Int)) then some (true) else bif decide ((↑y1.th.held.length:Int)>(20:Int)) then some (true) else bif decide ((↑y1.tape.l.length:Int)>(100:Int)) then some (true) else some (decide ((↑y1.log.length:Int)>(50:Int)))
 | some (.inr y2) => some (y2)
 | none=>none
def Zln (x:Turn):Option (Bool):=Zwu x
def ZdB (x0:Config):Option (Int) := bif decide (x0.threads<(1:Int)) then some ((50:Int)) else bif decide (x0.threads>(16:Int)) then some ((50:Int)) else bif decide (x0.items<(1:Int)) then some ((51:Int)) else bif decide (x0.items>(4:Int)) then some ((51:Int)) else bif decide (x0.backend<(1:Int)) then some ((52:Int)) else bif decide (x0.backend>(3:Int)) then some ((52:Int)) else bif decide (x0.depth<(0:Int)) then some ((53:Int)) else bif decide (x0.depth>(4:Int)) then some ((53:Int)) else bif decide (x0.layers<(0:Int)) then some ((54:Int)) else bif decide (x0.layers>(3:Int)) then some ((54:Int)) else bif decide (x0.width<(1:Int)) then some ((55:Int)) else bif decide (x0.width>(8:Int)) then some ((55:Int)) else bif decide (x0.spin<(0:Int)) then some ((56:Int)) else bif decide (x0.spin>(20:Int)) then some ((56:Int)) else bif decide (x0.wait<(0:Int)) then some ((57:Int)) else bif decide (x0.wait>(1000:Int)) then some ((57:Int)) else bif x0.bounded then bif decide (x0.lo>x0.init) then some ((58:Int)) else bif decide (x0.init>x0.hi) then some ((58:Int)) else some ((0:Int)) else some ((0:Int))
def Zed (x:Config):Option (Int):=ZdB x
def ZqR (x0:Config) (x1:Int) (x2:Int):Option ((Config×Int×Int)⊕((Int))) := bif decide (x2<x0.depth) then some (Sum.inl (x0,Zaf IntKind.i64 ((2:Int)*x1),Zaf IntKind.i64 (x2+(1:Int)))) else some (Sum.inr x1)
def Zhp (x:Config×Int×Int):Option ((Config×Int×Int)⊕((Int))):=ZqR x.1 x.2.1 x.2.2
def ZpM (x:Config×Int×Int):Option ((Int)):=Zav Zhp x
def ZtD (x0:Config):Option (Int) := match ZpM (x0,(1:Int),(0:Int)) with
 | some y1 => some (Zaf IntKind.i64 (y1-(1:Int)))
 | none=>none
def ZeR (x:Config):Option (Int):=ZtD x
def Zts (x0:Config):Option (Int) := match ZeR x0 with
 | some y1 => some (Zaf IntKind.i64 (Zaf IntKind.i64 ((1:Int)+y1)+Zaf IntKind.i64 (x0.layers*x0.width)))
 | none=>none
def ZdF (x:Config):Option (Int):=Zts x
def ZtR (x0:Config):Option (Int) := match ZdF x0 with
 | some y1 => some (Zaf IntKind.i64 (Zaf IntKind.i64 (x0.items*y1)+Zaf IntKind.i64 ((2:Int)*x0.threads)))
 | none=>none
def Zfz (x:Config):Option (Int):=ZtR x
def Zv0 (x0:Turn):Option (Bool) := match Zed x0.c with
 | some y1 => bif y1 == (0:Int) then bif decide (x0.t>=(0:Int)) then bif decide (x0.t<x0.c.threads) then match Zfz x0.c with
  | some y2 => bif (↑x0.m.words.length:Int) == y2 then bif (↑x0.m.boxes.length:Int) == x0.c.threads then bif decide (x0.th.item>=(0:Int)) then some (decide (x0.th.item<x0.c.items)) else some (false) else some (false) else some (false)
  | none=>none else some (false) else some (false) else some (false)
 | none=>none
def ZlA (x:Turn):Option (Bool):=Zv0 x
def ZrR (x0:List Entry) (x1:List Entry) (x2:Int):Option (((List Entry)×(List Entry)×Int)⊕((Unit)⊕(Bool))) := bif decide (x2<(↑x0.length:Int)) then bif decide ((0:Int)<=x2) then bif decide (x2<(↑x0.length:Int)) then bif decide ((0:Int)<=x2) then bif decide (x2<(↑x1.length:Int)) then bif !((x0.getD x2.toNat Zce).t == (x1.getD x2.toNat Zce).t && ((x0.getD x2.toNat Zce).op.tag == (x1.getD x2.toNat Zce).op.tag && ((x0.getD x2.toNat Zce).op.v == (x1.getD x2.toNat Zce).op.v && true) && true)) then some (Sum.inr (Sum.inr false)) else some (Sum.inl (x0,x1,Zaf IntKind.i64 (x2+(1:Int)))) else none else none else none else none else some (Sum.inr (Sum.inl ()))
def Zia (x:(List Entry)×(List Entry)×Int):Option (((List Entry)×(List Entry)×Int)⊕((Unit)⊕(Bool))):=ZrR x.1 x.2.1 x.2.2
def ZrP (x:(List Entry)×(List Entry)×Int):Option ((Unit)⊕(Bool)):=Zav Zia x
def ZuZ (x0:List Entry) (x1:List Entry):Option (Bool) := bif (↑x0.length:Int) != (↑x1.length:Int) then some (false) else match ZrP (x0,x1,(0:Int)) with
 | some (.inl y1) => some (true)
 | some (.inr y2) => some (y2)
 | none=>none
def Zkd (x:(List Entry)×(List Entry)):Option (Bool):=ZuZ x.1 x.2
def ZrY (x0:List Int) (x1:List Int) (x2:Int):Option (((List Int)×(List Int)×Int)⊕((Unit)⊕(Bool))) := bif decide (x2<(↑x0.length:Int)) then bif decide ((0:Int)<=x2) then bif decide (x2<(↑x0.length:Int)) then bif decide ((0:Int)<=x2) then bif decide (x2<(↑x1.length:Int)) then bif x0.getD x2.toNat (0:Int) != x1.getD x2.toNat (0:Int) then some (Sum.inr (Sum.inr false)) else some (Sum.inl (x0,x1,Zaf IntKind.i64 (x2+(1:Int)))) else none else none else none else none else some (Sum.inr (Sum.inl ()))
def Zh2 (x:(List Int)×(List Int)×Int):Option (((List Int)×(List Int)×Int)⊕((Unit)⊕(Bool))):=ZrY x.1 x.2.1 x.2.2
def Zr7 (x:(List Int)×(List Int)×Int):Option ((Unit)⊕(Bool)):=Zav Zh2 x
def Zvi (x0:List Int) (x1:List Int):Option (Bool) := bif (↑x0.length:Int) != (↑x1.length:Int) then some (false) else match Zr7 (x0,x1,(0:Int)) with
 | some (.inl y1) => some (true)
 | some (.inr y2) => some (y2)
 | none=>none
def Zke (x:(List Int)×(List Int)):Option (Bool):=Zvi x.1 x.2
def ZrM (x0:Memo) (x1:Memo) (x2:Int):Option ((Memo×Memo×Int)⊕((Unit)⊕(Bool))) := bif decide (x2<(↑x0.boxes.length:Int)) then bif decide ((0:Int)<=x2) then bif decide (x2<(↑x0.boxes.length:Int)) then bif decide ((0:Int)<=x2) then bif decide (x2<(↑x1.boxes.length:Int)) then match Zkd (x0.boxes.getD x2.toNat ([]:List Entry),x1.boxes.getD x2.toNat ([]:List Entry)) with
 | some y1 => bif !y1 then some (Sum.inr (Sum.inr false)) else some (Sum.inl (x0,x1,Zaf IntKind.i64 (x2+(1:Int))))
 | none=>none else none else none else none else none else some (Sum.inr (Sum.inl ()))
def Ziv (x:Memo×Memo×Int):Option ((Memo×Memo×Int)⊕((Unit)⊕(Bool))):=ZrM x.1 x.2.1 x.2.2
def ZrB (x:Memo×Memo×Int):Option ((Unit)⊕(Bool)):=Zav Ziv x
def Zu5 (x0:Memo) (x1:Memo):Option (Bool) := match Zke (x0.words,x1.words) with
 | some y1 => bif !y1 then some (false) else bif (↑x0.boxes.length:Int) != (↑x1.boxes.length:Int) then some (false) else match ZrB (x0,x1,(0:Int)) with
  | some (.inl y2) => some (true)
  | some (.inr y3) => some (y3)
  | none=>none
 | none=>none
def Zj8 (x:Memo×Memo):Option (Bool):=Zu5 x.1 x.2
def ZrO (x0:Thread) (x1:Thread) (x2:Int):Option ((Thread×Thread×Int)⊕((Thread×Thread)⊕(Bool))) := bif decide (x2<(↑x0.kids.length:Int)) then bif decide ((0:Int)<=x2) then bif decide (x2<(↑x0.kids.length:Int)) then bif decide ((0:Int)<=x2) then bif decide (x2<(↑x1.kids.length:Int)) then bif !((x0.kids.getD x2.toNat dKid).t == (x1.kids.getD x2.toNat dKid).t && ((x0.kids.getD x2.toNat dKid).ahead == (x1.kids.getD x2.toNat dKid).ahead && true)) then some (Sum.inr (Sum.inr false)) else some (Sum.inl (x0,x1,Zaf IntKind.i64 (x2+(1:Int)))) else none else none else none else none else some (Sum.inr (Sum.inl (x0,x1)))
def ZhU (x:Thread×Thread×Int):Option ((Thread×Thread×Int)⊕((Thread×Thread)⊕(Bool))):=ZrO x.1 x.2.1 x.2.2
def ZrD (x:Thread×Thread×Int):Option ((Thread×Thread)⊕(Bool)):=Zav ZhU x
def Zvn (x0:Thread) (x1:Thread):Option (Bool) := match Zkd (x0.batch,x1.batch) with
 | some y1 => bif !y1 then some (false) else match Zke (x0.held,x1.held) with
  | some y2 => bif !y2 then some (false) else bif (↑x0.kids.length:Int) != (↑x1.kids.length:Int) then some (false) else match ZrD (x0,x1,(0:Int)) with
   | some (.inl y3) => bif y3.fst.phase == y3.snd.phase then bif y3.fst.item == y3.snd.item then bif y3.fst.op.tag == y3.snd.op.tag && (y3.fst.op.v == y3.snd.op.v && true) then bif y3.fst.stop == y3.snd.stop then bif y3.fst.node == y3.snd.node then bif y3.fst.at_ == y3.snd.at_ then bif y3.fst.layer == y3.snd.layer then bif y3.fst.left == y3.snd.left then bif y3.fst.width == y3.snd.width then bif y3.fst.who == y3.snd.who then bif y3.fst.x == y3.snd.x then bif y3.fst.y == y3.snd.y then some (y3.fst.until_ == y3.snd.until_) else some (false) else some (false) else some (false) else some (false) else some (false) else some (false) else some (false) else some (false) else some (false) else some (false) else some (false) else some (false)
   | some (.inr y4) => some (y4)
   | none=>none
  | none=>none
 | none=>none
def Zko (x:Thread×Thread):Option (Bool):=Zvn x.1 x.2
def Zr0 (x0:Tape) (x1:Tape) (x2:Int):Option ((Tape×Tape×Int)⊕((Unit)⊕(Bool))) := bif decide (x2<(↑x0.l.length:Int)) then bif decide ((0:Int)<=x2) then bif decide (x2<(↑x0.l.length:Int)) then bif decide ((0:Int)<=x2) then bif decide (x2<(↑x1.l.length:Int)) then bif x0.l.getD x2.toNat (0:Int) != x1.l.getD x2.toNat (0:Int) then some (Sum.inr (Sum.inr false)) else some (Sum.inl (x0,x1,Zaf IntKind.i64 (x2+(1:Int)))) else none else none else none else none else some (Sum.inr (Sum.inl ()))
def Zio (x:Tape×Tape×Int):Option ((Tape×Tape×Int)⊕((Unit)⊕(Bool))):=Zr0 x.1 x.2.1 x.2.2
def Zr8 (x:Tape×Tape×Int):Option ((Unit)⊕(Bool)):=Zav Zio x
def ZuJ (x0:Tape) (x1:Tape):Option (Bool) := bif x0.at_ != x1.at_ then some (false) else bif (↑x0.l.length:Int) != (↑x1.l.length:Int) then some (false) else match Zr8 (x0,x1,(0:Int)) with
 | some (.inl y1) => some (true)
 | some (.inr y2) => some (y2)
 | none=>none
def Zj3 (x:Tape×Tape):Option (Bool):=ZuJ x.1 x.2
def ZqW (x0:List Mark) (x1:List Mark) (x2:Int):Option (((List Mark)×(List Mark)×Int)⊕((Unit)⊕(Bool))) := bif decide (x2<(↑x0.length:Int)) then bif decide ((0:Int)<=x2) then bif decide (x2<(↑x0.length:Int)) then bif decide ((0:Int)<=x2) then bif decide (x2<(↑x1.length:Int)) then bif !((x0.getD x2.toNat ZaS).t == (x1.getD x2.toNat ZaS).t && ((x0.getD x2.toNat ZaS).item == (x1.getD x2.toNat ZaS).item && ((x0.getD x2.toNat ZaS).op.tag == (x1.getD x2.toNat ZaS).op.tag && ((x0.getD x2.toNat ZaS).op.v == (x1.getD x2.toNat ZaS).op.v && true) && ((x0.getD x2.toNat ZaS).prior == (x1.getD x2.toNat ZaS).prior && ((x0.getD x2.toNat ZaS).step == (x1.getD x2.toNat ZaS).step && true))))) then some (Sum.inr (Sum.inr false)) else some (Sum.inl (x0,x1,Zaf IntKind.i64 (x2+(1:Int)))) else none else none else none else none else some (Sum.inr (Sum.inl ()))
def ZgV (x:(List Mark)×(List Mark)×Int):Option (((List Mark)×(List Mark)×Int)⊕((Unit)⊕(Bool))):=ZqW x.1 x.2.1 x.2.2
def ZqX (x:(List Mark)×(List Mark)×Int):Option ((Unit)⊕(Bool)):=Zav ZgV x
def Zs0 (x0:List Mark) (x1:List Mark):Option (Bool) := bif (↑x0.length:Int) != (↑x1.length:Int) then some (false) else match ZqX (x0,x1,(0:Int)) with
 | some (.inl y1) => some (true)
 | some (.inr y2) => some (y2)
 | none=>none
def Zjf (x:(List Mark)×(List Mark)):Option (Bool):=Zs0 x.1 x.2
def Ztd (x0:Turn) (x1:Turn):Option (Bool) := bif x0.c.threads == x1.c.threads && (x0.c.items == x1.c.items && (x0.c.backend == x1.c.backend && (x0.c.depth == x1.c.depth && (x0.c.layers == x1.c.layers && (x0.c.width == x1.c.width && (x0.c.spin == x1.c.spin && (x0.c.wait == x1.c.wait && (x0.c.bounded == x1.c.bounded && (x0.c.lo == x1.c.lo && (x0.c.hi == x1.c.hi && (x0.c.init == x1.c.init && true))))))))))) then bif x0.t == x1.t then bif x0.now == x1.now then match Zj8 (x0.m,x1.m) with
 | some y1 => bif y1 then match Zko (x0.th,x1.th) with
  | some y2 => bif y2 then match Zj3 (x0.tape,x1.tape) with
   | some y3 => bif y3 then match Zjf (x0.log,x1.log) with
    | some y4 => bif y4 then some (x0.done == x1.done) else some (false)
    | none=>none else some (false)
   | none=>none else some (false)
  | none=>none else some (false)
 | none=>none else some (false) else some (false) else some (false)
def Zjv (x:Turn×Turn):Option (Bool):=Ztd x.1 x.2
def Zoy (x0:List Entry) (x1:List Entry) (x2:Int):Option (((List Entry)×(List Entry)×Int)⊕(((List Entry)))) := bif decide (x2<(↑x0.length:Int)) then bif decide ((0:Int)<=x2) then bif decide (x2<(↑x0.length:Int)) then bif decide ((0:Int)<=x2) then bif decide (x2<(↑x0.length:Int)) then bif fewB (x1.length+(x0.getD x2.toNat Zce::([]:List Entry)).length) then some (Sum.inl (x0,x1++x0.getD x2.toNat Zce::([]:List Entry),Zaf IntKind.i64 (x2+(1:Int)))) else none else none else none else none else none else some (Sum.inr x1)
def Zf0 (x:(List Entry)×(List Entry)×Int):Option (((List Entry)×(List Entry)×Int)⊕(((List Entry)))):=Zoy x.1 x.2.1 x.2.2
def Zot (x:(List Entry)×(List Entry)×Int):Option (((List Entry))):=Zav Zf0 x
def ZpR (x0:List Entry):Option ((List Entry)) := match Zot (x0,([]:List Entry),(0:Int)) with
 | some y1 => some (y1)
 | none=>none
def ZhN (x:(List Entry)):Option ((List Entry)):=ZpR x
def Zpt (x0:Memo) (x1:Memo) (x2:Memo) (x3:Int):Option ((Memo×Memo×Memo×Int)⊕((Memo×Memo))) := bif decide (x3<(↑x0.boxes.length:Int)) then bif decide ((0:Int)<=x3) then bif decide (x3<(↑x0.boxes.length:Int)) then match ZhN (x0.boxes.getD x3.toNat ([]:List Entry)) with
 | some y1 => bif fewB (x2.boxes.length+(y1::([]:List (List Entry))).length) then some (Sum.inl (x0,x1,{ x2 with boxes:=x2.boxes++y1::([]:List (List Entry)) },Zaf IntKind.i64 (x3+(1:Int)))) else none
 | none=>none else none else none else some (Sum.inr (x1,x2))
def ZgF (x:Memo×Memo×Memo×Int):Option ((Memo×Memo×Memo×Int)⊕((Memo×Memo))):=Zpt x.1 x.2.1 x.2.2.1 x.2.2.2
def Zpj (x:Memo×Memo×Memo×Int):Option ((Memo×Memo)):=Zav ZgF x
def ZrG (x0:Memo):Option (Memo) := match Zpj (x0,Memo.mk ([]:List Int) ([]:List (List Entry)),{ x0 with boxes:=([]:List (List Entry)) },(0:Int)) with
 | some y1 => some (y1.snd)
 | none=>none
def ZlZ (x:Memo):Option (Memo):=ZrG x
def ZqQ (x0:Thread) (x1:Thread) (x2:Thread) (x3:Int):Option ((Thread×Thread×Thread×Int)⊕((Thread×Thread))) := bif decide (x3<(↑x0.kids.length:Int)) then bif decide ((0:Int)<=x3) then bif decide (x3<(↑x0.kids.length:Int)) then bif fewB (x2.kids.length+(x0.kids.getD x3.toNat dKid::([]:List Kid)).length) then some (Sum.inl (x0,x1,{ x2 with kids:=x2.kids++x0.kids.getD x3.toNat dKid::([]:List Kid) },Zaf IntKind.i64 (x3+(1:Int)))) else none else none else none else some (Sum.inr (x1,x2))
def Zhr (x:Thread×Thread×Thread×Int):Option ((Thread×Thread×Thread×Int)⊕((Thread×Thread))):=ZqQ x.1 x.2.1 x.2.2.1 x.2.2.2
def ZqO (x:Thread×Thread×Thread×Int):Option ((Thread×Thread)):=Zav Zhr x
def Zta (x0:Thread):Option (Thread) := match ZhN x0.batch with
 | some y1 => match ZqO (x0,Thread.mk (0:Int) (0:Int) (Op.mk (0:Int) (0:Int)) ([]:List Entry) ([]:List Kid) ([]:List Int) (0:Int) (0:Int) (0:Int) (0:Int) (0:Int) (0:Int) (0:Int) (0:Int) (0:Int) (0:Int),{ x0 with batch:=y1,kids:=([]:List Kid) },(0:Int)) with
  | some y2 => some (y2.snd)
  | none=>none
 | none=>none
def Zm2 (x:Thread):Option (Thread):=Zta x
def Zqp (x0:List Mark) (x1:List Mark) (x2:Int):Option (((List Mark)×(List Mark)×Int)⊕(((List Mark)))) := bif decide (x2<(↑x0.length:Int)) then bif decide ((0:Int)<=x2) then bif decide (x2<(↑x0.length:Int)) then bif decide ((0:Int)<=x2) then bif decide (x2<(↑x0.length:Int)) then bif decide ((0:Int)<=x2) then bif decide (x2<(↑x0.length:Int)) then bif decide ((0:Int)<=x2) then bif decide (x2<(↑x0.length:Int)) then bif decide ((0:Int)<=x2) then bif decide (x2<(↑x0.length:Int)) then bif fewB (x1.length+(x0.getD x2.toNat ZaS::([]:List Mark)).length) then some (Sum.inl (x0,x1++x0.getD x2.toNat ZaS::([]:List Mark),Zaf IntKind.i64 (x2+(1:Int)))) else none else none else none else none else none else none else none else none else none else none else none else some (Sum.inr x1)
def Zhk (x:(List Mark)×(List Mark)×Int):Option (((List Mark)×(List Mark)×Int)⊕(((List Mark)))):=Zqp x.1 x.2.1 x.2.2
def ZqU (x:(List Mark)×(List Mark)×Int):Option (((List Mark))):=Zav Zhk x
def Ztc (x0:List Mark):Option ((List Mark)) := match ZqU (x0,([]:List Mark),(0:Int)) with
 | some y1 => some (y1)
 | none=>none
def ZmV (x:(List Mark)):Option ((List Mark)):=Ztc x
def Zwa (x0:Turn):Option (Turn) := match ZlZ x0.m with
 | some y1 => match Zm2 x0.th with
  | some y2 => match ZmV x0.log with
   | some y3 => some ({ x0 with m:=y1,th:=y2,log:=y3 })
   | none=>none
  | none=>none
 | none=>none
def Zgb (x:Turn):Option (Turn):=Zwa x
def Zgj (x0:Int) (x1:Int):Option (Int×Bool) :=
 some ((Zaf IntKind.i64 (x0+x1),decide (x1>=(0:Int)) == decide (Zaf IntKind.i64 (x0+x1)>=x0)))
def Ze7 (x:Int×Int):Option (Int×Bool):=Zgj x.1 x.2
def ZcJ (x0:Op) (x1:Int) (x2:Int) (x3:Int):Option (Int×Bool) := bif x0.tag == (1:Int) then some ((Zaf IntKind.i64 (x1+x0.v),true)) else bif x0.tag == (2:Int) then some ((Zaf IntKind.i64 (x1-x0.v),true)) else bif x0.tag == (3:Int) then some ((Zaf IntKind.i64 (↑(BitVec.ofInt IntKind.i64.bits x1 ||| BitVec.ofInt IntKind.i64.bits x0.v).toNat:Int),true)) else bif x0.tag == (4:Int) then some ((Zaf IntKind.i64 (↑(BitVec.ofInt IntKind.i64.bits x1 &&& BitVec.ofInt IntKind.i64.bits x0.v).toNat:Int),true)) else bif x0.tag == (5:Int) then some ((if x0.v>x1 then x0.v else x1,true)) else bif x0.tag == (6:Int) then some ((if x0.v<x1 then x0.v else x1,true)) else bif x0.tag == (7:Int) then some ((x0.v,true)) else bif x0.tag == (8:Int) then match Ze7 (x1,x0.v) with
 | some y1 => bif !y1.snd then some ((x1,false)) else bif decide (y1.fst<x2) then some ((x1,false)) else bif decide (y1.fst>x3) then some ((x1,false)) else some ((y1.fst,true))
 | none=>none else bif x0.tag == (9:Int) then bif decide (x0.v<(0:Int)) then some ((x1,false)) else bif decide (x1<x2) then some ((x1,false)) else bif decide (IntKind.u64.wrap x0.v>=Zaf IntKind.u64 (IntKind.u64.wrap x1-IntKind.u64.wrap x2)) then some ((x2,true)) else some ((Zaf IntKind.i64 (x1-x0.v),true)) else some ((x1,false))
def Zc2 (x:Op×Int×Int×Int):Option (Int×Bool):=ZcJ x.1 x.2.1 x.2.2.1 x.2.2.2
def Zk0 (x0:Int):Option ((List Int)) := bif decide (x0<(1:Int)) then some (([]:List Int)) else bif decide (x0>(10000:Int)) then some (([]:List Int)) else bif x0 == x0 then bif decide ((0:Int)<=x0) then bif decide (x0<=Zby) then some (List.replicate x0.toNat (0:Int)) else none else none else none
def Zhn (x:Int):Option ((List Int)):=Zk0 x
def Zfu (x0:Int):Option ((List (List Entry))) := bif decide (x0<(1:Int)) then some (([]:List (List Entry))) else bif decide (x0>(10000:Int)) then some (([]:List (List Entry))) else bif x0 == x0 then bif decide ((0:Int)<=x0) then bif decide (x0<=Zby) then some (List.replicate x0.toNat ([]:List Entry)) else none else none else none
def Zd4 (x:Int):Option ((List (List Entry))):=Zfu x
def Zmm (x0:Int) (x1:Int):Option (Memo) := match Zhn x0 with
 | some y1 => match Zd4 x1 with
  | some y2 => some (Memo.mk y1 y2)
  | none=>none
 | none=>none
def Zmi (x:Int×Int):Option (Memo):=Zmm x.1 x.2
def ZjB (x0:Config):Option (Int) := bif decide (x0.depth<(0:Int)) then none else some (Zaf IntKind.i64 (Zaf IntKind.i64 ((1:Int)*(2:Int) ^ min x0.depth.toNat IntKind.i64.bits)-(1:Int)))
def ZeW (x:Config):Option (Int):=ZjB x
def Zl9 (x0:Config):Option (Plan) := match ZeW x0 with
 | some y1 => some (Plan.mk (1:Int) (Zaf IntKind.i64 ((1:Int)+y1)) (Zaf IntKind.i64 (Zaf IntKind.i64 ((1:Int)+y1)+Zaf IntKind.i64 (x0.layers*x0.width))) (Zaf IntKind.i64 (x0.items*Zaf IntKind.i64 (Zaf IntKind.i64 ((1:Int)+y1)+Zaf IntKind.i64 (x0.layers*x0.width)))))
 | none=>none
def Zcm (x:Config):Option (Plan):=Zl9 x
def Zj2 (x0:Config):Option (Int) := match Zcm x0 with
 | some y1 => some (Zaf IntKind.i64 (y1.lines+Zaf IntKind.i64 ((2:Int)*x0.threads)))
 | none=>none
def ZjZ (x:Config):Option (Int):=Zj2 x
def ZhH (x0:Config) (x1:Int):Option (Int) := bif decide (x1<(0:Int)) then some ((-1:Int)) else bif decide (x1>=x0.items) then some ((-1:Int)) else match Zcm x0 with
 | some y1 => some (Zaf IntKind.i64 (x1*y1.block))
 | none=>none
def Zdf (x:Config×Int):Option (Int):=ZhH x.1 x.2
def Zeh (x0:Config) (x1:Memo) (x2:Memo) (x3:Int) (x4:Int):Option ((Config×Memo×Memo×Int×Int)⊕((Memo×Memo))) := bif decide (x4<x3) then match Zdf (x0,x4) with
 | some y1 => bif decide ((0:Int)<=y1) then bif decide (y1<(↑x2.words.length:Int)) then some (Sum.inl (x0,x1,{ x2 with words:=x2.words.set (Int.toNat y1) x0.init },x3,Zaf IntKind.i64 (x4+(1:Int)))) else none else none
 | none=>none else some (Sum.inr (x1,x2))
def Zff (x:Config×Memo×Memo×Int×Int):Option ((Config×Memo×Memo×Int×Int)⊕((Memo×Memo))):=Zeh x.1 x.2.1 x.2.2.1 x.2.2.2.1 x.2.2.2.2
def Zlf (x:Config×Memo×Memo×Int×Int):Option ((Memo×Memo)):=Zav Zff x
def Zjb (x0:Config):Option (Memo) := match ZjZ x0 with
 | some y1 => match Zmi (y1,x0.threads) with
  | some y2 => match Zlf (x0,Memo.mk ([]:List Int) ([]:List (List Entry)),y2,x0.items,(0:Int)) with
   | some y3 => some (y3.snd)
   | none=>none
  | none=>none
 | none=>none
def ZdC (x:Config):Option (Memo):=Zjb x
def Zeu (x0:Int) (x1:Int):Option (Int) := bif decide (x0<(1:Int)) then some ((0:Int)) else bif decide (Zaf IntKind.i64 (x0-(1:Int))<(0:Int)) then none else some (Zaf IntKind.i64 (↑(BitVec.ofInt IntKind.i64.bits (Zaf IntKind.i64 ((1:Int)*(2:Int) ^ min (Zaf IntKind.i64 (x0-(1:Int))).toNat IntKind.i64.bits)) ||| BitVec.ofInt IntKind.i64.bits (Zaf IntKind.i64 (↑(BitVec.ofInt IntKind.i64.bits (x1.fdiv ((2:Int) ^ min (Int.toNat (1:Int)) IntKind.i64.bits)) &&& BitVec.ofInt IntKind.i64.bits (Zaf IntKind.i64 (Zaf IntKind.i64 ((1:Int)*(2:Int) ^ min (Zaf IntKind.i64 (x0-(1:Int))).toNat IntKind.i64.bits)-(1:Int)))).toNat:Int))).toNat:Int))
def ZkK (x:Int×Int):Option (Int):=Zeu x.1 x.2
def Zh5 (x0:Config) (x1:Int) (x2:Thread) (x3:Int) (x4:Op) (x5:Int):Option (Thread) := match ZkK (x0.depth,x1) with
 | some y1 => bif decide (x0.wait>(0:Int)) then some (Thread.mk (1:Int) x3 x4 (Entry.mk x1 x4::([]:List Entry)) ([]:List Kid) ([]:List Int) (0:Int) y1 (0:Int) (0:Int) (0:Int) x2.width (0:Int) (0:Int) (0:Int) (Zaf IntKind.i64 (x5+x0.wait))) else some (Thread.mk (1:Int) x3 x4 (Entry.mk x1 x4::([]:List Entry)) ([]:List Kid) ([]:List Int) (0:Int) y1 (0:Int) (0:Int) (0:Int) x2.width (0:Int) (0:Int) (0:Int) (0:Int))
 | none=>none
def ZcP (x:Config×Int×Thread×Int×Op×Int):Option (Thread):=Zh5 x.1 x.2.1 x.2.2.1 x.2.2.2.1 x.2.2.2.2.1 x.2.2.2.2.2
def Zvj:Option (Thread) :=
 some (Thread.mk (0:Int) (0:Int) (Op.mk (0:Int) (0:Int)) ([]:List Entry) ([]:List Kid) ([]:List Int) (0:Int) (0:Int) (0:Int) (0:Int) (0:Int) (1:Int) (0:Int) (0:Int) (0:Int) (0:Int))
def Zd3 (x:Unit):Option (Thread):=Zvj
def Zqd (x0:Turn):Option (Bool) := match ZlA x0 with
 | some y1 => bif y1 then bif decide (x0.th.phase<(17:Int)) then some (true) else bif decide (x0.th.layer>=(1:Int)) then some (decide (x0.th.layer<=(3:Int))) else some (false) else some (false)
 | none=>none
def Zk5 (x:Turn):Option (Bool):=Zqd x
def Zwo (x0:Op) (x1:Bool):Option (Bool) := bif x1 then bif x0.tag == (8:Int) then some (true) else bif x0.tag == (9:Int) then some (decide (x0.v>=(0:Int))) else some (false) else bif decide (x0.tag>=(1:Int)) then some (decide (x0.tag<=(7:Int))) else some (false)
def Zli (x:Op×Bool):Option (Bool):=Zwo x.1 x.2
def Zq8 (x0:Config):Option (Int) :=
 some (Zaf IntKind.i64 (Zaf IntKind.i64 ((20:Int)+Zaf IntKind.i64 ((8:Int)*x0.depth))+Zaf IntKind.i64 (x0.layers*Zaf IntKind.i64 ((20:Int)+Zaf IntKind.i64 ((2:Int)*x0.spin)))))
def ZlY (x:Config):Option (Int):=Zq8 x
def ZeS (x0:Thread):Option (Bool) :=
 some (x0.phase != (0:Int))
def ZbE (x:Thread):Option (Bool):=ZeS x
def ZvC (x0:Config) (x1:Int):Option (Int) := bif decide (x1<(0:Int)) then some ((-1:Int)) else bif decide (x1>=x0.items) then some ((-1:Int)) else match ZdF x0 with
 | some y1 => some (Zaf IntKind.i64 (x1*y1))
 | none=>none
def Zey (x:Config×Int):Option (Int):=ZvC x.1 x.2
def Zuk (x0:Config) (x1:Int) (x2:Int):Option (Int) := bif decide (x1<(0:Int)) then some ((-1:Int)) else bif decide (x1>=x0.items) then some ((-1:Int)) else bif decide (x2<(1:Int)) then some ((-1:Int)) else match ZeR x0 with
 | some y1 => bif decide (x2>y1) then some ((-1:Int)) else match ZdF x0 with
  | some y2 => some (Zaf IntKind.i64 (Zaf IntKind.i64 (x1*y2)+x2))
  | none=>none
 | none=>none
def ZfH (x:Config×Int×Int):Option (Int):=Zuk x.1 x.2.1 x.2.2
def Zvm (x0:Config) (x1:Int):Option (Int) := bif decide (x1<(0:Int)) then some ((-1:Int)) else bif decide (x1>=x0.threads) then some ((-1:Int)) else match ZdF x0 with
 | some y1 => some (Zaf IntKind.i64 (Zaf IntKind.i64 (x0.items*y1)+Zaf IntKind.i64 ((2:Int)*x1)))
 | none=>none
def Zdo (x:Config×Int):Option (Int):=Zvm x.1 x.2
def ZkP (x0:List SEntry) (x1:List Int):Option (Bool) := bif decide ((↑x0.length:Int)>(400:Int)) then some (true) else some (decide ((↑x1.length:Int)>(200:Int)))
def Zkx (x:(List SEntry)×(List Int)):Option (Bool):=ZkP x.1 x.2
def Zti (x0:Int) (x1:Memo) (x2:Memo) (x3:Int):Option ((Int×Memo×Memo×Int)⊕((Memo×Memo))) := bif decide (x3<x0) then bif decide (x0<=(10000:Int)) then bif fewB (x2.boxes.length+(([]:List Entry)::([]:List (List Entry))).length) then some (Sum.inl (x0,x1,{ x2 with boxes:=x2.boxes++([]:List Entry)::([]:List (List Entry)) },Zaf IntKind.i64 (x3+(1:Int)))) else none else some (Sum.inr (x1,x2)) else some (Sum.inr (x1,x2))
def Zjw (x:Int×Memo×Memo×Int):Option ((Int×Memo×Memo×Int)⊕((Memo×Memo))):=Zti x.1 x.2.1 x.2.2.1 x.2.2.2
def Ztw (x:Int×Memo×Memo×Int):Option ((Memo×Memo)):=Zav Zjw x
def Ztz (x0:Int) (x1:Int) (x2:Memo) (x3:Memo) (x4:Int):Option ((Int×Int×Memo×Memo×Int)⊕((Int×Memo×Memo))) := bif decide (x4<x0) then bif decide (x0<=(10000:Int)) then bif fewB (x3.words.length+((0:Int)::([]:List Int)).length) then some (Sum.inl (x0,x1,x2,{ x3 with words:=x3.words++(0:Int)::([]:List Int) },Zaf IntKind.i64 (x4+(1:Int)))) else none else some (Sum.inr (x1,x2,x3)) else some (Sum.inr (x1,x2,x3))
def Zi8 (x:Int×Int×Memo×Memo×Int):Option ((Int×Int×Memo×Memo×Int)⊕((Int×Memo×Memo))):=Ztz x.1 x.2.1 x.2.2.1 x.2.2.2.1 x.2.2.2.2
def Ztx (x:Int×Int×Memo×Memo×Int):Option ((Int×Memo×Memo)):=Zav Zi8 x
def Zwb (x0:Int) (x1:Int):Option (Memo) := match Ztx (x0,x1,Memo.mk ([]:List Int) ([]:List (List Entry)),Memo.mk ([]:List Int) ([]:List (List Entry)),(0:Int)) with
 | some y1 => match Ztw (y1.fst,y1.snd.fst,y1.snd.snd,(0:Int)) with
  | some y2 => some (y2.snd)
  | none=>none
 | none=>none
def ZoE (x:Int×Int):Option (Memo):=Zwb x.1 x.2
def Zs3 (x0:Memo) (x1:Int) (x2:Int):Option (Memo×Int) := bif decide (x1<(0:Int)) then some ((x0,(30:Int))) else bif decide (x1>=(↑x0.words.length:Int)) then some ((x0,(30:Int))) else bif fewB ((0:Nat)+x0.words.length) then bif decide ((0:Int)<=x1) then bif decide (x1<(↑x0.words.length:Int)) then some (({ x0 with words:=x0.words.set x1.toNat x2 },(0:Int))) else none else none else none
def Zct (x:Memo×Int×Int):Option (Memo×Int):=Zs3 x.1 x.2.1 x.2.2
def ZpG (x0:Config) (x1:Memo) (x2:Memo) (x3:Int):Option ((Config×Memo×Memo×Int)⊕((Memo×Memo))) := bif decide (x3<x0.items) then match Zey (x0,x3) with
 | some y1 => match Zct (x2,y1,x0.init) with
  | some y2 => some (Sum.inl (x0,x1,y2.fst,Zaf IntKind.i64 (x3+(1:Int))))
  | none=>none
 | none=>none else some (Sum.inr (x1,x2))
def Zhj (x:Config×Memo×Memo×Int):Option ((Config×Memo×Memo×Int)⊕((Memo×Memo))):=ZpG x.1 x.2.1 x.2.2.1 x.2.2.2
def Zp1 (x:Config×Memo×Memo×Int):Option ((Memo×Memo)):=Zav Zhj x
def Zty (x0:Config):Option (Memo) := match Zfz x0 with
 | some y1 => match ZoE (y1,x0.threads) with
  | some y2 => match Zp1 (x0,Memo.mk ([]:List Int) ([]:List (List Entry)),y2,(0:Int)) with
   | some y3 => some (y3.snd)
   | none=>none
  | none=>none
 | none=>none
def ZmH (x:Config):Option (Memo):=Zty x
def Zv4:Option (Thread) :=
 some (Thread.mk (0:Int) (0:Int) (Op.mk (0:Int) (0:Int)) ([]:List Entry) ([]:List Kid) ([]:List Int) (0:Int) (0:Int) (0:Int) (0:Int) (0:Int) (1:Int) (0:Int) (0:Int) (0:Int) (0:Int))
def ZoC (x:Unit):Option (Thread):=Zv4
def Ztv (x0:Config) (x1:Wld) (x2:Wld) (x3:Int):Option ((Config×Wld×Wld×Int)⊕((Wld×Wld))) := bif decide (x3<x0.threads) then match ZoC () with
 | some y1 => bif fewB (x2.t.length+(y1::([]:List Thread)).length) then some (Sum.inl (x0,x1,{ x2 with t:=x2.t++y1::([]:List Thread) },Zaf IntKind.i64 (x3+(1:Int)))) else none
 | none=>none else some (Sum.inr (x1,x2))
def Zjm (x:Config×Wld×Wld×Int):Option ((Config×Wld×Wld×Int)⊕((Wld×Wld))):=Ztv x.1 x.2.1 x.2.2.1 x.2.2.2
def Ztu (x:Config×Wld×Wld×Int):Option ((Wld×Wld)):=Zav Zjm x
def Zws (x0:Config) (x1:List Int):Option (Wld×Int) := match Zed x0 with
 | some y1 => bif y1 != (0:Int) then some ((Wld.mk (Config.mk (0:Int) (0:Int) (0:Int) (0:Int) (0:Int) (0:Int) (0:Int) (0:Int) false (0:Int) (0:Int) (0:Int)) (Memo.mk ([]:List Int) ([]:List (List Entry))) ([]:List Thread) (0:Int) (0:Int) (Tape.mk ([]:List Int) (0:Int)) ([]:List Mark) ([]:List Event),y1)) else match ZmH x0 with
  | some y2 => bif fewB ((0:Nat)+x1.length) then match Ztu (x0,Wld.mk (Config.mk (0:Int) (0:Int) (0:Int) (0:Int) (0:Int) (0:Int) (0:Int) (0:Int) false (0:Int) (0:Int) (0:Int)) (Memo.mk ([]:List Int) ([]:List (List Entry))) ([]:List Thread) (0:Int) (0:Int) (Tape.mk ([]:List Int) (0:Int)) ([]:List Mark) ([]:List Event),Wld.mk x0 y2 ([]:List Thread) (0:Int) (0:Int) (Tape.mk x1 (0:Int)) ([]:List Mark) ([]:List Event),(0:Int)) with
   | some y3 => some ((y3.snd,(0:Int)))
   | none=>none else none
  | none=>none
 | none=>none
def ZoY (x:Config×(List Int)):Option (Wld×Int):=Zws x.1 x.2
def Ztq (x0:Config) (x1:SEntry):Option (Int) := bif decide (x1.kind<(1:Int)) then some ((90:Int)) else bif decide (x1.kind>(3:Int)) then some ((90:Int)) else bif x1.kind == (3:Int) then some ((0:Int)) else bif decide (x1.t<(0:Int)) then some ((91:Int)) else bif decide (x1.t>=x0.threads) then some ((91:Int)) else bif x1.kind == (2:Int) then some ((0:Int)) else bif decide (x1.item<(0:Int)) then some ((92:Int)) else bif decide (x1.item>=x0.items) then some ((92:Int)) else match Zli (x1.op,x0.bounded) with
 | some y1 => bif !y1 then some ((93:Int)) else some ((0:Int))
 | none=>none
def ZjC (x:Config×SEntry):Option (Int):=Ztq x.1 x.2
def ZvQ (x0:Thread):Option (Bool) :=
 some (x0.phase != (0:Int))
def Zhz (x:Thread):Option (Bool):=ZvQ x
def Zvc (x0:Wld) (x1:Event):Option (Wld) := bif fewB ((0:Nat)+x0.hist.length) then bif fewB (x0.hist.length+({ x1 with step:=x0.steps }::([]:List Event)).length) then some ({ x0 with hist:=x0.hist++{ x1 with step:=x0.steps }::([]:List Event) }) else none else none
def ZgW (x:Wld×Event):Option (Wld):=Zvc x.1 x.2
def Zrm (x0:Wld) (x1:Int) (x2:Thread):Option (Wld) := bif fewB ((0:Nat)+x0.t.length) then bif decide ((0:Int)<=x1) then bif decide (x1<(↑x0.t.length:Int)) then some ({ x0 with t:=x0.t.set x1.toNat x2 }) else none else none else none
def Zit (x:Wld×Int×Thread):Option (Wld):=Zrm x.1 x.2.1 x.2.2
def Zrp (x0:Int) (x1:Int) (x2:Int) (x3:Int):Option ((Int×Int×Int×Int)⊕((Int×Int))) := bif decide (x3<x0) then some (Sum.inl (x0,x1,Zaf IntKind.i64 ((2:Int)*x2),Zaf IntKind.i64 (x3+(1:Int)))) else some (Sum.inr (x1,x2))
def Zis (x:Int×Int×Int×Int):Option ((Int×Int×Int×Int)⊕((Int×Int))):=Zrp x.1 x.2.1 x.2.2.1 x.2.2.2
def Zrg (x:Int×Int×Int×Int):Option ((Int×Int)):=Zav Zis x
def ZuT (x0:Int) (x1:Int):Option (Int) := bif decide (x0<(1:Int)) then some ((0:Int)) else match Zrg (x0,x1,(1:Int),(1:Int)) with
 | some y1 => bif decide (y1.snd=(0:Int)) then none else some (Zaf IntKind.i64 (y1.snd+(Zaf IntKind.i64 (Int.tdiv y1.fst (2:Int))).tmod y1.snd))
 | none=>none
def Zno (x:Int×Int):Option (Int):=ZuT x.1 x.2
def Zs7 (x0:Config) (x1:Int) (x2:Thread) (x3:Int) (x4:Op) (x5:Int):Option (Thread) := match Zno (x0.depth,x1) with
 | some y1 => bif decide (x0.wait>(0:Int)) then some (Thread.mk (1:Int) x3 x4 (Entry.mk x1 x4::([]:List Entry)) ([]:List Kid) ([]:List Int) (0:Int) y1 (0:Int) (0:Int) (0:Int) x2.width (0:Int) (0:Int) (0:Int) (Zaf IntKind.i64 (x5+x0.wait))) else some (Thread.mk (1:Int) x3 x4 (Entry.mk x1 x4::([]:List Entry)) ([]:List Kid) ([]:List Int) (0:Int) y1 (0:Int) (0:Int) (0:Int) x2.width (0:Int) (0:Int) (0:Int) (0:Int))
 | none=>none
def ZmJ (x:Config×Int×Thread×Int×Op×Int):Option (Thread):=Zs7 x.1 x.2.1 x.2.2.1 x.2.2.2.1 x.2.2.2.2.1 x.2.2.2.2.2
def Ztr (x0:Turn):Option (Turn) := bif x0.c.backend == (2:Int) then bif decide (x0.c.depth>(0:Int)) then bif x0.c.backend == (3:Int) then bif decide (x0.c.layers>(0:Int)) then some ({ x0 with th:={ x0.th with phase:=(17:Int),layer:=(1:Int) } }) else some ({ x0 with th:={ x0.th with phase:=(4:Int) } }) else some ({ x0 with th:={ x0.th with phase:=(4:Int) } }) else bif x0.c.backend == (3:Int) then bif decide (x0.c.layers>(0:Int)) then some ({ x0 with th:={ x0.th with phase:=(17:Int),layer:=(1:Int) } }) else some ({ x0 with th:={ x0.th with phase:=(2:Int) } }) else some ({ x0 with th:={ x0.th with phase:=(2:Int) } }) else bif x0.c.backend == (3:Int) then bif decide (x0.c.layers>(0:Int)) then some ({ x0 with th:={ x0.th with phase:=(17:Int),layer:=(1:Int) } }) else some ({ x0 with th:={ x0.th with phase:=(2:Int) } }) else some ({ x0 with th:={ x0.th with phase:=(2:Int) } })
def ZmS (x:Turn):Option (Turn):=Ztr x
def ZvF (x0:Memo) (x1:Int):Option (Int×Int) := bif decide (x1<(0:Int)) then some (((0:Int),(30:Int))) else bif decide (x1>=(↑x0.words.length:Int)) then some (((0:Int),(30:Int))) else bif decide ((0:Int)<=x1) then bif decide (x1<(↑x0.words.length:Int)) then some ((x0.words.getD x1.toNat (0:Int),(0:Int))) else none else none
def ZcE (x:Memo×Int):Option (Int×Int):=ZvF x.1 x.2
def ZvP:Option (Int) :=
 some ((5:Int))
def Zhe (x:Unit):Option (Int):=ZvP
def Zr5 (x0:Config) (x1:Int):Option (Int) := bif decide (x1<(0:Int)) then some ((-1:Int)) else bif decide (x1>=x0.threads) then some ((-1:Int)) else match ZdF x0 with
 | some y1 => some (Zaf IntKind.i64 (Zaf IntKind.i64 (Zaf IntKind.i64 (x0.items*y1)+Zaf IntKind.i64 ((2:Int)*x1))+(1:Int)))
 | none=>none
def Zh4 (x:Config×Int):Option (Int):=Zr5 x.1 x.2
def ZrN (x0:Turn):Option (Turn) := bif decide (x0.th.at_>=(0:Int)) then bif decide (x0.th.at_<(↑x0.th.kids.length:Int)) then some ({ x0 with th:={ x0.th with phase:=(15:Int) } }) else some ({ x0 with th:={ x0.th with phase:=(0:Int) },done:=true }) else some ({ x0 with th:={ x0.th with phase:=(0:Int) },done:=true })
def ZfN (x:Turn):Option (Turn):=ZrN x
def Zs2 (x0:List Entry) (x1:Int) (x2:Int) (x3:Int) (x4:Int):Option (((List Entry)×Int×Int×Int×Int)⊕((Int))) := bif decide (x4<(↑x0.length:Int)) then bif decide ((0:Int)<=x4) then bif decide (x4<(↑x0.length:Int)) then match Zc2 ((x0.getD x4.toNat Zce).op,x1,x2,x3) with
 | some y1 => some (Sum.inl (x0,y1.fst,x2,x3,Zaf IntKind.i64 (x4+(1:Int))))
 | none=>none else none else none else some (Sum.inr x1)
def Zju (x:(List Entry)×Int×Int×Int×Int):Option (((List Entry)×Int×Int×Int×Int)⊕((Int))):=Zs2 x.1 x.2.1 x.2.2.1 x.2.2.2.1 x.2.2.2.2
def ZsV (x:(List Entry)×Int×Int×Int×Int):Option ((Int)):=Zav Zju x
def ZvY (x0:List Entry) (x1:Int) (x2:Int) (x3:Int):Option (Int) := match ZsV (x0,x1,x2,x3,(0:Int)) with
 | some y1 => some (y1)
 | none=>none
def Zf8 (x:(List Entry)×Int×Int×Int):Option (Int):=ZvY x.1 x.2.1 x.2.2.1 x.2.2.2
def ZrE (x0:List Entry) (x1:Int) (x2:List Entry) (x3:Int):Option (((List Entry)×Int×(List Entry)×Int)⊕(((List Entry)))) := bif decide (x3<(↑x0.length:Int)) then bif decide (x3<x1) then bif decide ((0:Int)<=x3) then bif decide (x3<(↑x0.length:Int)) then bif fewB (x2.length+(x0.getD x3.toNat Zce::([]:List Entry)).length) then some (Sum.inl (x0,x1,x2++x0.getD x3.toNat Zce::([]:List Entry),Zaf IntKind.i64 (x3+(1:Int)))) else none else none else none else some (Sum.inr x2) else some (Sum.inr x2)
def Zh3 (x:(List Entry)×Int×(List Entry)×Int):Option (((List Entry)×Int×(List Entry)×Int)⊕(((List Entry)))):=ZrE x.1 x.2.1 x.2.2.1 x.2.2.2
def Zri (x:(List Entry)×Int×(List Entry)×Int):Option (((List Entry))):=Zav Zh3 x
def Zt8 (x0:List Entry) (x1:Int):Option ((List Entry)) := match Zri (x0,x1,([]:List Entry),(0:Int)) with
 | some y1 => some (y1)
 | none=>none
def ZkG (x:(List Entry)×Int):Option ((List Entry)):=Zt8 x.1 x.2
def Zt9 (x0:Turn):Option (Turn) := bif decide ((0:Int)<=x0.th.at_) then bif decide (x0.th.at_<(↑x0.th.kids.length:Int)) then bif x0.th.phase == (15:Int) then match Zh4 (x0.c,(x0.th.kids.getD x0.th.at_.toNat dKid).t) with
 | some y1 => match ZkG (x0.th.batch,(x0.th.kids.getD x0.th.at_.toNat dKid).ahead) with
  | some y2 => match Zf8 (y2,x0.th.x,x0.c.lo,x0.c.hi) with
   | some y3 => match Zct (x0.m,y1,y3) with
    | some y4 => bif y4.snd == (0:Int) then some ({ x0 with m:=y4.fst,th:={ x0.th with phase:=(16:Int) } }) else some (x0)
    | none=>none
   | none=>none
  | none=>none
 | none=>none else match Zdo (x0.c,(x0.th.kids.getD x0.th.at_.toNat dKid).t) with
 | some y1 => match Zhe () with
  | some y2 => match Zct (x0.m,y1,y2) with
   | some y3 => bif y3.snd != (0:Int) then some (x0) else match ZfN { x0 with m:=y3.fst,th:={ x0.th with at_:=Zaf IntKind.i64 (x0.th.at_+(1:Int)) } } with
     | some y4 => some (y4)
     | none=>none
   | none=>none
  | none=>none
 | none=>none else none else none
def Zj9 (x:Turn):Option (Turn):=Zt9 x
def Zvz (x0:Turn):Option (Turn×Bool) := bif x0.th.phase == (13:Int) then match Zdo (x0.c,x0.t) with
 | some y1 => match ZcE (x0.m,y1) with
  | some y2 => bif y2.snd == (0:Int) then match Zhe () with
    | some y3 => bif y2.fst == y3 then some (({ x0 with th:={ x0.th with phase:=(14:Int) } },true)) else some ((x0,true))
    | none=>none else some ((x0,true))
  | none=>none
 | none=>none else bif x0.th.phase == (14:Int) then match Zh4 (x0.c,x0.t) with
  | some y1 => match ZcE (x0.m,y1) with
   | some y2 => bif y2.snd != (0:Int) then some ((x0,true)) else match ZfN { x0 with th:={ x0.th with at_:=(0:Int),x:=y2.fst } } with
     | some y3 => some ((y3,true))
     | none=>none
   | none=>none
  | none=>none else bif x0.th.phase == (15:Int) then bif x0.th.phase == (15:Int) then bif decide (x0.th.at_<(0:Int)) then some ((x0,true)) else bif decide (x0.th.at_>=(↑x0.th.kids.length:Int)) then some ((x0,true)) else match Zj9 x0 with
      | some y1 => some ((y1,true))
      | none=>none else some ((x0,false)) else bif x0.th.phase == (16:Int) then bif decide (x0.th.at_<(0:Int)) then some ((x0,true)) else bif decide (x0.th.at_>=(↑x0.th.kids.length:Int)) then some ((x0,true)) else match Zj9 x0 with
      | some y1 => some ((y1,true))
      | none=>none else some ((x0,false))
def Zns (x:Turn):Option (Turn×Bool):=Zvz x
def Zpv (x0:List Entry) (x1:Int) (x2:Int) (x3:Int) (x4:List Int) (x5:Int):Option (((List Entry)×Int×Int×Int×(List Int)×Int)⊕(((List Int)))) := bif decide (x5<(↑x0.length:Int)) then match ZkG (x0,x5) with
 | some y1 => match Zf8 (y1,x1,x2,x3) with
  | some y2 => bif fewB (x4.length+(y2::([]:List Int)).length) then some (Sum.inl (x0,x1,x2,x3,x4++y2::([]:List Int),Zaf IntKind.i64 (x5+(1:Int)))) else none
  | none=>none
 | none=>none else some (Sum.inr x4)
def ZgP (x:(List Entry)×Int×Int×Int×(List Int)×Int):Option (((List Entry)×Int×Int×Int×(List Int)×Int)⊕(((List Int)))):=Zpv x.1 x.2.1 x.2.2.1 x.2.2.2.1 x.2.2.2.2.1 x.2.2.2.2.2
def ZpA (x:(List Entry)×Int×Int×Int×(List Int)×Int):Option (((List Int))):=Zav ZgP x
def Zrz (x0:List Entry) (x1:Int) (x2:Int) (x3:Int):Option ((List Int)) := match ZpA (x0,x1,x2,x3,([]:List Int),(0:Int)) with
 | some y1 => some (y1)
 | none=>none
def ZlO (x:(List Entry)×Int×Int×Int):Option ((List Int)):=Zrz x.1 x.2.1 x.2.2.1 x.2.2.2
def Zo2 (x0:Int) (x1:Turn) (x2:Turn) (x3:List Int) (x4:List Mark) (x5:Int):Option ((Int×Turn×Turn×(List Int)×(List Mark)×Int)⊕((Int×Turn×Turn×(List Mark)))) := bif decide (x5<(↑x1.th.batch.length:Int)) then bif decide ((0:Int)<=x5) then bif decide (x5<(↑x1.th.batch.length:Int)) then bif decide ((0:Int)<=x5) then bif decide (x5<(↑x1.th.batch.length:Int)) then bif decide ((0:Int)<=x5) then bif decide (x5<(↑x3.length:Int)) then bif fewB (x4.length+(Mark.mk (x1.th.batch.getD x5.toNat Zce).t x1.th.item (x1.th.batch.getD x5.toNat Zce).op (x3.getD x5.toNat (0:Int)) (0:Int)::([]:List Mark)).length) then some (Sum.inl (x0,x1,x2,x3,x4++Mark.mk (x1.th.batch.getD x5.toNat Zce).t x1.th.item (x1.th.batch.getD x5.toNat Zce).op (x3.getD x5.toNat (0:Int)) (0:Int)::([]:List Mark),Zaf IntKind.i64 (x5+(1:Int)))) else none else none else none else none else none else none else none else some (Sum.inr (x0,x1,x2,x4))
def Zgy (x:Int×Turn×Turn×(List Int)×(List Mark)×Int):Option ((Int×Turn×Turn×(List Int)×(List Mark)×Int)⊕((Int×Turn×Turn×(List Mark)))):=Zo2 x.1 x.2.1 x.2.2.1 x.2.2.2.1 x.2.2.2.2.1 x.2.2.2.2.2
def Zpf (x:Int×Turn×Turn×(List Int)×(List Mark)×Int):Option ((Int×Turn×Turn×(List Mark))):=Zav Zgy x
def ZrQ (x0:Turn) (x1:Int):Option (Turn) := match ZlO (x0.th.batch,x1,x0.c.lo,x0.c.hi) with
 | some y1 => bif fewB ((0:Nat)+x0.log.length) then match Zpf (x1,x0,Turn.mk (Config.mk (0:Int) (0:Int) (0:Int) (0:Int) (0:Int) (0:Int) (0:Int) (0:Int) false (0:Int) (0:Int) (0:Int)) (0:Int) (0:Int) (Memo.mk ([]:List Int) ([]:List (List Entry))) (Thread.mk (0:Int) (0:Int) (Op.mk (0:Int) (0:Int)) ([]:List Entry) ([]:List Kid) ([]:List Int) (0:Int) (0:Int) (0:Int) (0:Int) (0:Int) (0:Int) (0:Int) (0:Int) (0:Int) (0:Int)) (Tape.mk ([]:List Int) (0:Int)) ([]:List Mark) false,y1,x0.log,(0:Int)) with
  | some y2 => match ZfN { y2.snd.fst with th:={ y2.snd.fst.th with at_:=(0:Int),x:=y2.fst },log:=y2.snd.snd.snd } with
   | some y3 => some (y3)
   | none=>none
  | none=>none else none
 | none=>none
def ZeE (x:Turn×Int):Option (Turn):=ZrQ x.1 x.2
def Zvt (x0:Turn):Option (Bool) := bif decide (x0.th.until_>(0:Int)) then some (decide (x0.now>=x0.th.until_)) else some (false)
def Zhb (x:Turn):Option (Bool):=Zvt x
def Zrf (x0:Turn):Option (Turn) := bif decide (x0.th.layer<x0.c.layers) then match Zhb x0 with
 | some y1 => bif !y1 then some ({ x0 with th:={ x0.th with phase:=(17:Int),layer:=Zaf IntKind.i64 (x0.th.layer+(1:Int)) } }) else some ({ x0 with th:={ x0.th with phase:=(2:Int) } })
 | none=>none else some ({ x0 with th:={ x0.th with phase:=(2:Int) } })
def ZfU (x:Turn):Option (Turn):=Zrf x
def ZwA (x0:Memo) (x1:Int) (x2:Int) (x3:Int):Option (Memo×Bool×Int) := match ZcE (x0,x1) with
 | some y1 => bif y1.snd != (0:Int) then some ((x0,false,y1.snd)) else bif y1.fst != x2 then some ((x0,false,y1.snd)) else match Zct (x0,x1,x3) with
  | some y2 => some ((y2.fst,true,(0:Int)))
  | none=>none
 | none=>none
def Zeo (x:Memo×Int×Int×Int):Option (Memo×Bool×Int):=ZwA x.1 x.2.1 x.2.2.1 x.2.2.2
def Zs9 (x0:Int) (x1:Int):Option (Int) := bif decide (x0>x1) then some (x1) else some (if x1<Zaf IntKind.i64 ((2:Int)*x0) then x1 else Zaf IntKind.i64 ((2:Int)*x0))
def Zji (x:Int×Int):Option (Int):=Zs9 x.1 x.2
def Zud (x0:Turn):Option (Turn×Bool) := match Zey (x0.c,x0.th.item) with
 | some y1 => bif x0.th.phase == (2:Int) then bif x0.th.phase == (2:Int) then match ZcE (x0.m,y1) with
  | some y2 => bif y2.snd != (0:Int) then some ((x0,true)) else match Zf8 (x0.th.batch,y2.fst,x0.c.lo,x0.c.hi) with
    | some y3 => bif y3 == y2.fst then match ZeE (x0,y2.fst) with
     | some y4 => some ((y4,true))
     | none=>none else bif x0.th.phase == (25:Int) then match ZfU x0 with
      | some y4 => some ((y4,true))
      | none=>none else some (({ x0 with th:={ x0.th with phase:=(3:Int),x:=y2.fst,y:=y3 } },true))
    | none=>none
  | none=>none else bif x0.th.phase == (3:Int) then match Zeo (x0.m,y1,x0.th.x,x0.th.y) with
   | some y2 => bif y2.snd.snd != (0:Int) then some ((x0,true)) else bif y2.snd.fst then match ZeE ({ x0 with m:=y2.fst },x0.th.x) with
     | some y3 => some ((y3,true))
     | none=>none else match Zji (x0.th.width,x0.c.width) with
     | some y3 => some (({ x0 with m:=y2.fst,th:={ x0.th with phase:=(2:Int),width:=y3 } },true))
     | none=>none
   | none=>none else some ((x0,false)) else bif x0.th.phase == (25:Int) then match ZcE (x0.m,y1) with
  | some y2 => bif y2.snd != (0:Int) then some ((x0,true)) else match Zf8 (x0.th.batch,y2.fst,x0.c.lo,x0.c.hi) with
    | some y3 => bif y3 == y2.fst then match ZeE (x0,y2.fst) with
     | some y4 => some ((y4,true))
     | none=>none else bif x0.th.phase == (25:Int) then match ZfU x0 with
      | some y4 => some ((y4,true))
      | none=>none else some (({ x0 with th:={ x0.th with phase:=(3:Int),x:=y2.fst,y:=y3 } },true))
    | none=>none
  | none=>none else bif x0.th.phase == (3:Int) then match Zeo (x0.m,y1,x0.th.x,x0.th.y) with
   | some y2 => bif y2.snd.snd != (0:Int) then some ((x0,true)) else bif y2.snd.fst then match ZeE ({ x0 with m:=y2.fst },x0.th.x) with
     | some y3 => some ((y3,true))
     | none=>none else match Zji (x0.th.width,x0.c.width) with
     | some y3 => some (({ x0 with m:=y2.fst,th:={ x0.th with phase:=(2:Int),width:=y3 } },true))
     | none=>none
   | none=>none else some ((x0,false))
 | none=>none
def ZnY (x:Turn):Option (Turn×Bool):=Zud x
def Zto (x0:Int):Option (Int) :=
 some (Zaf IntKind.i64 (Zaf IntKind.i64 ((8:Int)*Zaf IntKind.i64 (x0+(1:Int)))+(1:Int)))
def Ze3 (x:Int):Option (Int):=Zto x
def Zrc (x0:Int):Option (Int) :=
 some (Zaf IntKind.i64 (Zaf IntKind.i64 ((8:Int)*Zaf IntKind.i64 (x0+(1:Int)))+(2:Int)))
def Zh6 (x:Int):Option (Int):=Zrc x
def Zos (x0:Int):Option (Int) :=
 some (Zaf IntKind.i64 (Zaf IntKind.i64 ((8:Int)*Zaf IntKind.i64 (x0+(1:Int)))+(3:Int)))
def Zf6 (x:Int):Option (Int):=Zos x
def Zt0 (x0:Int) (x1:Int):Option (Int) :=
 some (Zaf IntKind.i64 (Zaf IntKind.i64 ((8:Int)*Zaf IntKind.i64 (Zaf IntKind.i64 (Zaf IntKind.i64 ((16:Int)*x0)+x1)+(1:Int)))+(4:Int)))
def Zfm (x:Int×Int):Option (Int):=Zt0 x.1 x.2
def ZqG (x0:Int) (x1:Int) (x2:Int):Option ((Int×Int×Int)⊕((Int×Int)⊕(Int))) := bif decide (x2<=(3:Int)) then match Zfm (x1,x2) with
 | some y1 => bif x0 == y1 then some (Sum.inr (Sum.inr (4:Int))) else some (Sum.inl (x0,x1,Zaf IntKind.i64 (x2+(1:Int))))
 | none=>none else some (Sum.inr (Sum.inl (x0,x1)))
def ZhC (x:Int×Int×Int):Option ((Int×Int×Int)⊕((Int×Int)⊕(Int))):=ZqG x.1 x.2.1 x.2.2
def Zqc (x:Int×Int×Int):Option ((Int×Int)⊕(Int)):=Zav ZhC x
def Zp5 (x0:Int) (x1:Int):Option ((Int×Int)⊕((Unit)⊕(Int))) := bif decide (x1<(4:Int)) then match Zqc (x0,x1,(1:Int)) with
 | some (.inl y1) => some (Sum.inl (y1.fst,Zaf IntKind.i64 (y1.snd+(1:Int))))
 | some (.inr y2) => some (Sum.inr (Sum.inr y2))
 | none=>none else some (Sum.inr (Sum.inl ()))
def Zhi (x:Int×Int):Option ((Int×Int)⊕((Unit)⊕(Int))):=Zp5 x.1 x.2
def Zqm (x:Int×Int):Option ((Unit)⊕(Int)):=Zav Zhi x
def Zrs (x0:Int) (x1:Int):Option ((Int×Int)⊕((Int)⊕(Int))) := bif decide (x1<(16:Int)) then match Ze3 x1 with
 | some y1 => bif x0 == y1 then some (Sum.inr (Sum.inr (1:Int))) else match Zh6 x1 with
  | some y2 => bif x0 == y2 then some (Sum.inr (Sum.inr (2:Int))) else match Zf6 x1 with
   | some y3 => bif x0 == y3 then some (Sum.inr (Sum.inr (3:Int))) else some (Sum.inl (x0,Zaf IntKind.i64 (x1+(1:Int))))
   | none=>none
  | none=>none
 | none=>none else some (Sum.inr (Sum.inl x0))
def ZhV (x:Int×Int):Option ((Int×Int)⊕((Int)⊕(Int))):=Zrs x.1 x.2
def Zr3 (x:Int×Int):Option ((Int)⊕(Int)):=Zav ZhV x
def Zuf (x0:Int):Option (Int) := bif x0 == (0:Int) then some ((0:Int)) else match Zhe () with
 | some y1 => bif x0 == y1 then some ((5:Int)) else match Zr3 (x0,(0:Int)) with
  | some (.inl y2) => match Zqm (y2,(0:Int)) with
   | some (.inl y3) => some ((-1:Int))
   | some (.inr y4) => some (y4)
   | none=>none
  | some (.inr y3) => some (y3)
  | none=>none
 | none=>none
def ZfC (x:Int):Option (Int):=Zuf x
def Zup (x0:Turn):Option (Turn) := bif decide (x0.th.at_>=(0:Int)) then bif decide (x0.th.at_<(↑x0.th.held.length:Int)) then some ({ x0 with th:={ x0.th with phase:=(7:Int) } }) else bif decide (x0.th.stop>(0:Int)) then some ({ x0 with th:={ x0.th with phase:=(11:Int) } }) else some ({ x0 with th:={ x0.th with phase:=(2:Int) } }) else bif decide (x0.th.stop>(0:Int)) then some ({ x0 with th:={ x0.th with phase:=(11:Int) } }) else some ({ x0 with th:={ x0.th with phase:=(2:Int) } })
def ZjY (x:Turn):Option (Turn):=Zup x
def ZuF (x0:Turn):Option (Turn) := match ZjY { x0 with th:={ x0.th with at_:=(0:Int) } } with
 | some y1 => some (y1)
 | none=>none
def ZgZ (x:Turn):Option (Turn):=ZuF x
def Zrq (x0:Int):Option (Int) := bif decide (x0<(2:Int)) then some ((0:Int)) else some (Zaf IntKind.i64 (x0.tdiv (2:Int)))
def ZlJ (x:Int):Option (Int):=Zrq x
def ZvK (x0:Turn):Option (Turn×Bool) := match ZfH (x0.c,x0.th.item,x0.th.node) with
 | some y1 => bif x0.th.phase == (4:Int) then match ZcE (x0.m,y1) with
  | some y2 => bif y2.snd != (0:Int) then some ((x0,true)) else match ZfC y2.fst with
    | some y3 => bif y3 == (0:Int) then some (({ x0 with th:={ x0.th with phase:=(5:Int) } },true)) else match ZfC y2.fst with
      | some y4 => bif y4 == (1:Int) then some (({ x0 with th:={ x0.th with phase:=(6:Int),x:=y2.fst } },true)) else match Zhb x0 with
       | some y5 => bif y5 then match ZgZ x0 with
         | some y6 => some ((y6,true))
         | none=>none else some ((x0,true))
       | none=>none
      | none=>none
    | none=>none
  | none=>none else bif x0.th.phase == (5:Int) then match Ze3 x0.t with
   | some y2 => match Zeo (x0.m,y1,(0:Int),y2) with
    | some y3 => bif y3.snd.snd != (0:Int) then some ((x0,true)) else bif !y3.snd.fst then some (({ x0 with th:={ x0.th with phase:=(4:Int) } },true)) else bif fewB ((0:Nat)+x0.th.held.length) then bif fewB (x0.th.held.length+(x0.th.node::([]:List Int)).length) then match ZlJ x0.th.node with
        | some y4 => bif y4 == (0:Int) then match ZgZ { x0 with m:=y3.fst,th:={ x0.th with phase:=(4:Int),held:=x0.th.held++x0.th.node::([]:List Int),node:=y4 } } with
          | some y5 => some ((y5,true))
          | none=>none else some (({ x0 with m:=y3.fst,th:={ x0.th with phase:=(4:Int),held:=x0.th.held++x0.th.node::([]:List Int),node:=y4 } },true))
        | none=>none else none else none
    | none=>none
   | none=>none else bif x0.th.phase == (6:Int) then match Zh6 x0.t with
    | some y2 => match Zeo (x0.m,y1,x0.th.x,y2) with
     | some y3 => bif y3.snd.snd != (0:Int) then some ((x0,true)) else bif !y3.snd.fst then some (({ x0 with th:={ x0.th with phase:=(4:Int) } },true)) else match ZgZ { x0 with m:=y3.fst,th:={ x0.th with phase:=(4:Int),stop:=x0.th.node } } with
       | some y4 => some ((y4,true))
       | none=>none
     | none=>none
    | none=>none else some ((x0,false))
 | none=>none
def ZkB (x:Turn):Option (Turn×Bool):=ZvK x
def Zt7 (x0:Turn):Option (Int) := bif decide (x0.th.at_<(0:Int)) then some ((-1:Int)) else bif decide (x0.th.at_>=(↑x0.th.held.length:Int)) then some ((-1:Int)) else bif decide ((0:Int)<=x0.th.at_) then bif decide (x0.th.at_<(↑x0.th.held.length:Int)) then match ZfH (x0.c,x0.th.item,x0.th.held.getD x0.th.at_.toNat (0:Int)) with
 | some y1 => some (y1)
 | none=>none else none else none
def Zn1 (x:Turn):Option (Int):=Zt7 x
def Zwc (x0:Int):Option (Int) := match ZfC x0 with
 | some y1 => bif decide (y1<(1:Int)) then some ((-1:Int)) else bif decide (y1>(3:Int)) then some ((-1:Int)) else some (Zaf IntKind.i64 (Zaf IntKind.i64 (x0.tdiv (8:Int))-(1:Int)))
 | none=>none
def ZoQ (x:Int):Option (Int):=Zwc x
def ZvD (x0:Turn):Option (Turn) := match ZjY { x0 with th:={ x0.th with at_:=Zaf IntKind.i64 (x0.th.at_+(1:Int)) } } with
 | some y1 => some (y1)
 | none=>none
def Zkj (x:Turn):Option (Turn):=ZvD x
def ZwH (x0:Memo) (x1:Int):Option ((List Entry)×Int) := bif decide (x1<(0:Int)) then some ((([]:List Entry),(30:Int))) else bif decide (x1>=(↑x0.boxes.length:Int)) then some ((([]:List Entry),(30:Int))) else bif decide ((0:Int)<=x1) then bif decide (x1<(↑x0.boxes.length:Int)) then bif fewB ((0:Nat)+List.length (x0.boxes.getD x1.toNat ([]:List Entry))) then some ((x0.boxes.getD x1.toNat ([]:List Entry),(0:Int))) else none else none else none
def Zlh (x:Memo×Int):Option ((List Entry)×Int):=ZwH x.1 x.2
def Zr9 (x0:List (List Entry)) (x1:List Entry) (x2:Int):Option (((List (List Entry))×(List Entry)×Int)⊕(((List Entry)))) := bif decide (x2<(↑x0.length:Int)) then bif decide ((0:Int)<=x2) then bif decide (x2<(↑x0.length:Int)) then bif fewB (x1.length+List.length (x0.getD x2.toNat ([]:List Entry))) then some (Sum.inl (x0,x1++x0.getD x2.toNat ([]:List Entry),Zaf IntKind.i64 (x2+(1:Int)))) else none else none else none else some (Sum.inr x1)
def Zie (x:(List (List Entry))×(List Entry)×Int):Option (((List (List Entry))×(List Entry)×Int)⊕(((List Entry)))):=Zr9 x.1 x.2.1 x.2.2
def ZrI (x:(List (List Entry))×(List Entry)×Int):Option (((List Entry))):=Zav Zie x
def Zvu (x0:List (List Entry)):Option ((List Entry)) := match ZrI (x0,([]:List Entry),(0:Int)) with
 | some y1 => some (y1)
 | none=>none
def Znr (x:(List (List Entry))):Option ((List Entry)):=Zvu x
def Zt6 (x0:Turn) (x1:Int) (x2:List Entry):Option (Turn) := bif fewB ((0:Nat)+x0.th.kids.length) then bif fewB (x0.th.kids.length+(Kid.mk x1 (↑x0.th.batch.length:Int)::([]:List Kid)).length) then match Znr (x0.th.batch::x2::([]:List (List Entry))) with
 | some y1 => some ({ x0 with th:={ x0.th with batch:=y1,kids:=x0.th.kids++Kid.mk x1 (↑x0.th.batch.length:Int)::([]:List Kid) } })
 | none=>none else none else none
def Zkc (x:Turn×Int×(List Entry)):Option (Turn):=Zt6 x.1 x.2.1 x.2.2
def Zwi (x0:Memo) (x1:Int) (x2:List Entry):Option (Memo×Int) := bif decide (x1<(0:Int)) then some ((x0,(30:Int))) else bif decide (x1>=(↑x0.boxes.length:Int)) then some ((x0,(30:Int))) else bif fewB ((0:Nat)+x0.boxes.length) then bif fewB ((0:Nat)+x2.length) then bif decide ((0:Int)<=x1) then bif decide (x1<(↑x0.boxes.length:Int)) then some (({ x0 with boxes:=x0.boxes.set x1.toNat x2 },(0:Int))) else none else none else none else none
def Zls (x:Memo×Int×(List Entry)):Option (Memo×Int):=Zwi x.1 x.2.1 x.2.2
def ZvT (x0:Turn):Option (Turn×Bool) := match Zn1 x0 with
 | some y1 => bif x0.th.phase == (7:Int) then match ZcE (x0.m,y1) with
  | some y2 => bif y2.snd != (0:Int) then some ((x0,true)) else match Ze3 x0.t with
    | some y3 => bif y2.fst == y3 then some (({ x0 with th:={ x0.th with phase:=(8:Int) } },true)) else match ZfC y2.fst with
      | some y4 => bif y4 == (3:Int) then match ZoQ y2.fst with
        | some y5 => some (({ x0 with th:={ x0.th with phase:=(9:Int),who:=y5 } },true))
        | none=>none else some ((x0,true))
      | none=>none
    | none=>none
  | none=>none else bif x0.th.phase == (8:Int) then match Ze3 x0.t with
   | some y2 => match Zeo (x0.m,y1,y2,(0:Int)) with
    | some y3 => bif y3.snd.snd != (0:Int) then some ((x0,true)) else bif y3.snd.fst then match Zkj { x0 with m:=y3.fst } with
       | some y4 => some ((y4,true))
       | none=>none else some (({ x0 with m:=y3.fst,th:={ x0.th with phase:=(7:Int) } },true))
    | none=>none
   | none=>none else bif x0.th.phase == (9:Int) then match Zlh (x0.m,x0.th.who) with
    | some y2 => bif y2.snd != (0:Int) then some ((x0,true)) else match Zkc (x0,x0.th.who,y2.fst) with
      | some y3 => some (({ y3 with th:={ y3.th with phase:=(10:Int) } },true))
      | none=>none
    | none=>none else bif x0.th.phase == (10:Int) then match Zct (x0.m,y1,(0:Int)) with
     | some y2 => bif y2.snd != (0:Int) then some ((x0,true)) else match Zkj { x0 with m:=y2.fst } with
       | some y3 => some ((y3,true))
       | none=>none
     | none=>none else bif x0.th.phase == (11:Int) then match Zls (x0.m,x0.t,x0.th.batch) with
      | some y2 => bif y2.snd != (0:Int) then some ((x0,true)) else some (({ x0 with m:=y2.fst,th:={ x0.th with phase:=(12:Int) } },true))
      | none=>none else bif x0.th.phase == (12:Int) then match ZfH (x0.c,x0.th.item,x0.th.stop) with
       | some y2 => match Zf6 x0.t with
        | some y3 => match Zct (x0.m,y2,y3) with
         | some y4 => bif y4.snd != (0:Int) then some ((x0,true)) else some (({ x0 with m:=y4.fst,th:={ x0.th with phase:=(13:Int) } },true))
         | none=>none
        | none=>none
       | none=>none else some ((x0,false))
 | none=>none
def Zfl (x:Turn):Option (Turn×Bool):=ZvT x
def Zr2 (x0:Turn) (x1:Int):Option (Turn) := match Zdo (x0.c,x0.t) with
 | some y1 => match Zfm (x0.th.item,x0.th.layer) with
  | some y2 => match Zct (x0.m,y1,y2) with
   | some y3 => bif y3.snd != (0:Int) then some (x0) else bif x1 == (23:Int) then some ({ x0 with m:=y3.fst,th:={ x0.th with phase:=x1,left:=x0.c.spin } }) else some ({ x0 with m:=y3.fst,th:={ x0.th with phase:=x1 } })
   | none=>none
  | none=>none
 | none=>none
def Zh0 (x:Turn×Int):Option (Turn):=Zr2 x.1 x.2
def Zuj (x0:Tape):Option (Int×Tape) := bif decide (x0.at_<(0:Int)) then some (((0:Int),x0)) else bif decide (x0.at_>=(↑x0.l.length:Int)) then some (((0:Int),x0)) else bif decide ((0:Int)<=x0.at_) then bif decide (x0.at_<(↑x0.l.length:Int)) then some ((x0.l.getD x0.at_.toNat (0:Int),{ x0 with at_:=Zaf IntKind.i64 (x0.at_+(1:Int)) })) else none else none
def ZnP (x:Tape):Option (Int×Tape):=Zuj x
def Ztt (x0:Tape) (x1:Int):Option (Int×Tape) := bif decide (x1<(1:Int)) then some (((0:Int),x0)) else match ZnP x0 with
 | some y1 => bif decide (x1=(0:Int)) then none else bif decide (Int.tmod y1.fst x1<(0:Int)) then some ((Zaf IntKind.i64 (Int.tmod y1.fst x1+x1),y1.snd)) else some ((Int.tmod y1.fst x1,y1.snd))
 | none=>none
def ZmI (x:Tape×Int):Option (Int×Tape):=Ztt x.1 x.2
def ZuY (x0:Memo) (x1:Int) (x2:Int):Option (Memo×Int×Int) := match ZcE (x0,x1) with
 | some y1 => match Zct (x0,x1,x2) with
  | some y2 => some ((y2.fst,y1))
  | none=>none
 | none=>none
def ZnH (x:Memo×Int×Int):Option (Memo×Int×Int):=ZuY x.1 x.2.1 x.2.2
def Zur (x0:Config) (x1:Int) (x2:Int) (x3:Int):Option (Int) := bif decide (x1<(0:Int)) then some ((-1:Int)) else bif decide (x1>=x0.items) then some ((-1:Int)) else bif decide (x2<(1:Int)) then some ((-1:Int)) else bif decide (x2>x0.layers) then some ((-1:Int)) else bif decide (x3<(0:Int)) then some ((-1:Int)) else bif decide (x3>=x0.width) then some ((-1:Int)) else match ZdF x0 with
 | some y1 => match ZeR x0 with
  | some y2 => some (Zaf IntKind.i64 (Zaf IntKind.i64 (Zaf IntKind.i64 (Zaf IntKind.i64 (Zaf IntKind.i64 (x1*y1)+(1:Int))+y2)+Zaf IntKind.i64 (Zaf IntKind.i64 (x2-(1:Int))*x0.width))+x3))
  | none=>none
 | none=>none
def ZnM (x:Config×Int×Int×Int):Option (Int):=Zur x.1 x.2.1 x.2.2.1 x.2.2.2
def Zui (x0:Turn):Option (Turn) := match ZmI (x0.tape,x0.th.width) with
 | some y1 => match ZnM (x0.c,x0.th.item,x0.th.layer,y1.fst) with
  | some y2 => match ZnH (x0.m,y2,Zaf IntKind.i64 (x0.t+(1:Int))) with
   | some y3 => bif y3.snd.snd != (0:Int) then some (x0) else bif decide (y3.snd.fst>=(1:Int)) then bif decide (y3.snd.fst<=x0.c.threads) then bif y3.snd.fst != Zaf IntKind.i64 (x0.t+(1:Int)) then some ({ x0 with m:=y3.fst,th:={ x0.th with phase:=(20:Int),who:=Zaf IntKind.i64 (y3.snd.fst-(1:Int)) },tape:=y1.snd }) else some ({ x0 with m:=y3.fst,th:={ x0.th with phase:=(23:Int),left:=x0.c.spin },tape:=y1.snd }) else some ({ x0 with m:=y3.fst,th:={ x0.th with phase:=(23:Int),left:=x0.c.spin },tape:=y1.snd }) else some ({ x0 with m:=y3.fst,th:={ x0.th with phase:=(23:Int),left:=x0.c.spin },tape:=y1.snd })
   | none=>none
  | none=>none
 | none=>none
def ZnR (x:Turn):Option (Turn):=Zui x
def ZpD (x0:Turn) (x1:Int) (x2:Int) (x3:Int):Option (Turn) := match Zdo (x0.c,x1) with
 | some y1 => match Zfm (x0.th.item,x0.th.layer) with
  | some y2 => match Zeo (x0.m,y1,y2,(0:Int)) with
   | some y3 => bif y3.snd.snd != (0:Int) then some (x0) else bif y3.snd.fst then some ({ x0 with m:=y3.fst,th:={ x0.th with phase:=x2 } }) else some ({ x0 with m:=y3.fst,th:={ x0.th with phase:=x3 } })
   | none=>none
  | none=>none
 | none=>none
def ZeK (x:Turn×Int×Int×Int):Option (Turn):=ZpD x.1 x.2.1 x.2.2.1 x.2.2.2
def Zua (x0:Turn):Option (Turn) := match Zdo (x0.c,x0.t) with
 | some y1 => match ZcE (x0.m,y1) with
  | some y2 => bif y2.snd != (0:Int) then some (x0) else match Zfm (x0.th.item,x0.th.layer) with
   | some y3 => bif y2.fst != y3 then some ({ x0 with th:={ x0.th with phase:=(13:Int) } }) else bif decide (x0.th.left<(1:Int)) then some ({ x0 with th:={ x0.th with phase:=(26:Int) } }) else match Zhb x0 with
    | some y4 => bif y4 then some ({ x0 with th:={ x0.th with phase:=(26:Int) } }) else some ({ x0 with th:={ x0.th with left:=Zaf IntKind.i64 (x0.th.left-(1:Int)) } })
    | none=>none
   | none=>none
  | none=>none
 | none=>none
def Znv (x:Turn):Option (Turn):=Zua x
def ZvI (x0:Int):Option (Int) := bif decide (x0<(0:Int)) then some ((-1:Int)) else some (Zaf IntKind.i64 (x0.tdiv (2:Int)))
def ZnS (x:Int):Option (Int):=ZvI x
def ZuC (x0:Turn):Option (Turn×Bool) := bif x0.th.phase == (17:Int) then match Zls (x0.m,x0.t,x0.th.batch) with
 | some y1 => bif y1.snd == (0:Int) then some (({ x0 with m:=y1.fst,th:={ x0.th with phase:=(18:Int) } },true)) else some ((x0,true))
 | none=>none else bif x0.th.phase == (18:Int) then match Zh0 (x0,(19:Int)) with
  | some y1 => some ((y1,true))
  | none=>none else bif x0.th.phase == (19:Int) then match ZnR x0 with
   | some y1 => some ((y1,true))
   | none=>none else bif x0.th.phase == (20:Int) then match ZeK (x0,x0.t,(21:Int),(13:Int)) with
    | some y1 => some ((y1,true))
    | none=>none else bif x0.th.phase == (21:Int) then match ZeK (x0,x0.th.who,(22:Int),(24:Int)) with
     | some y1 => some ((y1,true))
     | none=>none else bif x0.th.phase == (22:Int) then match Zlh (x0.m,x0.th.who) with
      | some y1 => bif y1.snd == (0:Int) then match Zkc (x0,x0.th.who,y1.fst) with
        | some y2 => some (({ y2 with th:={ y2.th with phase:=(25:Int) } },true))
        | none=>none else some ((x0,true))
      | none=>none else bif x0.th.phase == (23:Int) then match Znv x0 with
       | some y1 => some ((y1,true))
       | none=>none else bif x0.th.phase == (24:Int) then match Zh0 (x0,(23:Int)) with
        | some y1 => some ((y1,true))
        | none=>none else bif x0.th.phase == (26:Int) then match ZeK (x0,x0.t,(2:Int),(13:Int)) with
         | some y1 => bif y1.th.phase == (2:Int) then match ZnS y1.th.width with
          | some y2 => match ZfU { y1 with th:={ y1.th with width:=if y2>(1:Int) then y2 else (1:Int) } } with
           | some y3 => some ((y3,true))
           | none=>none
          | none=>none else some ((y1,true))
         | none=>none else some ((x0,false))
def ZcV (x:Turn):Option (Turn×Bool):=ZuC x
def Zum (x0:Turn):Option (Turn) := bif x0.th.phase == (0:Int) then some (x0) else bif x0.th.phase == (1:Int) then match Zdo (x0.c,x0.t) with
 | some y1 => match Zct (x0.m,y1,(0:Int)) with
  | some y2 => bif y2.snd != (0:Int) then some ({ x0 with log:=([]:List Mark),done:=false }) else match ZmS { x0 with m:=y2.fst,log:=([]:List Mark),done:=false } with
    | some y3 => some (y3)
    | none=>none
  | none=>none
 | none=>none else match Zns { x0 with log:=([]:List Mark),done:=false } with
 | some y1 => bif !y1.snd then match ZnY { x0 with log:=([]:List Mark),done:=false } with
   | some y2 => bif !y2.snd then match ZkB { x0 with log:=([]:List Mark),done:=false } with
     | some y3 => bif !y3.snd then match Zfl { x0 with log:=([]:List Mark),done:=false } with
       | some y4 => bif !y4.snd then match ZcV { x0 with log:=([]:List Mark),done:=false } with
         | some y5 => some (y5.fst)
         | none=>none else some (y4.fst)
       | none=>none else bif !y3.snd then match ZcV { x0 with log:=([]:List Mark),done:=false } with
        | some y4 => some (y4.fst)
        | none=>none else some (y3.fst)
     | none=>none else bif !y2.snd then match Zfl { x0 with log:=([]:List Mark),done:=false } with
      | some y3 => bif !y3.snd then match ZcV { x0 with log:=([]:List Mark),done:=false } with
        | some y4 => some (y4.fst)
        | none=>none else some (y3.fst)
      | none=>none else bif !y2.snd then match ZcV { x0 with log:=([]:List Mark),done:=false } with
       | some y3 => some (y3.fst)
       | none=>none else some (y2.fst)
   | none=>none else bif !y1.snd then match ZkB { x0 with log:=([]:List Mark),done:=false } with
    | some y2 => bif !y2.snd then match Zfl { x0 with log:=([]:List Mark),done:=false } with
      | some y3 => bif !y3.snd then match ZcV { x0 with log:=([]:List Mark),done:=false } with
        | some y4 => some (y4.fst)
        | none=>none else some (y3.fst)
      | none=>none else bif !y2.snd then match ZcV { x0 with log:=([]:List Mark),done:=false } with
       | some y3 => some (y3.fst)
       | none=>none else some (y2.fst)
    | none=>none else bif !y1.snd then match Zfl { x0 with log:=([]:List Mark),done:=false } with
     | some y2 => bif !y2.snd then match ZcV { x0 with log:=([]:List Mark),done:=false } with
       | some y3 => some (y3.fst)
       | none=>none else some (y2.fst)
     | none=>none else bif !y1.snd then match ZcV { x0 with log:=([]:List Mark),done:=false } with
      | some y2 => some (y2.fst)
      | none=>none else some (y1.fst)
 | none=>none
def Znl (x:Turn):Option (Turn):=Zum x
def Zrj (x0:Int) (x1:Wld) (x2:Wld) (x3:Turn) (x4:List Mark) (x5:Int):Option ((Int×Wld×Wld×Turn×(List Mark)×Int)⊕((Int×Wld×Wld×Turn×(List Mark)))) := bif decide (x5<(↑x3.log.length:Int)) then bif decide ((0:Int)<=x5) then bif decide (x5<(↑x3.log.length:Int)) then bif fewB (x4.length+({ x3.log.getD x5.toNat ZaS with step:=x1.steps }::([]:List Mark)).length) then some (Sum.inl (x0,x1,x2,x3,x4++{ x3.log.getD x5.toNat ZaS with step:=x1.steps }::([]:List Mark),Zaf IntKind.i64 (x5+(1:Int)))) else none else none else none else some (Sum.inr (x0,x1,x2,x3,x4))
def Zik (x:Int×Wld×Wld×Turn×(List Mark)×Int):Option ((Int×Wld×Wld×Turn×(List Mark)×Int)⊕((Int×Wld×Wld×Turn×(List Mark)))):=Zrj x.1 x.2.1 x.2.2.1 x.2.2.2.1 x.2.2.2.2.1 x.2.2.2.2.2
def Zrv (x:Int×Wld×Wld×Turn×(List Mark)×Int):Option ((Int×Wld×Wld×Turn×(List Mark))):=Zav Zik x
def ZtQ (x0:Wld) (x1:Int):Option (Wld) := bif decide ((0:Int)<=x1) then bif decide (x1<(↑x0.t.length:Int)) then match Znl (Turn.mk x0.c x1 x0.now x0.m (x0.t.getD x1.toNat Zax) x0.tape ([]:List Mark) false) with
 | some y1 => match Zit ({ x0 with steps:=Zaf IntKind.i64 (x0.steps+(1:Int)) },x1,y1.th) with
  | some y2 => bif fewB ((0:Nat)+y2.log.length) then match Zrv (x1,{ y2 with m:=y1.m,tape:=y1.tape },Wld.mk (Config.mk (0:Int) (0:Int) (0:Int) (0:Int) (0:Int) (0:Int) (0:Int) (0:Int) false (0:Int) (0:Int) (0:Int)) (Memo.mk ([]:List Int) ([]:List (List Entry))) ([]:List Thread) (0:Int) (0:Int) (Tape.mk ([]:List Int) (0:Int)) ([]:List Mark) ([]:List Event),y1,y2.log,(0:Int)) with
   | some y3 => bif !y3.snd.snd.snd.fst.done then some ({ y3.snd.fst with log:=y3.snd.snd.snd.snd }) else match Zc2 (y3.snd.snd.snd.fst.th.op,y3.snd.snd.snd.fst.th.x,y3.snd.fst.c.lo,y3.snd.fst.c.hi) with
    | some y4 => match ZgW ({ y3.snd.fst with log:=y3.snd.snd.snd.snd },Event.mk (2:Int) y3.fst y3.snd.snd.snd.fst.th.item y3.snd.snd.snd.fst.th.op y3.snd.snd.snd.fst.th.x y4.snd (0:Int)) with
     | some y5 => some (y5)
     | none=>none
    | none=>none
   | none=>none else none
  | none=>none
 | none=>none else none else none
def Zn0 (x:Wld×Int):Option (Wld):=ZtQ x.1 x.2
def ZvN (x0:Wld) (x1:SEntry):Option (Wld×Int) := match ZjC (x0.c,x1) with
 | some y1 => bif y1 != (0:Int) then some ((x0,y1)) else bif x1.kind == (3:Int) then some (({ x0 with now:=Zaf IntKind.i64 (x0.now+(1:Int)) },(0:Int))) else bif decide ((0:Int)<=x1.t) then bif decide (x1.t<(↑x0.t.length:Int)) then bif x1.kind == (1:Int) then match Zhz (x0.t.getD x1.t.toNat Zax) with
  | some y2 => bif y2 then match ZgW (x0,Event.mk (3:Int) x1.t x1.item x1.op (0:Int) false (0:Int)) with
   | some y3 => some ((y3,(170:Int)))
   | none=>none else match ZmJ (x0.c,x1.t,x0.t.getD x1.t.toNat Zax,x1.item,x1.op,x0.now) with
   | some y3 => match Zit (x0,x1.t,y3) with
    | some y4 => match ZgW (y4,Event.mk (1:Int) x1.t x1.item x1.op (0:Int) false (0:Int)) with
     | some y5 => some ((y5,(0:Int)))
     | none=>none
    | none=>none
   | none=>none
  | none=>none else match Zhz (x0.t.getD x1.t.toNat Zax) with
  | some y2 => bif !y2 then some ((x0,(0:Int))) else match Zn0 (x0,x1.t) with
   | some y3 => some ((y3,(0:Int)))
   | none=>none
  | none=>none else none else none
 | none=>none
def ZnA (x:Wld×SEntry):Option (Wld×Int):=ZvN x.1 x.2
def ZtA (x0:List SEntry) (x1:Config) (x2:Int):Option (((List SEntry)×Config×Int)⊕((Unit)⊕(Int×Int))) := bif decide (x2<(↑x0.length:Int)) then bif decide ((0:Int)<=x2) then bif decide (x2<(↑x0.length:Int)) then match ZjC (x1,x0.getD x2.toNat Zbo) with
 | some y1 => bif y1 != (0:Int) then some (Sum.inr (Sum.inr (x2,y1))) else some (Sum.inl (x0,x1,Zaf IntKind.i64 (x2+(1:Int))))
 | none=>none else none else none else some (Sum.inr (Sum.inl ()))
def Zjx (x:(List SEntry)×Config×Int):Option (((List SEntry)×Config×Int)⊕((Unit)⊕(Int×Int))):=ZtA x.1 x.2.1 x.2.2
def ZsZ (x:(List SEntry)×Config×Int):Option ((Unit)⊕(Int×Int)):=Zav Zjx x
def Zv6 (x0:Config) (x1:List SEntry):Option (Int×Int) := match Zed x0 with
 | some y1 => bif y1 != (0:Int) then some (((0:Int),y1)) else bif decide ((↑x1.length:Int)>(65536:Int)) then some (((0:Int),(2:Int))) else match ZsZ (x1,x0,(0:Int)) with
  | some (.inl y2) => some (((0:Int),(0:Int)))
  | some (.inr y3) => some (y3)
  | none=>none
 | none=>none
def ZoP (x:Config×(List SEntry)):Option (Int×Int):=Zv6 x.1 x.2
def ZsW (x0:List SEntry) (x1:Wld) (x2:Wld) (x3:Int):Option (((List SEntry)×Wld×Wld×Int)⊕((Wld×Wld))) := bif decide (x3<(↑x0.length:Int)) then bif decide ((0:Int)<=x3) then bif decide (x3<(↑x0.length:Int)) then match ZnA (x2,x0.getD x3.toNat Zbo) with
 | some y1 => some (Sum.inl (x0,x1,y1.fst,Zaf IntKind.i64 (x3+(1:Int))))
 | none=>none else none else none else some (Sum.inr (x1,x2))
def Zi3 (x:(List SEntry)×Wld×Wld×Int):Option (((List SEntry)×Wld×Wld×Int)⊕((Wld×Wld))):=ZsW x.1 x.2.1 x.2.2.1 x.2.2.2
def Ztg (x:(List SEntry)×Wld×Wld×Int):Option ((Wld×Wld)):=Zav Zi3 x
def ZwI (x0:Config) (x1:List SEntry) (x2:List Int):Option (Wld×Int×Int) := match ZoP (x0,x1) with
 | some y1 => bif y1.snd != (0:Int) then some ((Wld.mk (Config.mk (0:Int) (0:Int) (0:Int) (0:Int) (0:Int) (0:Int) (0:Int) (0:Int) false (0:Int) (0:Int) (0:Int)) (Memo.mk ([]:List Int) ([]:List (List Entry))) ([]:List Thread) (0:Int) (0:Int) (Tape.mk ([]:List Int) (0:Int)) ([]:List Mark) ([]:List Event),y1)) else match ZoY (x0,x2) with
  | some y2 => match Ztg (x1,Wld.mk (Config.mk (0:Int) (0:Int) (0:Int) (0:Int) (0:Int) (0:Int) (0:Int) (0:Int) false (0:Int) (0:Int) (0:Int)) (Memo.mk ([]:List Int) ([]:List (List Entry))) ([]:List Thread) (0:Int) (0:Int) (Tape.mk ([]:List Int) (0:Int)) ([]:List Mark) ([]:List Event),y2.fst,(0:Int)) with
   | some y3 => some ((y3.snd,(0:Int),(0:Int)))
   | none=>none
  | none=>none
 | none=>none
def ZwF (x:Config×(List SEntry)×(List Int)):Option (Wld×Int×Int):=ZwI x.1 x.2.1 x.2.2
def ZpQ (x0:List SEntry) (x1:List SEntry) (x2:Int):Option (((List SEntry)×(List SEntry)×Int)⊕(((List SEntry)))) := bif decide (x2<(↑x0.length:Int)) then bif decide ((0:Int)<=x2) then bif decide (x2<(↑x0.length:Int)) then bif decide ((0:Int)<=x2) then bif decide (x2<(↑x0.length:Int)) then bif decide ((0:Int)<=x2) then bif decide (x2<(↑x0.length:Int)) then bif decide ((0:Int)<=x2) then bif decide (x2<(↑x0.length:Int)) then bif fewB (x1.length+(x0.getD x2.toNat Zbo::([]:List SEntry)).length) then some (Sum.inl (x0,x1++x0.getD x2.toNat Zbo::([]:List SEntry),Zaf IntKind.i64 (x2+(1:Int)))) else none else none else none else none else none else none else none else none else none else some (Sum.inr x1)
def ZhL (x:(List SEntry)×(List SEntry)×Int):Option (((List SEntry)×(List SEntry)×Int)⊕(((List SEntry)))):=ZpQ x.1 x.2.1 x.2.2
def ZqS (x:(List SEntry)×(List SEntry)×Int):Option (((List SEntry))):=Zav ZhL x
def ZsT (x0:List SEntry):Option ((List SEntry)) := match ZqS (x0,([]:List SEntry),(0:Int)) with
 | some y1 => some (y1)
 | none=>none
def Zth (x:(List SEntry)):Option ((List SEntry)):=ZsT x
def ZpB (x0:List Event) (x1:List Event) (x2:Int):Option (((List Event)×(List Event)×Int)⊕((Unit)⊕(Bool))) := bif decide (x2<(↑x0.length:Int)) then bif decide ((0:Int)<=x2) then bif decide (x2<(↑x0.length:Int)) then bif decide ((0:Int)<=x2) then bif decide (x2<(↑x1.length:Int)) then bif !((x0.getD x2.toNat Za3).kind == (x1.getD x2.toNat Za3).kind && ((x0.getD x2.toNat Za3).t == (x1.getD x2.toNat Za3).t && ((x0.getD x2.toNat Za3).item == (x1.getD x2.toNat Za3).item && ((x0.getD x2.toNat Za3).op.tag == (x1.getD x2.toNat Za3).op.tag && ((x0.getD x2.toNat Za3).op.v == (x1.getD x2.toNat Za3).op.v && true) && ((x0.getD x2.toNat Za3).prior == (x1.getD x2.toNat Za3).prior && ((x0.getD x2.toNat Za3).did == (x1.getD x2.toNat Za3).did && ((x0.getD x2.toNat Za3).step == (x1.getD x2.toNat Za3).step && true))))))) then some (Sum.inr (Sum.inr false)) else some (Sum.inl (x0,x1,Zaf IntKind.i64 (x2+(1:Int)))) else none else none else none else none else some (Sum.inr (Sum.inl ()))
def ZgO (x:(List Event)×(List Event)×Int):Option (((List Event)×(List Event)×Int)⊕((Unit)⊕(Bool))):=ZpB x.1 x.2.1 x.2.2
def Zo3 (x:(List Event)×(List Event)×Int):Option ((Unit)⊕(Bool)):=Zav ZgO x
def ZrF (x0:List Event) (x1:List Event):Option (Bool) := bif (↑x0.length:Int) != (↑x1.length:Int) then some (false) else match Zo3 (x0,x1,(0:Int)) with
 | some (.inl y1) => some (true)
 | some (.inr y2) => some (y2)
 | none=>none
def ZlM (x:(List Event)×(List Event)):Option (Bool):=ZrF x.1 x.2
def ZrU (x0:Wld) (x1:Wld) (x2:Int):Option ((Wld×Wld×Int)⊕((Unit)⊕(Bool))) := bif decide (x2<(↑x0.t.length:Int)) then bif decide ((0:Int)<=x2) then bif decide (x2<(↑x0.t.length:Int)) then bif decide ((0:Int)<=x2) then bif decide (x2<(↑x1.t.length:Int)) then match Zko (x0.t.getD x2.toNat Zax,x1.t.getD x2.toNat Zax) with
 | some y1 => bif !y1 then some (Sum.inr (Sum.inr false)) else some (Sum.inl (x0,x1,Zaf IntKind.i64 (x2+(1:Int))))
 | none=>none else none else none else none else none else some (Sum.inr (Sum.inl ()))
def Zh7 (x:Wld×Wld×Int):Option ((Wld×Wld×Int)⊕((Unit)⊕(Bool))):=ZrU x.1 x.2.1 x.2.2
def Zrt (x:Wld×Wld×Int):Option ((Unit)⊕(Bool)):=Zav Zh7 x
def ZvW (x0:Wld) (x1:Wld):Option (Bool) := bif !(x0.c.threads == x1.c.threads && (x0.c.items == x1.c.items && (x0.c.backend == x1.c.backend && (x0.c.depth == x1.c.depth && (x0.c.layers == x1.c.layers && (x0.c.width == x1.c.width && (x0.c.spin == x1.c.spin && (x0.c.wait == x1.c.wait && (x0.c.bounded == x1.c.bounded && (x0.c.lo == x1.c.lo && (x0.c.hi == x1.c.hi && (x0.c.init == x1.c.init && true)))))))))))) then some (false) else bif x0.now != x1.now then some (false) else bif x0.steps != x1.steps then some (false) else bif (↑x0.t.length:Int) != (↑x1.t.length:Int) then some (false) else match Zj8 (x0.m,x1.m) with
 | some y1 => bif !y1 then some (false) else match Zj3 (x0.tape,x1.tape) with
  | some y2 => bif !y2 then some (false) else match Zjf (x0.log,x1.log) with
   | some y3 => bif !y3 then some (false) else match ZlM (x0.hist,x1.hist) with
    | some y4 => bif !y4 then some (false) else match Zrt (x0,x1,(0:Int)) with
     | some (.inl y5) => some (true)
     | some (.inr y6) => some (y6)
     | none=>none
    | none=>none
   | none=>none
  | none=>none
 | none=>none
def Zu1 (x:Wld×Wld):Option (Bool):=ZvW x.1 x.2
def Zor (x0:List Entry) (x1:List Entry) (x2:Int):Option (((List Entry)×(List Entry)×Int)⊕(((List Entry)))) := bif decide (x2<(↑x0.length:Int)) then bif decide ((0:Int)<=x2) then bif decide (x2<(↑x0.length:Int)) then bif decide ((0:Int)<=x2) then bif decide (x2<(↑x0.length:Int)) then bif fewB (x1.length+(x0.getD x2.toNat Zce::([]:List Entry)).length) then some (Sum.inl (x0,x1++x0.getD x2.toNat Zce::([]:List Entry),Zaf IntKind.i64 (x2+(1:Int)))) else none else none else none else none else none else some (Sum.inr x1)
def Zf4 (x:(List Entry)×(List Entry)×Int):Option (((List Entry)×(List Entry)×Int)⊕(((List Entry)))):=Zor x.1 x.2.1 x.2.2
def ZoA (x:(List Entry)×(List Entry)×Int):Option (((List Entry))):=Zav Zf4 x
def Zp7 (x0:List Entry):Option ((List Entry)) := match ZoA (x0,([]:List Entry),(0:Int)) with
 | some y1 => some (y1)
 | none=>none
def Zhs (x:(List Entry)):Option ((List Entry)):=Zp7 x
def Zpr (x0:Memo) (x1:Memo) (x2:Memo) (x3:Int):Option ((Memo×Memo×Memo×Int)⊕((Memo×Memo))) := bif decide (x3<(↑x0.boxes.length:Int)) then bif decide ((0:Int)<=x3) then bif decide (x3<(↑x0.boxes.length:Int)) then match Zhs (x0.boxes.getD x3.toNat ([]:List Entry)) with
 | some y1 => bif fewB (x2.boxes.length+(y1::([]:List (List Entry))).length) then some (Sum.inl (x0,x1,{ x2 with boxes:=x2.boxes++y1::([]:List (List Entry)) },Zaf IntKind.i64 (x3+(1:Int)))) else none
 | none=>none else none else none else some (Sum.inr (x1,x2))
def ZgA (x:Memo×Memo×Memo×Int):Option ((Memo×Memo×Memo×Int)⊕((Memo×Memo))):=Zpr x.1 x.2.1 x.2.2.1 x.2.2.2
def Zpc (x:Memo×Memo×Memo×Int):Option ((Memo×Memo)):=Zav ZgA x
def ZrA (x0:Memo):Option (Memo) := match Zpc (x0,Memo.mk ([]:List Int) ([]:List (List Entry)),{ x0 with boxes:=([]:List (List Entry)) },(0:Int)) with
 | some y1 => some (y1.snd)
 | none=>none
def ZlU (x:Memo):Option (Memo):=ZrA x
def ZpZ (x0:List Mark) (x1:List Mark) (x2:Int):Option (((List Mark)×(List Mark)×Int)⊕(((List Mark)))) := bif decide (x2<(↑x0.length:Int)) then bif decide ((0:Int)<=x2) then bif decide (x2<(↑x0.length:Int)) then bif decide ((0:Int)<=x2) then bif decide (x2<(↑x0.length:Int)) then bif decide ((0:Int)<=x2) then bif decide (x2<(↑x0.length:Int)) then bif decide ((0:Int)<=x2) then bif decide (x2<(↑x0.length:Int)) then bif decide ((0:Int)<=x2) then bif decide (x2<(↑x0.length:Int)) then bif fewB (x1.length+(x0.getD x2.toNat ZaS::([]:List Mark)).length) then some (Sum.inl (x0,x1++x0.getD x2.toNat ZaS::([]:List Mark),Zaf IntKind.i64 (x2+(1:Int)))) else none else none else none else none else none else none else none else none else none else none else none else some (Sum.inr x1)
def ZgY (x:(List Mark)×(List Mark)×Int):Option (((List Mark)×(List Mark)×Int)⊕(((List Mark)))):=ZpZ x.1 x.2.1 x.2.2
def ZpP (x:(List Mark)×(List Mark)×Int):Option (((List Mark))):=Zav ZgY x
def Ztj (x0:List Mark):Option ((List Mark)) := match ZpP (x0,([]:List Mark),(0:Int)) with
 | some y1 => some (y1)
 | none=>none
def ZmO (x:(List Mark)):Option ((List Mark)):=Ztj x
def Zp3 (x0:Thread) (x1:Thread) (x2:Thread) (x3:Int):Option ((Thread×Thread×Thread×Int)⊕((Thread×Thread))) := bif decide (x3<(↑x0.kids.length:Int)) then bif decide ((0:Int)<=x3) then bif decide (x3<(↑x0.kids.length:Int)) then bif fewB (x2.kids.length+(x0.kids.getD x3.toNat dKid::([]:List Kid)).length) then some (Sum.inl (x0,x1,{ x2 with kids:=x2.kids++x0.kids.getD x3.toNat dKid::([]:List Kid) },Zaf IntKind.i64 (x3+(1:Int)))) else none else none else none else some (Sum.inr (x1,x2))
def Zg9 (x:Thread×Thread×Thread×Int):Option ((Thread×Thread×Thread×Int)⊕((Thread×Thread))):=Zp3 x.1 x.2.1 x.2.2.1 x.2.2.2
def ZqZ (x:Thread×Thread×Thread×Int):Option ((Thread×Thread)):=Zav Zg9 x
def Zs6 (x0:Thread):Option (Thread) := match Zhs x0.batch with
 | some y1 => match ZqZ (x0,Thread.mk (0:Int) (0:Int) (Op.mk (0:Int) (0:Int)) ([]:List Entry) ([]:List Kid) ([]:List Int) (0:Int) (0:Int) (0:Int) (0:Int) (0:Int) (0:Int) (0:Int) (0:Int) (0:Int) (0:Int),{ x0 with batch:=y1,kids:=([]:List Kid) },(0:Int)) with
  | some y2 => some (y2.snd)
  | none=>none
 | none=>none
def ZmX (x:Thread):Option (Thread):=Zs6 x
def Zo9 (x0:Wld) (x1:Wld) (x2:Wld) (x3:Int):Option ((Wld×Wld×Wld×Int)⊕((Wld×Wld))) := bif decide (x3<(↑x0.hist.length:Int)) then bif decide ((0:Int)<=x3) then bif decide (x3<(↑x0.hist.length:Int)) then bif fewB (x2.hist.length+(x0.hist.getD x3.toNat Za3::([]:List Event)).length) then some (Sum.inl (x0,x1,{ x2 with hist:=x2.hist++x0.hist.getD x3.toNat Za3::([]:List Event) },Zaf IntKind.i64 (x3+(1:Int)))) else none else none else none else some (Sum.inr (x1,x2))
def ZgL (x:Wld×Wld×Wld×Int):Option ((Wld×Wld×Wld×Int)⊕((Wld×Wld))):=Zo9 x.1 x.2.1 x.2.2.1 x.2.2.2
def Zpm (x:Wld×Wld×Wld×Int):Option ((Wld×Wld)):=Zav ZgL x
def Zpg (x0:Wld) (x1:Wld) (x2:Wld) (x3:Int):Option ((Wld×Wld×Wld×Int)⊕((Wld×Wld×Wld))) := bif decide (x3<(↑x0.t.length:Int)) then bif decide ((0:Int)<=x3) then bif decide (x3<(↑x0.t.length:Int)) then match ZmX (x0.t.getD x3.toNat Zax) with
 | some y1 => bif fewB (x2.t.length+(y1::([]:List Thread)).length) then some (Sum.inl (x0,x1,{ x2 with t:=x2.t++y1::([]:List Thread) },Zaf IntKind.i64 (x3+(1:Int)))) else none
 | none=>none else none else none else some (Sum.inr (x0,x1,x2))
def ZgM (x:Wld×Wld×Wld×Int):Option ((Wld×Wld×Wld×Int)⊕((Wld×Wld×Wld))):=Zpg x.1 x.2.1 x.2.2.1 x.2.2.2
def ZpC (x:Wld×Wld×Wld×Int):Option ((Wld×Wld×Wld)):=Zav ZgM x
def Zra (x0:Wld):Option (Wld) := match ZlU x0.m with
 | some y1 => match ZmO x0.log with
  | some y2 => match ZpC (x0,Wld.mk (Config.mk (0:Int) (0:Int) (0:Int) (0:Int) (0:Int) (0:Int) (0:Int) (0:Int) false (0:Int) (0:Int) (0:Int)) (Memo.mk ([]:List Int) ([]:List (List Entry))) ([]:List Thread) (0:Int) (0:Int) (Tape.mk ([]:List Int) (0:Int)) ([]:List Mark) ([]:List Event),{ x0 with m:=y1,t:=([]:List Thread),log:=y2,hist:=([]:List Event) },(0:Int)) with
   | some y3 => match Zpm (y3.fst,y3.snd.fst,y3.snd.snd,(0:Int)) with
    | some y4 => some (y4.snd)
    | none=>none
   | none=>none
  | none=>none
 | none=>none
def Zr4 (x:Wld):Option (Wld):=Zra x
def Zrn (x0:Int) (x1:List Thread) (x2:Int) (x3:Int):Option ((Int×(List Thread)×Int×Int)⊕((Int))) := bif decide (x3<x2) then bif decide ((0:Int)<=x3) then bif decide (x3<(↑x1.length:Int)) then match ZbE (x1.getD x3.toNat Zax) with
 | some y1 => bif y1 then some (Sum.inl (Zaf IntKind.i64 (x0+(1:Int)),x1,x2,Zaf IntKind.i64 (x3+(1:Int)))) else some (Sum.inl (x0,x1,x2,Zaf IntKind.i64 (x3+(1:Int))))
 | none=>none else none else none else some (Sum.inr x0)
def Zil (x:Int×(List Thread)×Int×Int):Option ((Int×(List Thread)×Int×Int)⊕((Int))):=Zrn x.1 x.2.1 x.2.2.1 x.2.2.2
def ZrS (x:Int×(List Thread)×Int×Int):Option ((Int)):=Zav Zil x
def ZvO (x0:Wld):Option (Int) := match ZrS ((0:Int),x0.t,(↑x0.t.length:Int),(0:Int)) with
 | some y1 => some (y1)
 | none=>none
def ZuV (x:Wld):Option (Int):=ZvO x
def ZrW (x0:Wld) (x1:Int) (x2:Int):Option ((Wld×Int×Int)⊕((Int))) := bif decide (x2<(↑x0.t.length:Int)) then bif decide ((0:Int)<=x2) then bif decide (x2<(↑x0.t.length:Int)) then match Zhz (x0.t.getD x2.toNat Zax) with
 | some y1 => bif y1 then some (Sum.inl (x0,Zaf IntKind.i64 (x1+(1:Int)),Zaf IntKind.i64 (x2+(1:Int)))) else some (Sum.inl (x0,x1,Zaf IntKind.i64 (x2+(1:Int))))
 | none=>none else none else none else some (Sum.inr x1)
def Zib (x:Wld×Int×Int):Option ((Wld×Int×Int)⊕((Int))):=ZrW x.1 x.2.1 x.2.2
def Zq9 (x:Wld×Int×Int):Option ((Int)):=Zav Zib x
def Zug (x0:Wld):Option (Int) := match Zq9 (x0,(0:Int),(0:Int)) with
 | some y1 => some (y1)
 | none=>none
def ZtX (x:Wld):Option (Int):=Zug x
def Zqr (x0:Config) (x1:Wld) (x2:Config) (x3:Int) (x4:Int) (x5:Int):Option ((Config×Wld×Config×Int×Int×Int)⊕((Config×Wld×Config×Int×Int)⊕(Bool))) := bif decide (x5<(↑x1.log.length:Int)) then bif decide ((0:Int)<=x5) then bif decide (x5<(↑x1.log.length:Int)) then bif (x1.log.getD x5.toNat ZaS).item != x3 then some (Sum.inl (x0,x1,x2,x3,x4,Zaf IntKind.i64 (x5+(1:Int)))) else bif (x1.log.getD x5.toNat ZaS).prior != x4 then some (Sum.inr (Sum.inr false)) else bif decide (x5>(0:Int)) then bif decide ((0:Int)<=Zaf IntKind.i64 (x5-(1:Int))) then bif decide (Zaf IntKind.i64 (x5-(1:Int))<(↑x1.log.length:Int)) then bif decide ((x1.log.getD x5.toNat ZaS).step<(x1.log.getD (Zaf IntKind.i64 (x5-(1:Int))).toNat ZaS).step) then some (Sum.inr (Sum.inr false)) else match Zc2 ((x1.log.getD x5.toNat ZaS).op,x4,x0.lo,x0.hi) with
  | some y1 => bif x0.bounded then bif decide (y1.fst<x0.lo) then some (Sum.inr (Sum.inr false)) else bif decide (y1.fst>x0.hi) then some (Sum.inr (Sum.inr false)) else some (Sum.inl (x0,x1,x2,x3,y1.fst,Zaf IntKind.i64 (x5+(1:Int)))) else some (Sum.inl (x0,x1,x2,x3,y1.fst,Zaf IntKind.i64 (x5+(1:Int))))
  | none=>none else none else none else match Zc2 ((x1.log.getD x5.toNat ZaS).op,x4,x0.lo,x0.hi) with
 | some y1 => bif x0.bounded then bif decide (y1.fst<x0.lo) then some (Sum.inr (Sum.inr false)) else bif decide (y1.fst>x0.hi) then some (Sum.inr (Sum.inr false)) else some (Sum.inl (x0,x1,x2,x3,y1.fst,Zaf IntKind.i64 (x5+(1:Int)))) else some (Sum.inl (x0,x1,x2,x3,y1.fst,Zaf IntKind.i64 (x5+(1:Int))))
 | none=>none else none else none else some (Sum.inr (Sum.inl (x0,x1,x2,x3,x4)))
def Zhh (x:Config×Wld×Config×Int×Int×Int):Option ((Config×Wld×Config×Int×Int×Int)⊕((Config×Wld×Config×Int×Int)⊕(Bool))):=Zqr x.1 x.2.1 x.2.2.1 x.2.2.2.1 x.2.2.2.2.1 x.2.2.2.2.2
def ZqC (x:Config×Wld×Config×Int×Int×Int):Option ((Config×Wld×Config×Int×Int)⊕(Bool)):=Zav Zhh x
def Zqg (x0:Config) (x1:Wld) (x2:Config) (x3:Int):Option ((Config×Wld×Config×Int)⊕((Unit)⊕(Bool))) := bif decide (x3<x0.items) then match ZqC (x0,x1,x2,x3,x0.init,(0:Int)) with
 | some (.inl y1) => match Zey (y1.snd.snd.fst,y1.snd.snd.snd.fst) with
  | some y2 => bif decide ((0:Int)<=y2) then bif decide (y2<(↑y1.snd.fst.m.words.length:Int)) then bif y1.snd.fst.m.words.getD (Int.toNat y2) (0:Int) != y1.snd.snd.snd.snd then some (Sum.inr (Sum.inr false)) else some (Sum.inl (y1.fst,y1.snd.fst,y1.snd.snd.fst,Zaf IntKind.i64 (y1.snd.snd.snd.fst+(1:Int)))) else none else none
  | none=>none
 | some (.inr y2) => some (Sum.inr (Sum.inr y2))
 | none=>none else some (Sum.inr (Sum.inl ()))
def Zhc (x:Config×Wld×Config×Int):Option ((Config×Wld×Config×Int)⊕((Unit)⊕(Bool))):=Zqg x.1 x.2.1 x.2.2.1 x.2.2.2
def ZqJ (x:Config×Wld×Config×Int):Option ((Unit)⊕(Bool)):=Zav Zhc x
def Ztl (x0:Config) (x1:Wld):Option (Bool) := match Zfz x0 with
 | some y1 => bif (↑x1.m.words.length:Int) != y1 then some (false) else bif decide ((↑x1.log.length:Int)>(1000:Int)) then some (false) else match ZqJ (x0,x1,x0,(0:Int)) with
  | some (.inl y2) => some (true)
  | some (.inr y3) => some (y3)
  | none=>none
 | none=>none
def Ztf (x:Config×Wld):Option (Bool):=Ztl x.1 x.2
def ZnZ (x0:Config) (x1:Wld) (x2:Int) (x3:List Mark) (x4:Int) (x5:Bool) (x6:Event) (x7:Int):Option ((Config×Wld×Int×(List Mark)×Int×Bool×Event×Int)⊕((Config×Wld×Int×(List Mark)×Int×Bool×Event)⊕(Bool))) := bif decide (x7<(↑x1.hist.length:Int)) then bif decide ((0:Int)<=x7) then bif decide (x7<(↑x1.hist.length:Int)) then bif (x1.hist.getD x7.toNat Za3).t != x2 then some (Sum.inl (x0,x1,x2,x3,x4,x5,x6,Zaf IntKind.i64 (x7+(1:Int)))) else bif (x1.hist.getD x7.toNat Za3).kind == (3:Int) then some (Sum.inl (x0,x1,x2,x3,x4,x5,x6,Zaf IntKind.i64 (x7+(1:Int)))) else bif ((x1.hist.getD x7.toNat Za3).kind == (1:Int)) == x5 then some (Sum.inr (Sum.inr false)) else bif (x1.hist.getD x7.toNat Za3).kind == (1:Int) then some (Sum.inl (x0,x1,x2,x3,x4,true,x1.hist.getD x7.toNat Za3,Zaf IntKind.i64 (x7+(1:Int)))) else match Zc2 ((x1.hist.getD x7.toNat Za3).op,(x1.hist.getD x7.toNat Za3).prior,x0.lo,x0.hi) with
 | some y1 => bif decide (x4>=(↑x3.length:Int)) then some (Sum.inr (Sum.inr false)) else bif decide ((0:Int)<=x4) then bif decide (x4<(↑x3.length:Int)) then bif !((x3.getD x4.toNat ZaS).op.tag == (x1.hist.getD x7.toNat Za3).op.tag && ((x3.getD x4.toNat ZaS).op.v == (x1.hist.getD x7.toNat Za3).op.v && true)) then some (Sum.inr (Sum.inr false)) else bif decide ((0:Int)<=x4) then bif decide (x4<(↑x3.length:Int)) then bif (x3.getD x4.toNat ZaS).item != (x1.hist.getD x7.toNat Za3).item then some (Sum.inr (Sum.inr false)) else bif decide ((0:Int)<=x4) then bif decide (x4<(↑x3.length:Int)) then bif (x3.getD x4.toNat ZaS).prior != (x1.hist.getD x7.toNat Za3).prior then some (Sum.inr (Sum.inr false)) else bif !(x1.hist.getD x7.toNat Za3).did == y1.snd then some (Sum.inr (Sum.inr false)) else bif !(x6.op.tag == (x1.hist.getD x7.toNat Za3).op.tag && (x6.op.v == (x1.hist.getD x7.toNat Za3).op.v && true)) then some (Sum.inr (Sum.inr false)) else bif x6.item != (x1.hist.getD x7.toNat Za3).item then some (Sum.inr (Sum.inr false)) else bif decide ((0:Int)<=x4) then bif decide (x4<(↑x3.length:Int)) then bif decide ((x3.getD x4.toNat ZaS).step<=x6.step) then some (Sum.inr (Sum.inr false)) else bif decide ((0:Int)<=x4) then bif decide (x4<(↑x3.length:Int)) then bif decide ((x3.getD x4.toNat ZaS).step>(x1.hist.getD x7.toNat Za3).step) then some (Sum.inr (Sum.inr false)) else some (Sum.inl (x0,x1,x2,x3,Zaf IntKind.i64 (x4+(1:Int)),false,x6,Zaf IntKind.i64 (x7+(1:Int)))) else none else none else none else none else none else none else none else none else none else none
 | none=>none else none else none else some (Sum.inr (Sum.inl (x0,x1,x2,x3,x4,x5,x6)))
def Zfs (x:Config×Wld×Int×(List Mark)×Int×Bool×Event×Int):Option ((Config×Wld×Int×(List Mark)×Int×Bool×Event×Int)⊕((Config×Wld×Int×(List Mark)×Int×Bool×Event)⊕(Bool))):=ZnZ x.1 x.2.1 x.2.2.1 x.2.2.2.1 x.2.2.2.2.1 x.2.2.2.2.2.1 x.2.2.2.2.2.2.1 x.2.2.2.2.2.2.2
def Zny (x:Config×Wld×Int×(List Mark)×Int×Bool×Event×Int):Option ((Config×Wld×Int×(List Mark)×Int×Bool×Event)⊕(Bool)):=Zav Zfs x
def Zow (x0:Config) (x1:Wld) (x2:Int) (x3:List Mark) (x4:Int):Option ((Config×Wld×Int×(List Mark)×Int)⊕((Config×Wld×Int×(List Mark)))) := bif decide (x4<(↑x1.log.length:Int)) then bif decide ((0:Int)<=x4) then bif decide (x4<(↑x1.log.length:Int)) then bif (x1.log.getD x4.toNat ZaS).t == x2 then bif decide ((0:Int)<=x4) then bif decide (x4<(↑x1.log.length:Int)) then bif fewB (x3.length+(x1.log.getD x4.toNat ZaS::([]:List Mark)).length) then some (Sum.inl (x0,x1,x2,x3++x1.log.getD x4.toNat ZaS::([]:List Mark),Zaf IntKind.i64 (x4+(1:Int)))) else none else none else none else some (Sum.inl (x0,x1,x2,x3,Zaf IntKind.i64 (x4+(1:Int)))) else none else none else some (Sum.inr (x0,x1,x2,x3))
def Zf3 (x:Config×Wld×Int×(List Mark)×Int):Option ((Config×Wld×Int×(List Mark)×Int)⊕((Config×Wld×Int×(List Mark)))):=Zow x.1 x.2.1 x.2.2.1 x.2.2.2.1 x.2.2.2.2
def Zoq (x:Config×Wld×Int×(List Mark)×Int):Option ((Config×Wld×Int×(List Mark))):=Zav Zf3 x
def Zox (x0:Config) (x1:Wld) (x2:Int):Option ((Config×Wld×Int)⊕((Unit)⊕(Bool))) := bif decide (x2<x0.threads) then match Zoq (x0,x1,x2,([]:List Mark),(0:Int)) with
 | some y1 => match Zny (y1.fst,y1.snd.fst,y1.snd.snd.fst,y1.snd.snd.snd,(0:Int),false,Event.mk (0:Int) (0:Int) (0:Int) (Op.mk (0:Int) (0:Int)) (0:Int) false (0:Int),(0:Int)) with
  | some (.inl y2) => bif (↑(List.length y2.snd.snd.snd.fst):Int) != y2.snd.snd.snd.snd.fst then bif !y2.snd.snd.snd.snd.snd.fst then some (Sum.inr (Sum.inr false)) else bif (↑(List.length y2.snd.snd.snd.fst):Int) != Zaf IntKind.i64 (y2.snd.snd.snd.snd.fst+(1:Int)) then some (Sum.inr (Sum.inr false)) else bif decide ((0:Int)<=y2.snd.snd.snd.snd.fst) then bif decide (y2.snd.snd.snd.snd.fst<(↑(List.length y2.snd.snd.snd.fst):Int)) then bif !((List.getD y2.snd.snd.snd.fst (Int.toNat y2.snd.snd.snd.snd.fst) ZaS).op.tag == y2.snd.snd.snd.snd.snd.snd.op.tag && ((List.getD y2.snd.snd.snd.fst (Int.toNat y2.snd.snd.snd.snd.fst) ZaS).op.v == y2.snd.snd.snd.snd.snd.snd.op.v && true)) then some (Sum.inr (Sum.inr false)) else bif decide ((0:Int)<=y2.snd.snd.snd.snd.fst) then bif decide (y2.snd.snd.snd.snd.fst<(↑(List.length y2.snd.snd.snd.fst):Int)) then bif (List.getD y2.snd.snd.snd.fst (Int.toNat y2.snd.snd.snd.snd.fst) ZaS).item != y2.snd.snd.snd.snd.snd.snd.item then some (Sum.inr (Sum.inr false)) else bif decide ((0:Int)<=y2.snd.snd.snd.snd.fst) then bif decide (y2.snd.snd.snd.snd.fst<(↑(List.length y2.snd.snd.snd.fst):Int)) then bif decide ((List.getD y2.snd.snd.snd.fst (Int.toNat y2.snd.snd.snd.snd.fst) ZaS).step<=y2.snd.snd.snd.snd.snd.snd.step) then some (Sum.inr (Sum.inr false)) else some (Sum.inl (y2.fst,y2.snd.fst,Zaf IntKind.i64 (y2.snd.snd.fst+(1:Int)))) else none else none else none else none else none else none else some (Sum.inl (y2.fst,y2.snd.fst,Zaf IntKind.i64 (y2.snd.snd.fst+(1:Int))))
  | some (.inr y3) => some (Sum.inr (Sum.inr y3))
  | none=>none
 | none=>none else some (Sum.inr (Sum.inl ()))
def Zf1 (x:Config×Wld×Int):Option ((Config×Wld×Int)⊕((Unit)⊕(Bool))):=Zox x.1 x.2.1 x.2.2
def Zou (x:Config×Wld×Int):Option ((Unit)⊕(Bool)):=Zav Zf1 x
def ZpE (x0:Config) (x1:Wld):Option (Bool) := bif decide ((↑x1.hist.length:Int)>(1000:Int)) then some (false) else match Zou (x0,x1,(0:Int)) with
 | some (.inl y1) => some (true)
 | some (.inr y2) => some (y2)
 | none=>none
def Zqi (x:Config×Wld):Option (Bool):=ZpE x.1 x.2
def ZhB (x0:Turn):Option (Turn) := bif x0.c.backend == (2:Int) then bif decide (x0.c.depth>(0:Int)) then some ({ x0 with th:={ x0.th with phase:=(4:Int) } }) else bif x0.c.backend == (3:Int) then bif decide (x0.c.layers>(0:Int)) then some ({ x0 with th:={ x0.th with phase:=(17:Int),layer:=(1:Int) } }) else some ({ x0 with th:={ x0.th with phase:=(2:Int) } }) else some ({ x0 with th:={ x0.th with phase:=(2:Int) } }) else bif x0.c.backend == (3:Int) then bif decide (x0.c.layers>(0:Int)) then some ({ x0 with th:={ x0.th with phase:=(17:Int),layer:=(1:Int) } }) else some ({ x0 with th:={ x0.th with phase:=(2:Int) } }) else some ({ x0 with th:={ x0.th with phase:=(2:Int) } })
def Zfj (x:Turn):Option (Turn):=ZhB x
def Zdl (x0:List Int):Option ((List Int)) := bif fewB ((0:Nat)+x0.length) then some (x0) else none
def Zbz (x:(List Int)):Option ((List Int)):=Zdl x
def ZeU (x0:List Int) (x1:Int):Option (Int×Int) := bif decide (x1<(0:Int)) then some (((0:Int),(30:Int))) else bif decide (x1>=(↑x0.length:Int)) then some (((0:Int),(30:Int))) else bif decide ((0:Int)<=x1) then bif decide (x1<(↑x0.length:Int)) then some ((x0.getD x1.toNat (0:Int),(0:Int))) else none else none
def ZbD (x:(List Int)×Int):Option (Int×Int):=ZeU x.1 x.2
def ZfG (x0:Memo) (x1:Int) (x2:Int):Option (Memo×Int) := match ZbD (x0.words,x1) with
 | some y1 => bif y1.snd != (0:Int) then some ((x0,y1.snd)) else match Zbz x0.words with
  | some y2 => bif decide ((0:Int)<=x1) then bif decide (x1<(↑(List.length y2):Int)) then some (({ x0 with words:=List.set y2 x1.toNat x2 },y1.snd)) else none else none
  | none=>none
 | none=>none
def Zb4 (x:Memo×Int×Int):Option (Memo×Int):=ZfG x.1 x.2.1 x.2.2
def Zkb (x0:Config) (x1:Int):Option (Int) := bif decide (x1<(0:Int)) then some ((-1:Int)) else bif decide (x1>=x0.threads) then some ((-1:Int)) else match Zcm x0 with
 | some y1 => some (Zaf IntKind.i64 (y1.lines+Zaf IntKind.i64 ((2:Int)*x1)))
 | none=>none
def ZcX (x:Config×Int):Option (Int):=Zkb x.1 x.2
def ZhE (x0:Turn):Option (Turn×Bool) := bif x0.th.phase != (1:Int) then some ((x0,false)) else match ZcX (x0.c,x0.t) with
 | some y1 => match Zb4 (x0.m,y1,(0:Int)) with
  | some y2 => bif y2.snd != (0:Int) then some ((x0,true)) else match Zfj { x0 with m:=y2.fst } with
   | some y3 => some ((y3,true))
   | none=>none
  | none=>none
 | none=>none
def Zhy (x:Turn):Option (Turn×Bool):=ZhE x
def ZkM (x0:Config) (x1:Int) (x2:Int):Option (Int) := bif decide (x1<(0:Int)) then some ((-1:Int)) else bif decide (x1>=x0.items) then some ((-1:Int)) else match ZeW x0 with
 | some y1 => bif decide (x2<(1:Int)) then some ((-1:Int)) else bif decide (x2>=Zaf IntKind.i64 ((1:Int)+y1)) then some ((-1:Int)) else match Zcm x0 with
  | some y2 => some (Zaf IntKind.i64 (Zaf IntKind.i64 (x1*y2.block)+x2))
  | none=>none
 | none=>none
def Zd7 (x:Config×Int×Int):Option (Int):=ZkM x.1 x.2.1 x.2.2
def Zc8 (x0:Said):Option (Int) :=
 some (Zaf IntKind.i64 (Zaf IntKind.i64 ((8:Int)*Zaf IntKind.i64 (x0.n+(1:Int)))+x0.kind))
def ZbP (x:Said):Option (Int):=Zc8 x
def Zky (x0:Int):Option (Int) := match ZbP (Said.mk (1:Int) x0) with
 | some y1 => some (y1)
 | none=>none
def Zev (x:Int):Option (Int):=Zky x
def ZlV (x0:Int):Option (Int) :=
 some ((if (0:Int)>x0 then (0:Int) else x0).fdiv ((2:Int) ^ min (Int.toNat (1:Int)) IntKind.i64.bits))
def Zii (x:Int):Option (Int):=ZlV x
def Zkq (x0:Turn):Option (Turn) := bif decide (x0.th.stop>(0:Int)) then bif decide (x0.th.at_>=(0:Int)) then bif decide (x0.th.at_<(↑x0.th.held.length:Int)) then some ({ x0 with th:={ x0.th with phase:=(7:Int) } }) else some ({ x0 with th:={ x0.th with phase:=(11:Int) } }) else some ({ x0 with th:={ x0.th with phase:=(11:Int) } }) else bif decide (x0.th.at_>=(0:Int)) then bif decide (x0.th.at_<(↑x0.th.held.length:Int)) then some ({ x0 with th:={ x0.th with phase:=(7:Int) } }) else some ({ x0 with th:={ x0.th with phase:=(2:Int) } }) else some ({ x0 with th:={ x0.th with phase:=(2:Int) } })
def Zfy (x:Turn):Option (Turn):=Zkq x
def Zkw (x0:Turn):Option (Turn) := match Zfy { x0 with th:={ x0.th with at_:=(0:Int) } } with
 | some y1 => some (y1)
 | none=>none
def Zd0 (x:Turn):Option (Turn):=Zkw x
def Zja (x0:Turn):Option (Turn) := match Zbz x0.th.held with
 | some y1 => bif fewB (List.length y1+(x0.th.node::([]:List Int)).length) then match Zii x0.th.node with
  | some y2 => bif decide (y2>(0:Int)) then some ({ x0 with th:={ x0.th with held:=y1++x0.th.node::([]:List Int),node:=y2 } }) else match Zd0 { x0 with th:={ x0.th with held:=y1++x0.th.node::([]:List Int),node:=y2 } } with
   | some y3 => some (y3)
   | none=>none
  | none=>none else none
 | none=>none
def Zjp (x:Turn):Option (Turn):=Zja x
def Zhd (x0:Memo) (x1:Int) (x2:Int) (x3:Int):Option (Memo×Bool×Int) := match ZbD (x0.words,x1) with
 | some y1 => bif y1.snd != (0:Int) then some ((x0,false,y1.snd)) else bif y1.fst == x2 then match Zbz x0.words with
  | some y2 => bif decide ((0:Int)<=x1) then bif decide (x1<(↑(List.length y2):Int)) then some (({ x0 with words:=List.set y2 x1.toNat x3 },y1.fst == x2,y1.snd)) else none else none
  | none=>none else some ((x0,y1.fst == x2,y1.snd))
 | none=>none
def ZcK (x:Memo×Int×Int×Int):Option (Memo×Bool×Int):=Zhd x.1 x.2.1 x.2.2.1 x.2.2.2
def Zfc (x0:Memo) (x1:Int):Option (Int×Int) := match ZbD (x0.words,x1) with
 | some y1 => some (y1)
 | none=>none
def Zca (x:Memo×Int):Option (Int×Int):=Zfc x.1 x.2
def Zje (x0:Turn):Option (Bool) := bif decide ((0:Int)<x0.th.until_) then some (decide (x0.th.until_<=x0.now)) else some (false)
def Zdy (x:Turn):Option (Bool):=Zje x
def Znk (x0:Int):Option (Said) := bif Zaf IntKind.i64 (↑(BitVec.ofInt IntKind.i64.bits x0 &&& BitVec.ofInt IntKind.i64.bits (7:Int)).toNat:Int) == (5:Int) && (Zaf IntKind.i64 (x0.fdiv ((2:Int) ^ min (Int.toNat (3:Int)) IntKind.i64.bits)-(1:Int)) == (-1:Int) && true) then some (Said.mk (Zaf IntKind.i64 (↑(BitVec.ofInt IntKind.i64.bits x0 &&& BitVec.ofInt IntKind.i64.bits (7:Int)).toNat:Int)) (Zaf IntKind.i64 (x0.fdiv ((2:Int) ^ min (Int.toNat (3:Int)) IntKind.i64.bits)-(1:Int)))) else bif decide (Zaf IntKind.i64 (↑(BitVec.ofInt IntKind.i64.bits x0 &&& BitVec.ofInt IntKind.i64.bits (7:Int)).toNat:Int)>=(1:Int)) then bif decide (Zaf IntKind.i64 (↑(BitVec.ofInt IntKind.i64.bits x0 &&& BitVec.ofInt IntKind.i64.bits (7:Int)).toNat:Int)<=(3:Int)) then bif decide (Zaf IntKind.i64 (x0.fdiv ((2:Int) ^ min (Int.toNat (3:Int)) IntKind.i64.bits)-(1:Int))>=(0:Int)) then bif decide (Zaf IntKind.i64 (x0.fdiv ((2:Int) ^ min (Int.toNat (3:Int)) IntKind.i64.bits)-(1:Int))<(16:Int)) then some (Said.mk (Zaf IntKind.i64 (↑(BitVec.ofInt IntKind.i64.bits x0 &&& BitVec.ofInt IntKind.i64.bits (7:Int)).toNat:Int)) (Zaf IntKind.i64 (x0.fdiv ((2:Int) ^ min (Int.toNat (3:Int)) IntKind.i64.bits)-(1:Int)))) else bif Zaf IntKind.i64 (↑(BitVec.ofInt IntKind.i64.bits x0 &&& BitVec.ofInt IntKind.i64.bits (7:Int)).toNat:Int) == (4:Int) then bif decide ((Zaf IntKind.i64 (x0.fdiv ((2:Int) ^ min (Int.toNat (3:Int)) IntKind.i64.bits)-(1:Int))).fdiv ((2:Int) ^ min (Int.toNat (4:Int)) IntKind.i64.bits)>=(0:Int)) then bif decide ((Zaf IntKind.i64 (x0.fdiv ((2:Int) ^ min (Int.toNat (3:Int)) IntKind.i64.bits)-(1:Int))).fdiv ((2:Int) ^ min (Int.toNat (4:Int)) IntKind.i64.bits)<(4:Int)) then bif decide (Zaf IntKind.i64 (↑(BitVec.ofInt IntKind.i64.bits (Zaf IntKind.i64 (x0.fdiv ((2:Int) ^ min (Int.toNat (3:Int)) IntKind.i64.bits)-(1:Int))) &&& BitVec.ofInt IntKind.i64.bits (15:Int)).toNat:Int)>=(1:Int)) then bif decide (Zaf IntKind.i64 (↑(BitVec.ofInt IntKind.i64.bits (Zaf IntKind.i64 (x0.fdiv ((2:Int) ^ min (Int.toNat (3:Int)) IntKind.i64.bits)-(1:Int))) &&& BitVec.ofInt IntKind.i64.bits (15:Int)).toNat:Int)<=(3:Int)) then some (Said.mk (Zaf IntKind.i64 (↑(BitVec.ofInt IntKind.i64.bits x0 &&& BitVec.ofInt IntKind.i64.bits (7:Int)).toNat:Int)) (Zaf IntKind.i64 (x0.fdiv ((2:Int) ^ min (Int.toNat (3:Int)) IntKind.i64.bits)-(1:Int)))) else some (Said.mk (0:Int) (0:Int)) else some (Said.mk (0:Int) (0:Int)) else some (Said.mk (0:Int) (0:Int)) else some (Said.mk (0:Int) (0:Int)) else some (Said.mk (0:Int) (0:Int)) else bif Zaf IntKind.i64 (↑(BitVec.ofInt IntKind.i64.bits x0 &&& BitVec.ofInt IntKind.i64.bits (7:Int)).toNat:Int) == (4:Int) then bif decide ((Zaf IntKind.i64 (x0.fdiv ((2:Int) ^ min (Int.toNat (3:Int)) IntKind.i64.bits)-(1:Int))).fdiv ((2:Int) ^ min (Int.toNat (4:Int)) IntKind.i64.bits)>=(0:Int)) then bif decide ((Zaf IntKind.i64 (x0.fdiv ((2:Int) ^ min (Int.toNat (3:Int)) IntKind.i64.bits)-(1:Int))).fdiv ((2:Int) ^ min (Int.toNat (4:Int)) IntKind.i64.bits)<(4:Int)) then bif decide (Zaf IntKind.i64 (↑(BitVec.ofInt IntKind.i64.bits (Zaf IntKind.i64 (x0.fdiv ((2:Int) ^ min (Int.toNat (3:Int)) IntKind.i64.bits)-(1:Int))) &&& BitVec.ofInt IntKind.i64.bits (15:Int)).toNat:Int)>=(1:Int)) then bif decide (Zaf IntKind.i64 (↑(BitVec.ofInt IntKind.i64.bits (Zaf IntKind.i64 (x0.fdiv ((2:Int) ^ min (Int.toNat (3:Int)) IntKind.i64.bits)-(1:Int))) &&& BitVec.ofInt IntKind.i64.bits (15:Int)).toNat:Int)<=(3:Int)) then some (Said.mk (Zaf IntKind.i64 (↑(BitVec.ofInt IntKind.i64.bits x0 &&& BitVec.ofInt IntKind.i64.bits (7:Int)).toNat:Int)) (Zaf IntKind.i64 (x0.fdiv ((2:Int) ^ min (Int.toNat (3:Int)) IntKind.i64.bits)-(1:Int)))) else some (Said.mk (0:Int) (0:Int)) else some (Said.mk (0:Int) (0:Int)) else some (Said.mk (0:Int) (0:Int)) else some (Said.mk (0:Int) (0:Int)) else some (Said.mk (0:Int) (0:Int)) else bif Zaf IntKind.i64 (↑(BitVec.ofInt IntKind.i64.bits x0 &&& BitVec.ofInt IntKind.i64.bits (7:Int)).toNat:Int) == (4:Int) then bif decide ((Zaf IntKind.i64 (x0.fdiv ((2:Int) ^ min (Int.toNat (3:Int)) IntKind.i64.bits)-(1:Int))).fdiv ((2:Int) ^ min (Int.toNat (4:Int)) IntKind.i64.bits)>=(0:Int)) then bif decide ((Zaf IntKind.i64 (x0.fdiv ((2:Int) ^ min (Int.toNat (3:Int)) IntKind.i64.bits)-(1:Int))).fdiv ((2:Int) ^ min (Int.toNat (4:Int)) IntKind.i64.bits)<(4:Int)) then bif decide (Zaf IntKind.i64 (↑(BitVec.ofInt IntKind.i64.bits (Zaf IntKind.i64 (x0.fdiv ((2:Int) ^ min (Int.toNat (3:Int)) IntKind.i64.bits)-(1:Int))) &&& BitVec.ofInt IntKind.i64.bits (15:Int)).toNat:Int)>=(1:Int)) then bif decide (Zaf IntKind.i64 (↑(BitVec.ofInt IntKind.i64.bits (Zaf IntKind.i64 (x0.fdiv ((2:Int) ^ min (Int.toNat (3:Int)) IntKind.i64.bits)-(1:Int))) &&& BitVec.ofInt IntKind.i64.bits (15:Int)).toNat:Int)<=(3:Int)) then some (Said.mk (Zaf IntKind.i64 (↑(BitVec.ofInt IntKind.i64.bits x0 &&& BitVec.ofInt IntKind.i64.bits (7:Int)).toNat:Int)) (Zaf IntKind.i64 (x0.fdiv ((2:Int) ^ min (Int.toNat (3:Int)) IntKind.i64.bits)-(1:Int)))) else some (Said.mk (0:Int) (0:Int)) else some (Said.mk (0:Int) (0:Int)) else some (Said.mk (0:Int) (0:Int)) else some (Said.mk (0:Int) (0:Int)) else some (Said.mk (0:Int) (0:Int)) else bif Zaf IntKind.i64 (↑(BitVec.ofInt IntKind.i64.bits x0 &&& BitVec.ofInt IntKind.i64.bits (7:Int)).toNat:Int) == (4:Int) then bif decide ((Zaf IntKind.i64 (x0.fdiv ((2:Int) ^ min (Int.toNat (3:Int)) IntKind.i64.bits)-(1:Int))).fdiv ((2:Int) ^ min (Int.toNat (4:Int)) IntKind.i64.bits)>=(0:Int)) then bif decide ((Zaf IntKind.i64 (x0.fdiv ((2:Int) ^ min (Int.toNat (3:Int)) IntKind.i64.bits)-(1:Int))).fdiv ((2:Int) ^ min (Int.toNat (4:Int)) IntKind.i64.bits)<(4:Int)) then bif decide (Zaf IntKind.i64 (↑(BitVec.ofInt IntKind.i64.bits (Zaf IntKind.i64 (x0.fdiv ((2:Int) ^ min (Int.toNat (3:Int)) IntKind.i64.bits)-(1:Int))) &&& BitVec.ofInt IntKind.i64.bits (15:Int)).toNat:Int)>=(1:Int)) then bif decide (Zaf IntKind.i64 (↑(BitVec.ofInt IntKind.i64.bits (Zaf IntKind.i64 (x0.fdiv ((2:Int) ^ min (Int.toNat (3:Int)) IntKind.i64.bits)-(1:Int))) &&& BitVec.ofInt IntKind.i64.bits (15:Int)).toNat:Int)<=(3:Int)) then some (Said.mk (Zaf IntKind.i64 (↑(BitVec.ofInt IntKind.i64.bits x0 &&& BitVec.ofInt IntKind.i64.bits (7:Int)).toNat:Int)) (Zaf IntKind.i64 (x0.fdiv ((2:Int) ^ min (Int.toNat (3:Int)) IntKind.i64.bits)-(1:Int)))) else some (Said.mk (0:Int) (0:Int)) else some (Said.mk (0:Int) (0:Int)) else some (Said.mk (0:Int) (0:Int)) else some (Said.mk (0:Int) (0:Int)) else some (Said.mk (0:Int) (0:Int))
def ZiW (x:Int):Option (Said):=Znk x
def ZlB (x0:Int):Option (Int) := match ZiW x0 with
 | some y1 => bif x0 == (0:Int) then some (y1.kind) else bif !(y1.kind == (0:Int) && (y1.n == (0:Int) && true)) then some (y1.kind) else some ((-1:Int))
 | none=>none
def Zgl (x:Int):Option (Int):=ZlB x
def Zkp (x0:Turn) (x1:Int):Option (Turn) := match Zgl x1 with
 | some y1 => bif y1 == (1:Int) then some ({ x0 with th:={ x0.th with phase:=(6:Int),x:=x1 } }) else bif y1 == (0:Int) then some ({ x0 with th:={ x0.th with phase:=(5:Int) } }) else match Zdy x0 with
  | some y2 => bif y2 then match Zd0 x0 with
   | some y3 => some (y3)
   | none=>none else some (x0)
  | none=>none
 | none=>none
def ZkO (x:Turn×Int):Option (Turn):=Zkp x.1 x.2
def Zjo (x0:Int):Option (Int) := match ZbP (Said.mk (2:Int) x0) with
 | some y1 => some (y1)
 | none=>none
def Zjl (x:Int):Option (Int):=Zjo x
def Zix (x0:Turn):Option (Turn) := match Zd0 { x0 with th:={ x0.th with stop:=x0.th.node } } with
 | some y1 => some (y1)
 | none=>none
def Zin (x:Turn):Option (Turn):=Zix x
def ZkD (x0:Turn):Option (Turn×Bool) := match Zd7 (x0.c,x0.th.item,x0.th.node) with
 | some y1 => match Zev x0.t with
  | some y2 => bif x0.th.phase == (4:Int) then match Zca (x0.m,y1) with
   | some y3 => bif y3.snd != (0:Int) then some ((x0,true)) else match ZkO (x0,y3.fst) with
     | some y4 => some ((y4,true))
     | none=>none
   | none=>none else bif x0.th.phase == (6:Int) then match Zjl x0.t with
    | some y3 => match ZcK (x0.m,y1,x0.th.x,y3) with
     | some y4 => bif y4.snd.snd != (0:Int) then some ((x0,true)) else bif y4.snd.fst then match Zin { x0 with m:=y4.fst,th:={ x0.th with phase:=(4:Int) } } with
      | some y5 => some ((y5,true))
      | none=>none else some (({ x0 with m:=y4.fst,th:={ x0.th with phase:=(4:Int) } },true))
     | none=>none
    | none=>none else bif x0.th.phase == (5:Int) then match ZcK (x0.m,y1,(0:Int),y2) with
     | some y3 => bif y3.snd.snd != (0:Int) then some ((x0,true)) else bif y3.snd.fst then match Zjp { x0 with m:=y3.fst,th:={ x0.th with phase:=(4:Int) } } with
      | some y4 => some ((y4,true))
      | none=>none else some (({ x0 with m:=y3.fst,th:={ x0.th with phase:=(4:Int) } },true))
     | none=>none else some ((x0,false))
  | none=>none
 | none=>none
def Zj0 (x:Turn):Option (Turn×Bool):=ZkD x
def Zi5 (x0:Turn):Option (Int) := bif decide (x0.th.at_<(0:Int)) then some ((-1:Int)) else bif decide (x0.th.at_>=(↑x0.th.held.length:Int)) then some ((-1:Int)) else bif decide ((0:Int)<=x0.th.at_) then bif decide (x0.th.at_<(↑x0.th.held.length:Int)) then match Zd7 (x0.c,x0.th.item,x0.th.held.getD x0.th.at_.toNat (0:Int)) with
 | some y1 => some (y1)
 | none=>none else none else none
def Ze1 (x:Turn):Option (Int):=Zi5 x
def Zms (x0:Int):Option (Int) := match ZiW x0 with
 | some y1 => bif decide (y1.kind>=(1:Int)) then bif decide (y1.kind<=(3:Int)) then some (y1.n) else some ((-1:Int)) else some ((-1:Int))
 | none=>none
def Zl8 (x:Int):Option (Int):=Zms x
def Zm0 (x0:Turn):Option (Turn) := match Ze1 x0 with
 | some y1 => match Zca (x0.m,y1) with
  | some y2 => bif y2.snd != (0:Int) then some (x0) else match Zev x0.t with
   | some y3 => bif y2.fst == y3 then some ({ x0 with th:={ x0.th with phase:=(8:Int) } }) else match Zgl y2.fst with
    | some y4 => bif y4 == (3:Int) then match Zl8 y2.fst with
     | some y5 => some ({ x0 with th:={ x0.th with phase:=(9:Int),who:=y5 } })
     | none=>none else some (x0)
    | none=>none
   | none=>none
  | none=>none
 | none=>none
def Zjs (x:Turn):Option (Turn):=Zm0 x
def Zjr (x0:Turn):Option (Turn) := match Zfy { x0 with th:={ x0.th with at_:=Zaf IntKind.i64 (x0.th.at_+(1:Int)) } } with
 | some y1 => some (y1)
 | none=>none
def Zgt (x:Turn):Option (Turn):=Zjr x
def ZmU (x0:Turn):Option (Turn) := match Ze1 x0 with
 | some y1 => match Zev x0.t with
  | some y2 => match ZcK (x0.m,y1,y2,(0:Int)) with
   | some y3 => bif !y3.snd.fst then bif y3.snd.snd != (0:Int) then some (x0) else some ({ x0 with m:=y3.fst,th:={ x0.th with phase:=(7:Int) } }) else bif y3.snd.snd != (0:Int) then some (x0) else match Zgt { x0 with m:=y3.fst } with
    | some y4 => some (y4)
    | none=>none
   | none=>none
  | none=>none
 | none=>none
def Zjt (x:Turn):Option (Turn):=ZmU x
def ZcI (x0:List Entry):Option ((List Entry)) := bif fewB ((0:Nat)+x0.length) then some (x0) else none
def Zbr (x:(List Entry)):Option ((List Entry)):=ZcI x
def Zch (x0:List (List Entry)) (x1:Int):Option ((List Entry)×Int) := bif decide (x1<(0:Int)) then some ((([]:List Entry),(30:Int))) else bif decide (x1>=(↑x0.length:Int)) then some ((([]:List Entry),(30:Int))) else bif decide ((0:Int)<=x1) then bif decide (x1<(↑x0.length:Int)) then some ((x0.getD x1.toNat ([]:List Entry),(0:Int))) else none else none
def Zcg (x:(List (List Entry))×Int):Option ((List Entry)×Int):=Zch x.1 x.2
def Zg4 (x0:Memo) (x1:Int):Option ((List Entry)×Int) := match Zcg (x0.boxes,x1) with
 | some y1 => match Zbr y1.fst with
  | some y2 => some ((y2,y1.snd))
  | none=>none
 | none=>none
def ZhR (x:Memo×Int):Option ((List Entry)×Int):=Zg4 x.1 x.2
def ZdY (x0:Unit) (x1:Int):Option ((List Kid)) := bif decide (x1<(0:Int)) then none else bif decide (Zaf IntKind.i64 (x1-Zaf IntKind.i64 ((0:Int)-(0:Int)))>(0:Int)) then bif decide ((0:Int)<=Zaf IntKind.i64 (x1-Zaf IntKind.i64 ((0:Int)-(0:Int)))) then bif decide (Zaf IntKind.i64 (x1-Zaf IntKind.i64 ((0:Int)-(0:Int)))<=Zby) then some (List.take (Int.toNat (0:Int)) (List.replicate (Zaf IntKind.i64 (x1-Zaf IntKind.i64 ((0:Int)-(0:Int)))).toNat (Kid.mk (0:Int) (0:Int)))) else none else none else some (([]:List Kid))
def ZdZ (x:Unit×Int):Option ((List Kid)):=ZdY x.1 x.2
def Zco (x0:List Kid) (x1:List (List Kid)) (x2:Int) (x3:Int):Option (((List Kid)×(List (List Kid))×Int×Int)⊕(((List Kid)))) := bif decide (x3<x2) then bif decide ((0:Int)<=x3) then bif decide (x3<(↑x1.length:Int)) then bif fewB (x0.length+List.length (x1.getD x3.toNat ([]:List Kid))) then some (Sum.inl (x0++x1.getD x3.toNat ([]:List Kid),x1,x2,Zaf IntKind.i64 (x3+(1:Int)))) else none else none else none else some (Sum.inr x0)
def ZbJ (x:(List Kid)×(List (List Kid))×Int×Int):Option (((List Kid)×(List (List Kid))×Int×Int)⊕(((List Kid)))):=Zco x.1 x.2.1 x.2.2.1 x.2.2.2
def Zc4 (x:(List Kid)×(List (List Kid))×Int×Int):Option (((List Kid))):=Zav ZbJ x
def Zcv (x0:List (List Kid)) (x1:Int) (x2:List (List Kid)) (x3:Int) (x4:Int):Option (((List (List Kid))×Int×(List (List Kid))×Int×Int)⊕(((List (List Kid))×Int))) := bif decide (x4<x3) then bif decide ((0:Int)<=x4) then bif decide (x4<(↑x2.length:Int)) then bif decide (Zaf IntKind.i64 (x1+(↑(List.length (x2.getD x4.toNat ([]:List Kid))):Int))<(0:Int)) then none else some (Sum.inl (x0,Zaf IntKind.i64 (x1+(↑(List.length (x2.getD x4.toNat ([]:List Kid))):Int)),x2,x3,Zaf IntKind.i64 (x4+(1:Int)))) else none else none else some (Sum.inr (x0,x1))
def ZbM (x:(List (List Kid))×Int×(List (List Kid))×Int×Int):Option (((List (List Kid))×Int×(List (List Kid))×Int×Int)⊕(((List (List Kid))×Int))):=Zcv x.1 x.2.1 x.2.2.1 x.2.2.2.1 x.2.2.2.2
def Zc9 (x:(List (List Kid))×Int×(List (List Kid))×Int×Int):Option (((List (List Kid))×Int)):=Zav ZbM x
def ZdA (x0:List (List Kid)):Option ((List Kid)) := match Zc9 (x0,(0:Int),x0,(↑x0.length:Int),(0:Int)) with
 | some y1 => match ZdZ ((),y1.snd) with
  | some y2 => match Zc4 (y2,y1.fst,(↑(List.length y1.fst):Int),(0:Int)) with
   | some y3 => some (y3)
   | none=>none
  | none=>none
 | none=>none
def ZdD (x:(List (List Kid))):Option ((List Kid)):=ZdA x
def ZdL (x0:Unit) (x1:Int):Option ((List Entry)) := bif decide (x1<(0:Int)) then none else bif decide (Zaf IntKind.i64 (x1-Zaf IntKind.i64 ((0:Int)-(0:Int)))>(0:Int)) then bif decide ((0:Int)<=Zaf IntKind.i64 (x1-Zaf IntKind.i64 ((0:Int)-(0:Int)))) then bif decide (Zaf IntKind.i64 (x1-Zaf IntKind.i64 ((0:Int)-(0:Int)))<=Zby) then some (List.take (Int.toNat (0:Int)) (List.replicate (Zaf IntKind.i64 (x1-Zaf IntKind.i64 ((0:Int)-(0:Int)))).toNat (Entry.mk (0:Int) (Op.mk (0:Int) (0:Int))))) else none else none else some (([]:List Entry))
def ZdP (x:Unit×Int):Option ((List Entry)):=ZdL x.1 x.2
def Zck (x0:List Entry) (x1:List (List Entry)) (x2:Int) (x3:Int):Option (((List Entry)×(List (List Entry))×Int×Int)⊕(((List Entry)))) := bif decide (x3<x2) then bif decide ((0:Int)<=x3) then bif decide (x3<(↑x1.length:Int)) then bif fewB (x0.length+List.length (x1.getD x3.toNat ([]:List Entry))) then some (Sum.inl (x0++x1.getD x3.toNat ([]:List Entry),x1,x2,Zaf IntKind.i64 (x3+(1:Int)))) else none else none else none else some (Sum.inr x0)
def ZbC (x:(List Entry)×(List (List Entry))×Int×Int):Option (((List Entry)×(List (List Entry))×Int×Int)⊕(((List Entry)))):=Zck x.1 x.2.1 x.2.2.1 x.2.2.2
def Zc1 (x:(List Entry)×(List (List Entry))×Int×Int):Option (((List Entry))):=Zav ZbC x
def Zcn (x0:List (List Entry)) (x1:Int) (x2:List (List Entry)) (x3:Int) (x4:Int):Option (((List (List Entry))×Int×(List (List Entry))×Int×Int)⊕(((List (List Entry))×Int))) := bif decide (x4<x3) then bif decide ((0:Int)<=x4) then bif decide (x4<(↑x2.length:Int)) then bif decide (Zaf IntKind.i64 (x1+(↑(List.length (x2.getD x4.toNat ([]:List Entry))):Int))<(0:Int)) then none else some (Sum.inl (x0,Zaf IntKind.i64 (x1+(↑(List.length (x2.getD x4.toNat ([]:List Entry))):Int)),x2,x3,Zaf IntKind.i64 (x4+(1:Int)))) else none else none else some (Sum.inr (x0,x1))
def ZbK (x:(List (List Entry))×Int×(List (List Entry))×Int×Int):Option (((List (List Entry))×Int×(List (List Entry))×Int×Int)⊕(((List (List Entry))×Int))):=Zcn x.1 x.2.1 x.2.2.1 x.2.2.2.1 x.2.2.2.2
def Zc5 (x:(List (List Entry))×Int×(List (List Entry))×Int×Int):Option (((List (List Entry))×Int)):=Zav ZbK x
def Zdp (x0:List (List Entry)):Option ((List Entry)) := match Zc5 (x0,(0:Int),x0,(↑x0.length:Int),(0:Int)) with
 | some y1 => match ZdP ((),y1.snd) with
  | some y2 => match Zc1 (y2,y1.fst,(↑(List.length y1.fst):Int),(0:Int)) with
   | some y3 => some (y3)
   | none=>none
  | none=>none
 | none=>none
def Zdg (x:(List (List Entry))):Option ((List Entry)):=Zdp x
def ZnC (x0:List (List Entry)):Option ((List Entry)) := match Zdg x0 with
 | some y1 => some (y1)
 | none=>none
def ZkH (x:(List (List Entry))):Option ((List Entry)):=ZnC x
def Zi2 (x0:Turn) (x1:Int) (x2:List Entry):Option (Turn) := match ZdD (x0.th.kids::(Kid.mk x1 (↑x0.th.batch.length:Int)::([]:List Kid))::([]:List (List Kid))) with
 | some y1 => match ZkH (x0.th.batch::x2::([]:List (List Entry))) with
  | some y2 => some ({ x0 with th:={ x0.th with batch:=y2,kids:=y1 } })
  | none=>none
 | none=>none
def Ze0 (x:Turn×Int×(List Entry)):Option (Turn):=Zi2 x.1 x.2.1 x.2.2
def ZjX (x0:Turn):Option (Turn) := match ZhR (x0.m,x0.th.who) with
 | some y1 => bif y1.snd != (0:Int) then some (x0) else match Ze0 (x0,x0.th.who,y1.fst) with
  | some y2 => some ({ y2 with th:={ y2.th with phase:=(10:Int) } })
  | none=>none
 | none=>none
def ZgI (x:Turn):Option (Turn):=ZjX x
def Zm1 (x0:Turn):Option (Turn) := match Ze1 x0 with
 | some y1 => match Zb4 (x0.m,y1,(0:Int)) with
  | some y2 => bif y2.snd != (0:Int) then some (x0) else match Zgt { x0 with m:=y2.fst } with
   | some y3 => some (y3)
   | none=>none
  | none=>none
 | none=>none
def Zjg (x:Turn):Option (Turn):=Zm1 x
def Zdi (x0:List (List Entry)):Option ((List (List Entry))) := bif fewB ((0:Nat)+x0.length) then some (x0) else none
def Zdn (x:(List (List Entry))):Option ((List (List Entry))):=Zdi x
def Zma (x0:Memo) (x1:Int) (x2:List Entry):Option (Memo×Int) := match Zcg (x0.boxes,x1) with
 | some y1 => bif y1.snd != (0:Int) then some ((x0,y1.snd)) else match Zdn x0.boxes with
  | some y2 => match Zbr x2 with
   | some y3 => bif decide ((0:Int)<=x1) then bif decide (x1<(↑(List.length y2):Int)) then some (({ x0 with boxes:=List.set y2 x1.toNat y3 },(0:Int))) else none else none
   | none=>none
  | none=>none
 | none=>none
def Zht (x:Memo×Int×(List Entry)):Option (Memo×Int):=Zma x.1 x.2.1 x.2.2
def Zkt (x0:Turn):Option (Turn) := match Zht (x0.m,x0.t,x0.th.batch) with
 | some y1 => bif y1.snd != (0:Int) then some (x0) else some ({ x0 with m:=y1.fst,th:={ x0.th with phase:=(12:Int) } })
 | none=>none
def Zgz (x:Turn):Option (Turn):=Zkt x
def Zgx (x0:Int):Option (Int) := match ZbP (Said.mk (3:Int) x0) with
 | some y1 => some (y1)
 | none=>none
def ZgE (x:Int):Option (Int):=Zgx x
def ZkI (x0:Turn):Option (Turn) := match Zd7 (x0.c,x0.th.item,x0.th.stop) with
 | some y1 => match ZgE x0.t with
  | some y2 => match Zb4 (x0.m,y1,y2) with
   | some y3 => bif y3.snd != (0:Int) then some (x0) else some ({ x0 with m:=y3.fst,th:={ x0.th with phase:=(13:Int) } })
   | none=>none
  | none=>none
 | none=>none
def ZgK (x:Turn):Option (Turn):=ZkI x
def Zjc (x0:Turn):Option (Turn×Bool) := bif x0.th.phase == (7:Int) then match Zjs x0 with
 | some y1 => some ((y1,true))
 | none=>none else bif x0.th.phase == (8:Int) then match Zjt x0 with
  | some y1 => some ((y1,true))
  | none=>none else bif x0.th.phase == (9:Int) then match ZgI x0 with
   | some y1 => some ((y1,true))
   | none=>none else bif x0.th.phase == (10:Int) then match Zjg x0 with
    | some y1 => some ((y1,true))
    | none=>none else bif x0.th.phase == (11:Int) then match Zgz x0 with
     | some y1 => some ((y1,true))
     | none=>none else bif x0.th.phase == (12:Int) then match ZgK x0 with
      | some y1 => some ((y1,true))
      | none=>none else some ((x0,false))
def Zjq (x:Turn):Option (Turn×Bool):=Zjc x
def Zps (x0:Config) (x1:Int×Int×Int×Int×Int×Int×Int×Int×Int×Int×Int×Int×Int×Int×Int×Int×Int×Int×Int×Int×Int×Int×Int×Int) (x2:Int):Option ((Config×(Int×Int×Int×Int×Int×Int×Int×Int×Int×Int×Int×Int×Int×Int×Int×Int×Int×Int×Int×Int×Int×Int×Int×Int)×Int)⊕((Config)⊕(Int))) := bif decide (x2<(8:Int)) then bif decide ((0:Int)<=x2) then bif decide (x2<(↑(8:Nat):Int)) then bif decide (x2=(↑(0:Nat):Int)) then bif decide (x1.fst<x1.snd.fst) then some (Sum.inr (Sum.inr (Zaf IntKind.i64 ((50:Int)+x2)))) else bif decide (x1.fst>x1.snd.snd.fst) then some (Sum.inr (Sum.inr (Zaf IntKind.i64 ((50:Int)+x2)))) else some (Sum.inl (x0,x1,Zaf IntKind.i64 (x2+(1:Int)))) else bif decide (x2=(↑((0:Nat)+(1:Nat)):Int)) then bif decide (x1.snd.snd.snd.fst<x1.snd.snd.snd.snd.fst) then some (Sum.inr (Sum.inr (Zaf IntKind.i64 ((50:Int)+x2)))) else bif decide (x1.snd.snd.snd.fst>x1.snd.snd.snd.snd.snd.fst) then some (Sum.inr (Sum.inr (Zaf IntKind.i64 ((50:Int)+x2)))) else some (Sum.inl (x0,x1,Zaf IntKind.i64 (x2+(1:Int)))) else bif decide (x2=(↑((0:Nat)+(1:Nat)+(1:Nat)):Int)) then bif decide (x1.snd.snd.snd.snd.snd.snd.fst<x1.snd.snd.snd.snd.snd.snd.snd.fst) then some (Sum.inr (Sum.inr (Zaf IntKind.i64 ((50:Int)+x2)))) else bif decide (x1.snd.snd.snd.snd.snd.snd.fst>x1.snd.snd.snd.snd.snd.snd.snd.snd.fst) then some (Sum.inr (Sum.inr (Zaf IntKind.i64 ((50:Int)+x2)))) else some (Sum.inl (x0,x1,Zaf IntKind.i64 (x2+(1:Int)))) else bif decide (x2=(↑((0:Nat)+(1:Nat)+(1:Nat)+(1:Nat)):Int)) then bif decide (x1.snd.snd.snd.snd.snd.snd.snd.snd.snd.fst<x1.snd.snd.snd.snd.snd.snd.snd.snd.snd.snd.fst) then some (Sum.inr (Sum.inr (Zaf IntKind.i64 ((50:Int)+x2)))) else bif decide (x1.snd.snd.snd.snd.snd.snd.snd.snd.snd.fst>x1.snd.snd.snd.snd.snd.snd.snd.snd.snd.snd.snd.fst) then some (Sum.inr (Sum.inr (Zaf IntKind.i64 ((50:Int)+x2)))) else some (Sum.inl (x0,x1,Zaf IntKind.i64 (x2+(1:Int)))) else bif decide (x2=(↑((0:Nat)+(1:Nat)+(1:Nat)+(1:Nat)+(1:Nat)):Int)) then bif decide (x1.snd.snd.snd.snd.snd.snd.snd.snd.snd.snd.snd.snd.fst<x1.snd.snd.snd.snd.snd.snd.snd.snd.snd.snd.snd.snd.snd.fst) then some (Sum.inr (Sum.inr (Zaf IntKind.i64 ((50:Int)+x2)))) else bif decide (x1.snd.snd.snd.snd.snd.snd.snd.snd.snd.snd.snd.snd.fst>x1.snd.snd.snd.snd.snd.snd.snd.snd.snd.snd.snd.snd.snd.snd.fst) then some (Sum.inr (Sum.inr (Zaf IntKind.i64 ((50:Int)+x2)))) else some (Sum.inl (x0,x1,Zaf IntKind.i64 (x2+(1:Int)))) else bif decide (x2=(↑((0:Nat)+(1:Nat)+(1:Nat)+(1:Nat)+(1:Nat)+(1:Nat)):Int)) then bif decide (x1.snd.snd.snd.snd.snd.snd.snd.snd.snd.snd.snd.snd.snd.snd.snd.fst<x1.snd.snd.snd.snd.snd.snd.snd.snd.snd.snd.snd.snd.snd.snd.snd.snd.fst) then some (Sum.inr (Sum.inr (Zaf IntKind.i64 ((50:Int)+x2)))) else bif decide (x1.snd.snd.snd.snd.snd.snd.snd.snd.snd.snd.snd.snd.snd.snd.snd.fst>x1.snd.snd.snd.snd.snd.snd.snd.snd.snd.snd.snd.snd.snd.snd.snd.snd.snd.fst) then some (Sum.inr (Sum.inr (Zaf IntKind.i64 ((50:Int)+x2)))) else some (Sum.inl (x0,x1,Zaf IntKind.i64 (x2+(1:Int)))) else bif decide (x2=(↑((0:Nat)+(1:Nat)+(1:Nat)+(1:Nat)+(1:Nat)+(1:Nat)+(1:Nat)):Int)) then bif decide (x1.snd.snd.snd.snd.snd.snd.snd.snd.snd.snd.snd.snd.snd.snd.snd.snd.snd.snd.fst<x1.snd.snd.snd.snd.snd.snd.snd.snd.snd.snd.snd.snd.snd.snd.snd.snd.snd.snd.snd.fst) then some (Sum.inr (Sum.inr (Zaf IntKind.i64 ((50:Int)+x2)))) else bif decide (x1.snd.snd.snd.snd.snd.snd.snd.snd.snd.snd.snd.snd.snd.snd.snd.snd.snd.snd.fst>x1.snd.snd.snd.snd.snd.snd.snd.snd.snd.snd.snd.snd.snd.snd.snd.snd.snd.snd.snd.snd.fst) then some (Sum.inr (Sum.inr (Zaf IntKind.i64 ((50:Int)+x2)))) else some (Sum.inl (x0,x1,Zaf IntKind.i64 (x2+(1:Int)))) else bif decide (x2=(↑((0:Nat)+(1:Nat)+(1:Nat)+(1:Nat)+(1:Nat)+(1:Nat)+(1:Nat)+(1:Nat)):Int)) then bif decide (x1.snd.snd.snd.snd.snd.snd.snd.snd.snd.snd.snd.snd.snd.snd.snd.snd.snd.snd.snd.snd.snd.fst<x1.snd.snd.snd.snd.snd.snd.snd.snd.snd.snd.snd.snd.snd.snd.snd.snd.snd.snd.snd.snd.snd.snd.fst) then some (Sum.inr (Sum.inr (Zaf IntKind.i64 ((50:Int)+x2)))) else bif decide (x1.snd.snd.snd.snd.snd.snd.snd.snd.snd.snd.snd.snd.snd.snd.snd.snd.snd.snd.snd.snd.snd.fst>x1.snd.snd.snd.snd.snd.snd.snd.snd.snd.snd.snd.snd.snd.snd.snd.snd.snd.snd.snd.snd.snd.snd.snd) then some (Sum.inr (Sum.inr (Zaf IntKind.i64 ((50:Int)+x2)))) else some (Sum.inl (x0,x1,Zaf IntKind.i64 (x2+(1:Int)))) else none else none else none else some (Sum.inr (Sum.inl x0))
def Zd6 (x:Config×(Int×Int×Int×Int×Int×Int×Int×Int×Int×Int×Int×Int×Int×Int×Int×Int×Int×Int×Int×Int×Int×Int×Int×Int)×Int):Option ((Config×(Int×Int×Int×Int×Int×Int×Int×Int×Int×Int×Int×Int×Int×Int×Int×Int×Int×Int×Int×Int×Int×Int×Int×Int)×Int)⊕((Config)⊕(Int))):=Zps x.1 x.2.1 x.2.2
def ZcL (x:Config×(Int×Int×Int×Int×Int×Int×Int×Int×Int×Int×Int×Int×Int×Int×Int×Int×Int×Int×Int×Int×Int×Int×Int×Int)×Int):Option ((Config)⊕(Int)):=Zav Zd6 x
def Ziu (x0:Config):Option (Int) := match ZcL (x0,(x0.threads,(1:Int),(16:Int),x0.items,(1:Int),(4:Int),x0.backend,(1:Int),(3:Int),x0.depth,(0:Int),(4:Int),x0.layers,(0:Int),(3:Int),x0.width,(1:Int),(8:Int),x0.spin,(0:Int),(20:Int),x0.wait,(0:Int),(1000:Int)),(0:Int)) with
 | some (.inl y1) => bif y1.bounded then bif decide (y1.init<y1.lo) then some ((58:Int)) else bif decide (y1.hi<y1.init) then some ((58:Int)) else some ((0:Int)) else some ((0:Int))
 | some (.inr y2) => some (y2)
 | none=>none
def ZeC (x:Config):Option (Int):=Ziu x
def ZhI (x0:Int) (x1:Int):Option (Bool) := bif decide ((0:Int)<=x0) then some (decide (x0<x1)) else some (false)
def Zdt (x:Int×Int):Option (Bool):=ZhI x.1 x.2
def Znn (x0:Int):Option (Bool) := bif decide ((1:Int)<=x0) then some (decide (x0<=(9:Int))) else some (false)
def Zks (x:Int):Option (Bool):=Znn x
def Zme (x0:Op) (x1:Bool):Option (Bool) := bif !x1 then match Zks x0.tag with
 | some y1 => bif y1 then some (decide (x0.tag<(8:Int))) else some (false)
 | none=>none else bif x0.tag == (9:Int) then some (decide (x0.v>=(0:Int))) else some (x0.tag == (8:Int))
def ZjI (x:Op×Bool):Option (Bool):=Zme x.1 x.2
def Zij (x0:Config) (x1:SEntry):Option (Int) := bif x1.kind == (1:Int) then bif x1.kind == (1:Int) then match Zdt (x1.t,x0.threads) with
 | some y1 => bif !y1 then some ((91:Int)) else bif x1.kind == (2:Int) then some ((0:Int)) else match Zdt (x1.item,x0.items) with
  | some y2 => bif !y2 then some ((92:Int)) else match ZjI (x1.op,x0.bounded) with
   | some y3 => bif !y3 then some ((93:Int)) else some ((0:Int))
   | none=>none
  | none=>none
 | none=>none else bif x1.kind == (3:Int) then some ((0:Int)) else some ((90:Int)) else bif x1.kind == (2:Int) then match Zdt (x1.t,x0.threads) with
 | some y1 => bif !y1 then some ((91:Int)) else bif x1.kind == (2:Int) then some ((0:Int)) else match Zdt (x1.item,x0.items) with
  | some y2 => bif !y2 then some ((92:Int)) else match ZjI (x1.op,x0.bounded) with
   | some y3 => bif !y3 then some ((93:Int)) else some ((0:Int))
   | none=>none
  | none=>none
 | none=>none else bif x1.kind == (3:Int) then some ((0:Int)) else some ((90:Int))
def ZfY (x:Config×SEntry):Option (Int):=Zij x.1 x.2
def Zet (x0:Config) (x1:List SEntry) (x2:Int) (x3:Int):Option ((Config×(List SEntry)×Int×Int)⊕((Unit)⊕(Int×Int))) := bif decide (x3<x2) then bif decide ((0:Int)<=x3) then bif decide (x3<(↑x1.length:Int)) then match ZfY (x0,x1.getD x3.toNat Zbo) with
 | some y1 => bif y1 != (0:Int) then some (Sum.inr (Sum.inr (x3,y1))) else some (Sum.inl (x0,x1,x2,Zaf IntKind.i64 (x3+(1:Int))))
 | none=>none else none else none else some (Sum.inr (Sum.inl ()))
def ZfI (x:Config×(List SEntry)×Int×Int):Option ((Config×(List SEntry)×Int×Int)⊕((Unit)⊕(Int×Int))):=Zet x.1 x.2.1 x.2.2.1 x.2.2.2
def Zid (x:Config×(List SEntry)×Int×Int):Option ((Unit)⊕(Int×Int)):=Zav ZfI x
def Zkg (x0:Config) (x1:List SEntry):Option (Int×Int) := match ZeC x0 with
 | some y1 => bif y1 != (0:Int) then some (((0:Int),y1)) else bif decide ((↑x1.length:Int)>(65536:Int)) then some (((0:Int),(2:Int))) else match Zid (x0,x1,(↑x1.length:Int),(0:Int)) with
  | some (.inl y2) => some (((0:Int),(0:Int)))
  | some (.inr y3) => some (y3)
  | none=>none
 | none=>none
def Zhw (x:Config×(List SEntry)):Option (Int×Int):=Zkg x.1 x.2
def Zha (x0:Turn):Option (Turn) := bif decide (x0.th.layer<x0.c.layers) then match Zdy { x0 with th:={ x0.th with phase:=(2:Int) } } with
 | some y1 => bif !y1 then some ({ x0 with th:={ x0.th with phase:=(17:Int),layer:=Zaf IntKind.i64 (x0.th.layer+(1:Int)) } }) else some ({ x0 with th:={ x0.th with phase:=(2:Int) } })
 | none=>none else some ({ x0 with th:={ x0.th with phase:=(2:Int) } })
def Zcl (x:Turn):Option (Turn):=Zha x
def ZiH (x0:Int) (x1:Int):Option (Int) := match ZbP (Said.mk (4:Int) (Zaf IntKind.i64 (Zaf IntKind.i64 (x0*(2:Int) ^ min (Int.toNat (4:Int)) IntKind.i64.bits)+x1))) with
 | some y1 => some (y1)
 | none=>none
def ZiJ (x:Int×Int):Option (Int):=ZiH x.1 x.2
def Zhv (x0:Turn×Int) (x1:Int):Option (Int) := match ZcX (x0.fst.c,x1) with
 | some y1 => some (y1)
 | none=>none
def ZbZ (x:(Turn×Int)×Int):Option (Int):=Zhv x.1 x.2
def Zov (x0:Int) (x1:Int):Option (Int×Int) :=
 some ((Zaf IntKind.u64 (Zaf IntKind.u64 (Zaf IntKind.u64 (x0.fdiv ((2:Int) ^ min (Int.toNat (32:Int)) IntKind.u64.bits)*x1.fdiv ((2:Int) ^ min (Int.toNat (32:Int)) IntKind.u64.bits))+(Zaf IntKind.u64 (Zaf IntKind.u64 (x0.fdiv ((2:Int) ^ min (Int.toNat (32:Int)) IntKind.u64.bits)*Zaf IntKind.u64 (↑(BitVec.ofInt IntKind.u64.bits x1 &&& BitVec.ofInt IntKind.u64.bits (4294967295:Int)).toNat:Int))+(Zaf IntKind.u64 (Zaf IntKind.u64 (↑(BitVec.ofInt IntKind.u64.bits x0 &&& BitVec.ofInt IntKind.u64.bits (4294967295:Int)).toNat:Int)*Zaf IntKind.u64 (↑(BitVec.ofInt IntKind.u64.bits x1 &&& BitVec.ofInt IntKind.u64.bits (4294967295:Int)).toNat:Int))).fdiv ((2:Int) ^ min (Int.toNat (32:Int)) IntKind.u64.bits))).fdiv ((2:Int) ^ min (Int.toNat (32:Int)) IntKind.u64.bits))+(Zaf IntKind.u64 (Zaf IntKind.u64 (↑(BitVec.ofInt IntKind.u64.bits (Zaf IntKind.u64 (Zaf IntKind.u64 (x0.fdiv ((2:Int) ^ min (Int.toNat (32:Int)) IntKind.u64.bits)*Zaf IntKind.u64 (↑(BitVec.ofInt IntKind.u64.bits x1 &&& BitVec.ofInt IntKind.u64.bits (4294967295:Int)).toNat:Int))+(Zaf IntKind.u64 (Zaf IntKind.u64 (↑(BitVec.ofInt IntKind.u64.bits x0 &&& BitVec.ofInt IntKind.u64.bits (4294967295:Int)).toNat:Int)*Zaf IntKind.u64 (↑(BitVec.ofInt IntKind.u64.bits x1 &&& BitVec.ofInt IntKind.u64.bits (4294967295:Int)).toNat:Int))).fdiv ((2:Int) ^ min (Int.toNat (32:Int)) IntKind.u64.bits))) &&& BitVec.ofInt IntKind.u64.bits (4294967295:Int)).toNat:Int)+Zaf IntKind.u64 (Zaf IntKind.u64 (↑(BitVec.ofInt IntKind.u64.bits x0 &&& BitVec.ofInt IntKind.u64.bits (4294967295:Int)).toNat:Int)*x1.fdiv ((2:Int) ^ min (Int.toNat (32:Int)) IntKind.u64.bits)))).fdiv ((2:Int) ^ min (Int.toNat (32:Int)) IntKind.u64.bits)),Zaf IntKind.u64 (x0*x1)))
def ZjD (x:Int×Int):Option (Int×Int):=Zov x.1 x.2
def Zq2 (x0:Int) (x1:Int):Option (Int×Int) := match ZjD (x0,x1) with
 | some y1 => some (y1)
 | none=>none
def Zdu (x:Int×Int):Option (Int×Int):=Zq2 x.1 x.2
def Zig (x0:List Thread):Option ((List Thread)) := bif fewB ((0:Nat)+x0.length) then some (x0) else none
def Ziq (x:(List Thread)):Option ((List Thread)):=Zig x
def Zjy (x0:List Mark):Option ((List Mark)) := bif fewB ((0:Nat)+x0.length) then some (x0) else none
def ZjA (x:(List Mark)):Option ((List Mark)):=Zjy x
def Zi1 (x0:List Event):Option ((List Event)) := bif fewB ((0:Nat)+x0.length) then some (x0) else none
def Zjk (x:(List Event)):Option ((List Event)):=Zi1 x
def ZoZ:Option (Int) := match ZbP (Said.mk (5:Int) (-1:Int)) with
 | some y1 => some (y1)
 | none=>none
def Zga (x:Unit):Option (Int):=ZoZ
def ZhX (x0:Config) (x1:Int):Option (Int) := bif decide (x1<(0:Int)) then some ((-1:Int)) else bif decide (x1>=x0.threads) then some ((-1:Int)) else match Zcm x0 with
 | some y1 => some (Zaf IntKind.i64 (Zaf IntKind.i64 (y1.lines+Zaf IntKind.i64 ((2:Int)*x1))+(1:Int)))
 | none=>none
def ZeA (x:Config×Int):Option (Int):=ZhX x.1 x.2
def Ziz (x0:Turn):Option (Turn) := bif decide (x0.th.at_<(0:Int)) then some ({ x0 with th:={ x0.th with phase:=(0:Int) },done:=true }) else bif decide (x0.th.at_>=(↑x0.th.kids.length:Int)) then some ({ x0 with th:={ x0.th with phase:=(0:Int) },done:=true }) else bif decide ((0:Int)<=x0.th.at_) then bif decide (x0.th.at_<(↑x0.th.kids.length:Int)) then some ({ x0 with th:={ x0.th with phase:=(15:Int) } }) else none else none
def Zdc (x:Turn):Option (Turn):=Ziz x
def ZkE (x0:List Entry) (x1:Int):Option ((List Entry)) := bif decide ((0:Int)<=if (if (↑x0.length:Int)<x1 then (↑x0.length:Int) else x1)>(0:Int) then if (↑x0.length:Int)<x1 then (↑x0.length:Int) else x1 else (0:Int)) then bif decide ((if (if (↑x0.length:Int)<x1 then (↑x0.length:Int) else x1)>(0:Int) then if (↑x0.length:Int)<x1 then (↑x0.length:Int) else x1 else (0:Int))<=(↑x0.length:Int)) then match Zbr (List.drop (Int.toNat (0:Int)) (List.take (if (if (↑x0.length:Int)<x1 then (↑x0.length:Int) else x1)>(0:Int) then if (↑x0.length:Int)<x1 then (↑x0.length:Int) else x1 else (0:Int)).toNat x0)) with
 | some y1 => some (y1)
 | none=>none else none else none
def ZkN (x:(List Entry)×Int):Option ((List Entry)):=ZkE x.1 x.2
def ZmW (x0:Int) (x1:Int) (x2:Int) (x3:Int):Option (Bool) := bif decide (x1>=(0:Int)) then bif decide (Zaf IntKind.i64 (x0+x1)>=x0) then bif decide (Zaf IntKind.i64 (x0+x1)<x2) then some (true) else some (decide (Zaf IntKind.i64 (x0+x1)>x3)) else bif decide (x1<(0:Int)) then bif decide (Zaf IntKind.i64 (x0+x1)<x0) then bif decide (Zaf IntKind.i64 (x0+x1)<x2) then some (true) else some (decide (Zaf IntKind.i64 (x0+x1)>x3)) else some (true) else some (true) else bif decide (x1<(0:Int)) then bif decide (Zaf IntKind.i64 (x0+x1)<x0) then bif decide (Zaf IntKind.i64 (x0+x1)<x2) then some (true) else some (decide (Zaf IntKind.i64 (x0+x1)>x3)) else some (true) else some (true)
def Zjz (x:Int×Int×Int×Int):Option (Bool):=ZmW x.1 x.2.1 x.2.2.1 x.2.2.2
def Zhx (x0:Op) (x1:Int) (x2:Int) (x3:Int):Option (Int×Bool) := bif x0.tag == (2:Int) then some ((Zaf IntKind.i64 (x1+Zaf IntKind.i64 ((0:Int)-x0.v)),true)) else bif x0.tag == (1:Int) then some ((Zaf IntKind.i64 (x1+x0.v),true)) else bif x0.tag == (3:Int) then some ((Zaf IntKind.i64 (↑(BitVec.ofInt IntKind.i64.bits x1 ||| BitVec.ofInt IntKind.i64.bits x0.v).toNat:Int),true)) else bif x0.tag == (4:Int) then some ((Zaf IntKind.i64 (↑(BitVec.ofInt IntKind.i64.bits x1 &&& BitVec.ofInt IntKind.i64.bits x0.v).toNat:Int),true)) else bif x0.tag == (5:Int) then some ((if x1>x0.v then x1 else x0.v,true)) else bif x0.tag == (6:Int) then some ((if x1<x0.v then x1 else x0.v,true)) else bif x0.tag == (7:Int) then some ((x0.v,true)) else bif x0.tag == (9:Int) then bif decide (x0.v<(0:Int)) then some ((x1,false)) else bif decide (x1<x2) then some ((x1,false)) else bif decide (Zaf IntKind.i64 (x1-x0.v)<=x1) then bif decide (Zaf IntKind.i64 (x1-x0.v)>=x2) then some ((Zaf IntKind.i64 (x1-x0.v),true)) else some ((x2,true)) else some ((x2,true)) else bif x0.tag == (8:Int) then match Zjz (x1,x0.v,x2,x3) with
 | some y1 => bif !y1 then some ((Zaf IntKind.i64 (x1+x0.v),true)) else some ((x1,false))
 | none=>none else some ((x1,false))
def Zd5 (x:Op×Int×Int×Int):Option (Int×Bool):=Zhx x.1 x.2.1 x.2.2.1 x.2.2.2
def Zgg (x0:Memo) (x1:Int) (x2:Int):Option (Memo×Int×Int) := match ZbD (x0.words,x1) with
 | some y1 => bif y1.snd != (0:Int) then some ((x0,(0:Int),y1.snd)) else match Zbz x0.words with
  | some y2 => bif decide ((0:Int)<=x1) then bif decide (x1<(↑(List.length y2):Int)) then some (({ x0 with words:=List.set y2 x1.toNat x2 },y1)) else none else none
  | none=>none
 | none=>none
def Zlq (x:Memo×Int×Int):Option (Memo×Int×Int):=Zgg x.1 x.2.1 x.2.2
def Zj6 (x0:Config) (x1:Int) (x2:Int) (x3:Int):Option (Int) := bif decide (x1<(0:Int)) then some ((-1:Int)) else bif decide (x1>=x0.items) then some ((-1:Int)) else bif decide (x2<(1:Int)) then some ((-1:Int)) else bif decide (x2>=Zaf IntKind.i64 ((1:Int)+x0.layers)) then some ((-1:Int)) else bif decide (x3<(0:Int)) then some ((-1:Int)) else bif decide (x3>=x0.width) then some ((-1:Int)) else match Zcm x0 with
 | some y1 => match Zcm x0 with
  | some y2 => some (Zaf IntKind.i64 (Zaf IntKind.i64 (Zaf IntKind.i64 (Zaf IntKind.i64 (x1*y1.block)+y2.slots)+Zaf IntKind.i64 (Zaf IntKind.i64 (x2-(1:Int))*x0.width))+x3))
  | none=>none
 | none=>none
def ZkJ (x:Config×Int×Int×Int):Option (Int):=Zj6 x.1 x.2.1 x.2.2.1 x.2.2.2
def Zgd (x0:Tape):Option (Int) := bif decide (x0.at_<(0:Int)) then some ((0:Int)) else some (if Zaf IntKind.i64 ((↑x0.l.length:Int)-x0.at_)>(0:Int) then Zaf IntKind.i64 ((↑x0.l.length:Int)-x0.at_) else (0:Int))
def Ze5 (x:Tape):Option (Int):=Zgd x
end Go.Proofs.Mill
