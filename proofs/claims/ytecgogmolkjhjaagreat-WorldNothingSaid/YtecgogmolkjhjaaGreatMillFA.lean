/- What the functions compute. -/
import Derived.Test.YtecgogmolkjhjaaGreatMillAll3
set_option linter.all false
noncomputable section
namespace Go.Proofs.Mill
def Zs9 (x0:Turn) (x1:Int):Option ((Turn×Int)⊕((Turn)⊕(Bool))) := bif decide (x1<(↑x0.m.boxes.length:Int)) then bif decide (x1<(20:Int)) then bif decide ((0:Int)<=x1) then bif decide (x1<(↑x0.m.boxes.length:Int)) then bif decide ((↑(List.length (x0.m.boxes.getD x1.toNat ([]:List Entry))):Int)>(20:Int)) then some (Sum.inr (Sum.inr true)) else some (Sum.inl (x0,Zaf IntKind.i64 (x1+(1:Int)))) else none else none else some (Sum.inr (Sum.inl x0)) else some (Sum.inr (Sum.inl x0))
def ZjL (x:Turn×Int):Option ((Turn×Int)⊕((Turn)⊕(Bool))):=Zs9 x.1 x.2
def Zte (x:Turn×Int):Option ((Turn)⊕(Bool)):=Zav ZjL x
def ZvX (x0:Turn):Option (Bool) := match Zte (x0,(0:Int)) with
 | some (.inl y1) => bif decide ((↑y1.m.words.length:Int)>(400:Int)) then some (true) else bif decide ((↑y1.m.boxes.length:Int)>(16:Int)) then some (true) else bif decide ((↑y1.th.batch.length:Int)>(20:Int)) then some (true) else bif decide ((↑y1.th.kids.length:Int)>(20:Int)) then some (true) else bif decide ((↑y1.th.held.length:Int)>(20:Int)) then some (true) else bif decide ((↑y1.tape.l.length:Int)>(100:Int)) then some (true) else some (decide ((↑y1.log.length:Int)>(50:Int)))
 | some (.inr y2) => some (y2)
 | none=>none
def ZlZ (x:Turn):Option (Bool):=ZvX x
def ZdE (x0:Config):Option (Int) := bif decide (x0.threads<(1:Int)) then some ((50:Int)) else bif decide (x0.threads>(16:Int)) then some ((50:Int)) else bif decide (x0.items<(1:Int)) then some ((51:Int)) else bif decide (x0.items>(4:Int)) then some ((51:Int)) else bif decide (x0.backend<(1:Int)) then some ((52:Int)) else bif decide (x0.backend>(3:Int)) then some ((52:Int)) else bif decide (x0.depth<(0:Int)) then some ((53:Int)) else bif decide (x0.depth>(4:Int)) then some ((53:Int)) else bif decide (x0.layers<(0:Int)) then some ((54:Int)) else bif decide (x0.layers>(3:Int)) then some ((54:Int)) else bif decide (x0.width<(1:Int)) then some ((55:Int)) else bif decide (x0.width>(8:Int)) then some ((55:Int)) else bif decide (x0.spin<(0:Int)) then some ((56:Int)) else bif decide (x0.spin>(20:Int)) then some ((56:Int)) else bif decide (x0.wait<(0:Int)) then some ((57:Int)) else bif decide (x0.wait>(1000:Int)) then some ((57:Int)) else bif x0.bounded then bif decide (x0.lo>x0.init) then some ((58:Int)) else bif decide (x0.init>x0.hi) then some ((58:Int)) else some ((0:Int)) else some ((0:Int))
def Zek (x:Config):Option (Int):=ZdE x
def ZqE (x0:Config) (x1:Int) (x2:Int):Option ((Config×Int×Int)⊕((Int))) := bif decide (x2<x0.depth) then some (Sum.inl (x0,Zaf IntKind.i64 ((2:Int)*x1),Zaf IntKind.i64 (x2+(1:Int)))) else some (Sum.inr x1)
def Zid (x:Config×Int×Int):Option ((Config×Int×Int)⊕((Int))):=ZqE x.1 x.2.1 x.2.2
def ZqD (x:Config×Int×Int):Option ((Int)):=Zav Zid x
def Zto (x0:Config):Option (Int) := match ZqD (x0,(1:Int),(0:Int)) with
 | some y1 => some (Zaf IntKind.i64 (y1-(1:Int)))
 | none=>none
def Zfj (x:Config):Option (Int):=Zto x
def Ztu (x0:Config):Option (Int) := match Zfj x0 with
 | some y1 => some (Zaf IntKind.i64 (Zaf IntKind.i64 ((1:Int)+y1)+Zaf IntKind.i64 (x0.layers*x0.width)))
 | none=>none
def ZdF (x:Config):Option (Int):=Ztu x
def ZvB (x0:Config):Option (Int) := match ZdF x0 with
 | some y1 => some (Zaf IntKind.i64 (Zaf IntKind.i64 (x0.items*y1)+Zaf IntKind.i64 ((2:Int)*x0.threads)))
 | none=>none
def ZfY (x:Config):Option (Int):=ZvB x
def Zv5 (x0:Turn):Option (Bool) := match Zek x0.c with
 | some y1 => bif y1 == (0:Int) then bif decide (x0.t>=(0:Int)) then bif decide (x0.t<x0.c.threads) then match ZfY x0.c with
  | some y2 => bif (↑x0.m.words.length:Int) == y2 then bif (↑x0.m.boxes.length:Int) == x0.c.threads then bif decide (x0.th.item>=(0:Int)) then some (decide (x0.th.item<x0.c.items)) else some (false) else some (false) else some (false)
  | none=>none else some (false) else some (false) else some (false)
 | none=>none
def ZlY (x:Turn):Option (Bool):=Zv5 x
def ZiK (x0:List Entry) (x1:List Entry) (x2:Int):Option (((List Entry)×(List Entry)×Int)⊕((Unit)⊕(Bool))) := bif decide (x2<(↑x0.length:Int)) then bif decide ((0:Int)<=x2) then bif decide (x2<(↑x0.length:Int)) then bif decide ((0:Int)<=x2) then bif decide (x2<(↑x1.length:Int)) then bif !((x0.getD x2.toNat Zch).t == (x1.getD x2.toNat Zch).t && ((x0.getD x2.toNat Zch).op.tag == (x1.getD x2.toNat Zch).op.tag && ((x0.getD x2.toNat Zch).op.v == (x1.getD x2.toNat Zch).op.v && true) && true)) then some (Sum.inr (Sum.inr false)) else some (Sum.inl (x0,x1,Zaf IntKind.i64 (x2+(1:Int)))) else none else none else none else none else some (Sum.inr (Sum.inl ()))
def ZeD (x:(List Entry)×(List Entry)×Int):Option (((List Entry)×(List Entry)×Int)⊕((Unit)⊕(Bool))):=ZiK x.1 x.2.1 x.2.2
def ZmG (x:(List Entry)×(List Entry)×Int):Option ((Unit)⊕(Bool)):=Zav ZeD x
def Zhq (x0:List Entry) (x1:List Entry):Option (Bool) := bif (↑x0.length:Int) != (↑x1.length:Int) then some (false) else match ZmG (x0,x1,(0:Int)) with
 | some (.inl y1) => some (true)
 | some (.inr y2) => some (y2)
 | none=>none
def Zf3 (x:(List Entry)×(List Entry)):Option (Bool):=Zhq x.1 x.2
def ZiS (x0:List Int) (x1:List Int) (x2:Int):Option (((List Int)×(List Int)×Int)⊕((Unit)⊕(Bool))) := bif decide (x2<(↑x0.length:Int)) then bif decide ((0:Int)<=x2) then bif decide (x2<(↑x0.length:Int)) then bif decide ((0:Int)<=x2) then bif decide (x2<(↑x1.length:Int)) then bif x0.getD x2.toNat (0:Int) != x1.getD x2.toNat (0:Int) then some (Sum.inr (Sum.inr false)) else some (Sum.inl (x0,x1,Zaf IntKind.i64 (x2+(1:Int)))) else none else none else none else none else some (Sum.inr (Sum.inl ()))
def ZeM (x:(List Int)×(List Int)×Int):Option (((List Int)×(List Int)×Int)⊕((Unit)⊕(Bool))):=ZiS x.1 x.2.1 x.2.2
def Zmu (x:(List Int)×(List Int)×Int):Option ((Unit)⊕(Bool)):=Zav ZeM x
def ZkA (x0:List Int) (x1:List Int):Option (Bool) := bif (↑x0.length:Int) != (↑x1.length:Int) then some (false) else match Zmu (x0,x1,(0:Int)) with
 | some (.inl y1) => some (true)
 | some (.inr y2) => some (y2)
 | none=>none
def Zf6 (x:(List Int)×(List Int)):Option (Bool):=ZkA x.1 x.2
def ZiO (x0:Memo) (x1:Memo) (x2:Int):Option ((Memo×Memo×Int)⊕((Unit)⊕(Bool))) := bif decide (x2<(↑x0.boxes.length:Int)) then bif decide ((0:Int)<=x2) then bif decide (x2<(↑x0.boxes.length:Int)) then bif decide ((0:Int)<=x2) then bif decide (x2<(↑x1.boxes.length:Int)) then match Zf3 (x0.boxes.getD x2.toNat ([]:List Entry),x1.boxes.getD x2.toNat ([]:List Entry)) with
 | some y1 => bif !y1 then some (Sum.inr (Sum.inr false)) else some (Sum.inl (x0,x1,Zaf IntKind.i64 (x2+(1:Int))))
 | none=>none else none else none else none else none else some (Sum.inr (Sum.inl ()))
def ZeK (x:Memo×Memo×Int):Option ((Memo×Memo×Int)⊕((Unit)⊕(Bool))):=ZiO x.1 x.2.1 x.2.2
def Zmw (x:Memo×Memo×Int):Option ((Unit)⊕(Bool)):=Zav ZeK x
def Zk3 (x0:Memo) (x1:Memo):Option (Bool) := match Zf6 (x0.words,x1.words) with
 | some y1 => bif !y1 then some (false) else bif (↑x0.boxes.length:Int) != (↑x1.boxes.length:Int) then some (false) else match Zmw (x0,x1,(0:Int)) with
  | some (.inl y2) => some (true)
  | some (.inr y3) => some (y3)
  | none=>none
 | none=>none
def Zhy (x:Memo×Memo):Option (Bool):=Zk3 x.1 x.2
def Ziw (x0:Thread) (x1:Thread) (x2:Int):Option ((Thread×Thread×Int)⊕((Thread×Thread)⊕(Bool))) := bif decide (x2<(↑x0.kids.length:Int)) then bif decide ((0:Int)<=x2) then bif decide (x2<(↑x0.kids.length:Int)) then bif decide ((0:Int)<=x2) then bif decide (x2<(↑x1.kids.length:Int)) then bif !((x0.kids.getD x2.toNat dKid).t == (x1.kids.getD x2.toNat dKid).t && ((x0.kids.getD x2.toNat dKid).ahead == (x1.kids.getD x2.toNat dKid).ahead && true)) then some (Sum.inr (Sum.inr false)) else some (Sum.inl (x0,x1,Zaf IntKind.i64 (x2+(1:Int)))) else none else none else none else none else some (Sum.inr (Sum.inl (x0,x1)))
def ZeJ (x:Thread×Thread×Int):Option ((Thread×Thread×Int)⊕((Thread×Thread)⊕(Bool))):=Ziw x.1 x.2.1 x.2.2
def Zmg (x:Thread×Thread×Int):Option ((Thread×Thread)⊕(Bool)):=Zav ZeJ x
def Zld (x0:Thread) (x1:Thread):Option (Bool) := match Zf3 (x0.batch,x1.batch) with
 | some y1 => bif !y1 then some (false) else match Zf6 (x0.held,x1.held) with
  | some y2 => bif !y2 then some (false) else bif (↑x0.kids.length:Int) != (↑x1.kids.length:Int) then some (false) else match Zmg (x0,x1,(0:Int)) with
   | some (.inl y3) => bif y3.fst.phase == y3.snd.phase then bif y3.fst.item == y3.snd.item then bif y3.fst.op.tag == y3.snd.op.tag && (y3.fst.op.v == y3.snd.op.v && true) then bif y3.fst.stop == y3.snd.stop then bif y3.fst.node == y3.snd.node then bif y3.fst.at_ == y3.snd.at_ then bif y3.fst.layer == y3.snd.layer then bif y3.fst.left == y3.snd.left then bif y3.fst.width == y3.snd.width then bif y3.fst.who == y3.snd.who then bif y3.fst.x == y3.snd.x then bif y3.fst.y == y3.snd.y then some (y3.fst.until_ == y3.snd.until_) else some (false) else some (false) else some (false) else some (false) else some (false) else some (false) else some (false) else some (false) else some (false) else some (false) else some (false) else some (false)
   | some (.inr y4) => some (y4)
   | none=>none
  | none=>none
 | none=>none
def ZhD (x:Thread×Thread):Option (Bool):=Zld x.1 x.2
def ZiZ (x0:Tape) (x1:Tape) (x2:Int):Option ((Tape×Tape×Int)⊕((Unit)⊕(Bool))) := bif decide (x2<(↑x0.l.length:Int)) then bif decide ((0:Int)<=x2) then bif decide (x2<(↑x0.l.length:Int)) then bif decide ((0:Int)<=x2) then bif decide (x2<(↑x1.l.length:Int)) then bif x0.l.getD x2.toNat (0:Int) != x1.l.getD x2.toNat (0:Int) then some (Sum.inr (Sum.inr false)) else some (Sum.inl (x0,x1,Zaf IntKind.i64 (x2+(1:Int)))) else none else none else none else none else some (Sum.inr (Sum.inl ()))
def ZeX (x:Tape×Tape×Int):Option ((Tape×Tape×Int)⊕((Unit)⊕(Bool))):=ZiZ x.1 x.2.1 x.2.2
def Zmk (x:Tape×Tape×Int):Option ((Unit)⊕(Bool)):=Zav ZeX x
def Zky (x0:Tape) (x1:Tape):Option (Bool) := bif x0.at_ != x1.at_ then some (false) else bif (↑x0.l.length:Int) != (↑x1.l.length:Int) then some (false) else match Zmk (x0,x1,(0:Int)) with
 | some (.inl y1) => some (true)
 | some (.inr y2) => some (y2)
 | none=>none
def Zho (x:Tape×Tape):Option (Bool):=Zky x.1 x.2
def ZhV (x0:List Mark) (x1:List Mark) (x2:Int):Option (((List Mark)×(List Mark)×Int)⊕((Unit)⊕(Bool))) := bif decide (x2<(↑x0.length:Int)) then bif decide ((0:Int)<=x2) then bif decide (x2<(↑x0.length:Int)) then bif decide ((0:Int)<=x2) then bif decide (x2<(↑x1.length:Int)) then bif !((x0.getD x2.toNat ZaZ).t == (x1.getD x2.toNat ZaZ).t && ((x0.getD x2.toNat ZaZ).item == (x1.getD x2.toNat ZaZ).item && ((x0.getD x2.toNat ZaZ).op.tag == (x1.getD x2.toNat ZaZ).op.tag && ((x0.getD x2.toNat ZaZ).op.v == (x1.getD x2.toNat ZaZ).op.v && true) && ((x0.getD x2.toNat ZaZ).prior == (x1.getD x2.toNat ZaZ).prior && ((x0.getD x2.toNat ZaZ).step == (x1.getD x2.toNat ZaZ).step && true))))) then some (Sum.inr (Sum.inr false)) else some (Sum.inl (x0,x1,Zaf IntKind.i64 (x2+(1:Int)))) else none else none else none else none else some (Sum.inr (Sum.inl ()))
def Zeq (x:(List Mark)×(List Mark)×Int):Option (((List Mark)×(List Mark)×Int)⊕((Unit)⊕(Bool))):=ZhV x.1 x.2.1 x.2.2
def ZlC (x:(List Mark)×(List Mark)×Int):Option ((Unit)⊕(Bool)):=Zav Zeq x
def ZjE (x0:List Mark) (x1:List Mark):Option (Bool) := bif (↑x0.length:Int) != (↑x1.length:Int) then some (false) else match ZlC (x0,x1,(0:Int)) with
 | some (.inl y1) => some (true)
 | some (.inr y2) => some (y2)
 | none=>none
def ZgO (x:(List Mark)×(List Mark)):Option (Bool):=ZjE x.1 x.2
def Ztr (x0:Turn) (x1:Turn):Option (Bool) := bif x0.c.threads == x1.c.threads && (x0.c.items == x1.c.items && (x0.c.backend == x1.c.backend && (x0.c.depth == x1.c.depth && (x0.c.layers == x1.c.layers && (x0.c.width == x1.c.width && (x0.c.spin == x1.c.spin && (x0.c.wait == x1.c.wait && (x0.c.bounded == x1.c.bounded && (x0.c.lo == x1.c.lo && (x0.c.hi == x1.c.hi && (x0.c.init == x1.c.init && true))))))))))) then bif x0.t == x1.t then bif x0.now == x1.now then match Zhy (x0.m,x1.m) with
 | some y1 => bif y1 then match ZhD (x0.th,x1.th) with
  | some y2 => bif y2 then match Zho (x0.tape,x1.tape) with
   | some y3 => bif y3 then match ZgO (x0.log,x1.log) with
    | some y4 => bif y4 then some (x0.done == x1.done) else some (false)
    | none=>none else some (false)
   | none=>none else some (false)
  | none=>none else some (false)
 | none=>none else some (false) else some (false) else some (false)
def Zj4 (x:Turn×Turn):Option (Bool):=Ztr x.1 x.2
def Zpe (x0:List Entry) (x1:List Entry) (x2:Int):Option (((List Entry)×(List Entry)×Int)⊕(((List Entry)))) := bif decide (x2<(↑x0.length:Int)) then bif decide ((0:Int)<=x2) then bif decide (x2<(↑x0.length:Int)) then bif decide ((0:Int)<=x2) then bif decide (x2<(↑x0.length:Int)) then bif fewB (x1.length+(x0.getD x2.toNat Zch::([]:List Entry)).length) then some (Sum.inl (x0,x1++x0.getD x2.toNat Zch::([]:List Entry),Zaf IntKind.i64 (x2+(1:Int)))) else none else none else none else none else none else some (Sum.inr x1)
def Zgt (x:(List Entry)×(List Entry)×Int):Option (((List Entry)×(List Entry)×Int)⊕(((List Entry)))):=Zpe x.1 x.2.1 x.2.2
def Zpb (x:(List Entry)×(List Entry)×Int):Option (((List Entry))):=Zav Zgt x
def Zrk (x0:List Entry):Option ((List Entry)) := match Zpb (x0,([]:List Entry),(0:Int)) with
 | some y1 => some (y1)
 | none=>none
def ZhB (x:(List Entry)):Option ((List Entry)):=Zrk x
def Zp7 (x0:Memo) (x1:Memo) (x2:Memo) (x3:Int):Option ((Memo×Memo×Memo×Int)⊕((Memo×Memo))) := bif decide (x3<(↑x0.boxes.length:Int)) then bif decide ((0:Int)<=x3) then bif decide (x3<(↑x0.boxes.length:Int)) then match ZhB (x0.boxes.getD x3.toNat ([]:List Entry)) with
 | some y1 => bif fewB (x2.boxes.length+(y1::([]:List (List Entry))).length) then some (Sum.inl (x0,x1,{ x2 with boxes:=x2.boxes++y1::([]:List (List Entry)) },Zaf IntKind.i64 (x3+(1:Int)))) else none
 | none=>none else none else none else some (Sum.inr (x1,x2))
def Zg0 (x:Memo×Memo×Memo×Int):Option ((Memo×Memo×Memo×Int)⊕((Memo×Memo))):=Zp7 x.1 x.2.1 x.2.2.1 x.2.2.2
def ZpU (x:Memo×Memo×Memo×Int):Option ((Memo×Memo)):=Zav Zg0 x
def Zsh (x0:Memo):Option (Memo) := match ZpU (x0,Memo.mk ([]:List Int) ([]:List (List Entry)),{ x0 with boxes:=([]:List (List Entry)) },(0:Int)) with
 | some y1 => some (y1.snd)
 | none=>none
def Zmo (x:Memo):Option (Memo):=Zsh x
def ZqQ (x0:Thread) (x1:Thread) (x2:Thread) (x3:Int):Option ((Thread×Thread×Thread×Int)⊕((Thread×Thread))) := bif decide (x3<(↑x0.kids.length:Int)) then bif decide ((0:Int)<=x3) then bif decide (x3<(↑x0.kids.length:Int)) then bif fewB (x2.kids.length+(x0.kids.getD x3.toNat dKid::([]:List Kid)).length) then some (Sum.inl (x0,x1,{ x2 with kids:=x2.kids++x0.kids.getD x3.toNat dKid::([]:List Kid) },Zaf IntKind.i64 (x3+(1:Int)))) else none else none else none else some (Sum.inr (x1,x2))
def ZhL (x:Thread×Thread×Thread×Int):Option ((Thread×Thread×Thread×Int)⊕((Thread×Thread))):=ZqQ x.1 x.2.1 x.2.2.1 x.2.2.2
def Zqk (x:Thread×Thread×Thread×Int):Option ((Thread×Thread)):=Zav ZhL x
def Ztv (x0:Thread):Option (Thread) := match ZhB x0.batch with
 | some y1 => match Zqk (x0,Thread.mk (0:Int) (0:Int) (Op.mk (0:Int) (0:Int)) ([]:List Entry) ([]:List Kid) ([]:List Int) (0:Int) (0:Int) (0:Int) (0:Int) (0:Int) (0:Int) (0:Int) (0:Int) (0:Int) (0:Int),{ x0 with batch:=y1,kids:=([]:List Kid) },(0:Int)) with
  | some y2 => some (y2.snd)
  | none=>none
 | none=>none
def Znr (x:Thread):Option (Thread):=Ztv x
def Zqz (x0:List Mark) (x1:List Mark) (x2:Int):Option (((List Mark)×(List Mark)×Int)⊕(((List Mark)))) := bif decide (x2<(↑x0.length:Int)) then bif decide ((0:Int)<=x2) then bif decide (x2<(↑x0.length:Int)) then bif decide ((0:Int)<=x2) then bif decide (x2<(↑x0.length:Int)) then bif decide ((0:Int)<=x2) then bif decide (x2<(↑x0.length:Int)) then bif decide ((0:Int)<=x2) then bif decide (x2<(↑x0.length:Int)) then bif decide ((0:Int)<=x2) then bif decide (x2<(↑x0.length:Int)) then bif fewB (x1.length+(x0.getD x2.toNat ZaZ::([]:List Mark)).length) then some (Sum.inl (x0,x1++x0.getD x2.toNat ZaZ::([]:List Mark),Zaf IntKind.i64 (x2+(1:Int)))) else none else none else none else none else none else none else none else none else none else none else none else some (Sum.inr x1)
def Zhl (x:(List Mark)×(List Mark)×Int):Option (((List Mark)×(List Mark)×Int)⊕(((List Mark)))):=Zqz x.1 x.2.1 x.2.2
def Zqu (x:(List Mark)×(List Mark)×Int):Option (((List Mark))):=Zav Zhl x
def Zs3 (x0:List Mark):Option ((List Mark)) := match Zqu (x0,([]:List Mark),(0:Int)) with
 | some y1 => some (y1)
 | none=>none
def ZnH (x:(List Mark)):Option ((List Mark)):=Zs3 x
def ZwE (x0:Turn):Option (Turn) := match Zmo x0.m with
 | some y1 => match Znr x0.th with
  | some y2 => match ZnH x0.log with
   | some y3 => some ({ x0 with m:=y1,th:=y2,log:=y3 })
   | none=>none
  | none=>none
 | none=>none
def ZgN (x:Turn):Option (Turn):=ZwE x
def ZgA (x0:Int) (x1:Int):Option (Int×Bool) :=
 some ((Zaf IntKind.i64 (x0+x1),decide (x1>=(0:Int)) == decide (Zaf IntKind.i64 (x0+x1)>=x0)))
def Zfx (x:Int×Int):Option (Int×Bool):=ZgA x.1 x.2
def ZcN (x0:Op) (x1:Int) (x2:Int) (x3:Int):Option (Int×Bool) := bif x0.tag == (1:Int) then some ((Zaf IntKind.i64 (x1+x0.v),true)) else bif x0.tag == (2:Int) then some ((Zaf IntKind.i64 (x1-x0.v),true)) else bif x0.tag == (3:Int) then some ((Zaf IntKind.i64 (↑(BitVec.ofInt IntKind.i64.bits x1 ||| BitVec.ofInt IntKind.i64.bits x0.v).toNat:Int),true)) else bif x0.tag == (4:Int) then some ((Zaf IntKind.i64 (↑(BitVec.ofInt IntKind.i64.bits x1 &&& BitVec.ofInt IntKind.i64.bits x0.v).toNat:Int),true)) else bif x0.tag == (5:Int) then some ((if x0.v>x1 then x0.v else x1,true)) else bif x0.tag == (6:Int) then some ((if x0.v<x1 then x0.v else x1,true)) else bif x0.tag == (7:Int) then some ((x0.v,true)) else bif x0.tag == (8:Int) then match Zfx (x1,x0.v) with
 | some y1 => bif !y1.snd then some ((x1,false)) else bif decide (y1.fst<x2) then some ((x1,false)) else bif decide (y1.fst>x3) then some ((x1,false)) else some ((y1.fst,true))
 | none=>none else bif x0.tag == (9:Int) then bif decide (x0.v<(0:Int)) then some ((x1,false)) else bif decide (x1<x2) then some ((x1,false)) else bif decide (IntKind.u64.wrap x0.v>=Zaf IntKind.u64 (IntKind.u64.wrap x1-IntKind.u64.wrap x2)) then some ((x2,true)) else some ((Zaf IntKind.i64 (x1-x0.v),true)) else some ((x1,false))
def Zc7 (x:Op×Int×Int×Int):Option (Int×Bool):=ZcN x.1 x.2.1 x.2.2.1 x.2.2.2
def Zlw (x0:Int):Option ((List Int)) := bif decide (x0<(1:Int)) then some (([]:List Int)) else bif decide (x0>(10000:Int)) then some (([]:List Int)) else bif x0 == x0 then bif decide ((0:Int)<=x0) then bif decide (x0<=ZbA) then some (List.replicate x0.toNat (0:Int)) else none else none else none
def Zhn (x:Int):Option ((List Int)):=Zlw x
def Zf4 (x0:Int):Option ((List (List Entry))) := bif decide (x0<(1:Int)) then some (([]:List (List Entry))) else bif decide (x0>(10000:Int)) then some (([]:List (List Entry))) else bif x0 == x0 then bif decide ((0:Int)<=x0) then bif decide (x0<=ZbA) then some (List.replicate x0.toNat ([]:List Entry)) else none else none else none
def Zd8 (x:Int):Option ((List (List Entry))):=Zf4 x
def Zni (x0:Int) (x1:Int):Option (Memo) := match Zhn x0 with
 | some y1 => match Zd8 x1 with
  | some y2 => some (Memo.mk y1 y2)
  | none=>none
 | none=>none
def Zm3 (x:Int×Int):Option (Memo):=Zni x.1 x.2
def Zjw (x0:Config):Option (Int) := bif decide (x0.depth<(0:Int)) then none else some (Zaf IntKind.i64 (Zaf IntKind.i64 ((1:Int)*(2:Int) ^ min x0.depth.toNat IntKind.i64.bits)-(1:Int)))
def Zfg (x:Config):Option (Int):=Zjw x
def Zm4 (x0:Config):Option (Plan) := match Zfg x0 with
 | some y1 => some (Plan.mk (1:Int) (Zaf IntKind.i64 ((1:Int)+y1)) (Zaf IntKind.i64 (Zaf IntKind.i64 ((1:Int)+y1)+Zaf IntKind.i64 (x0.layers*x0.width))) (Zaf IntKind.i64 (x0.items*Zaf IntKind.i64 (Zaf IntKind.i64 ((1:Int)+y1)+Zaf IntKind.i64 (x0.layers*x0.width)))))
 | none=>none
def Zco (x:Config):Option (Plan):=Zm4 x
def Zk8 (x0:Config):Option (Int) := match Zco x0 with
 | some y1 => some (Zaf IntKind.i64 (y1.lines+Zaf IntKind.i64 ((2:Int)*x0.threads)))
 | none=>none
def ZkI (x:Config):Option (Int):=Zk8 x
def Zhs (x0:Config) (x1:Int):Option (Int) := bif decide (x1<(0:Int)) then some ((-1:Int)) else bif decide (x1>=x0.items) then some ((-1:Int)) else match Zco x0 with
 | some y1 => some (Zaf IntKind.i64 (x1*y1.block))
 | none=>none
def Zdq (x:Config×Int):Option (Int):=Zhs x.1 x.2
def Zer (x0:Config) (x1:Memo) (x2:Memo) (x3:Int) (x4:Int):Option ((Config×Memo×Memo×Int×Int)⊕((Memo×Memo))) := bif decide (x4<x3) then match Zdq (x0,x4) with
 | some y1 => bif decide ((0:Int)<=y1) then bif decide (y1<(↑x2.words.length:Int)) then some (Sum.inl (x0,x1,{ x2 with words:=x2.words.set (Int.toNat y1) x0.init },x3,Zaf IntKind.i64 (x4+(1:Int)))) else none else none
 | none=>none else some (Sum.inr (x1,x2))
def ZfA (x:Config×Memo×Memo×Int×Int):Option ((Config×Memo×Memo×Int×Int)⊕((Memo×Memo))):=Zer x.1 x.2.1 x.2.2.1 x.2.2.2.1 x.2.2.2.2
def ZlD (x:Config×Memo×Memo×Int×Int):Option ((Memo×Memo)):=Zav ZfA x
def ZjH (x0:Config):Option (Memo) := match ZkI x0 with
 | some y1 => match Zm3 (y1,x0.threads) with
  | some y2 => match ZlD (x0,Memo.mk ([]:List Int) ([]:List (List Entry)),y2,x0.items,(0:Int)) with
   | some y3 => some (y3.snd)
   | none=>none
  | none=>none
 | none=>none
def ZdI (x:Config):Option (Memo):=ZjH x
def ZeV (x0:Int) (x1:Int):Option (Int) := bif decide (x0<(1:Int)) then some ((0:Int)) else bif decide (Zaf IntKind.i64 (x0-(1:Int))<(0:Int)) then none else some (Zaf IntKind.i64 (↑(BitVec.ofInt IntKind.i64.bits (Zaf IntKind.i64 ((1:Int)*(2:Int) ^ min (Zaf IntKind.i64 (x0-(1:Int))).toNat IntKind.i64.bits)) ||| BitVec.ofInt IntKind.i64.bits (Zaf IntKind.i64 (↑(BitVec.ofInt IntKind.i64.bits (x1.fdiv ((2:Int) ^ min (Int.toNat (1:Int)) IntKind.i64.bits)) &&& BitVec.ofInt IntKind.i64.bits (Zaf IntKind.i64 (Zaf IntKind.i64 ((1:Int)*(2:Int) ^ min (Zaf IntKind.i64 (x0-(1:Int))).toNat IntKind.i64.bits)-(1:Int)))).toNat:Int))).toNat:Int))
def ZkE (x:Int×Int):Option (Int):=ZeV x.1 x.2
def Ziv (x0:Config) (x1:Int) (x2:Thread) (x3:Int) (x4:Op) (x5:Int):Option (Thread) := match ZkE (x0.depth,x1) with
 | some y1 => bif decide (x0.wait>(0:Int)) then some (Thread.mk (1:Int) x3 x4 (Entry.mk x1 x4::([]:List Entry)) ([]:List Kid) ([]:List Int) (0:Int) y1 (0:Int) (0:Int) (0:Int) x2.width (0:Int) (0:Int) (0:Int) (Zaf IntKind.i64 (x5+x0.wait))) else some (Thread.mk (1:Int) x3 x4 (Entry.mk x1 x4::([]:List Entry)) ([]:List Kid) ([]:List Int) (0:Int) y1 (0:Int) (0:Int) (0:Int) x2.width (0:Int) (0:Int) (0:Int) (0:Int))
 | none=>none
def ZcB (x:Config×Int×Thread×Int×Op×Int):Option (Thread):=Ziv x.1 x.2.1 x.2.2.1 x.2.2.2.1 x.2.2.2.2.1 x.2.2.2.2.2
def Zu6:Option (Thread) :=
 some (Thread.mk (0:Int) (0:Int) (Op.mk (0:Int) (0:Int)) ([]:List Entry) ([]:List Kid) ([]:List Int) (0:Int) (0:Int) (0:Int) (0:Int) (0:Int) (1:Int) (0:Int) (0:Int) (0:Int) (0:Int))
def Zd6 (x:Unit):Option (Thread):=Zu6
def ZqH (x0:Turn):Option (Bool) := match ZlY x0 with
 | some y1 => bif y1 then bif decide (x0.th.phase<(17:Int)) then some (true) else bif decide (x0.th.layer>=(1:Int)) then some (decide (x0.th.layer<=(3:Int))) else some (false) else some (false)
 | none=>none
def Zly (x:Turn):Option (Bool):=ZqH x
def Zl1 (x0:Op) (x1:Bool):Option (Bool) := bif x1 then bif x0.tag == (8:Int) then some (true) else bif x0.tag == (9:Int) then some (decide (x0.v>=(0:Int))) else some (false) else bif decide (x0.tag>=(1:Int)) then some (decide (x0.tag<=(7:Int))) else some (false)
def ZgH (x:Op×Bool):Option (Bool):=Zl1 x.1 x.2
def ZrJ (x0:Config):Option (Int) :=
 some (Zaf IntKind.i64 (Zaf IntKind.i64 ((20:Int)+Zaf IntKind.i64 ((8:Int)*x0.depth))+Zaf IntKind.i64 (x0.layers*Zaf IntKind.i64 ((20:Int)+Zaf IntKind.i64 ((2:Int)*x0.spin)))))
def ZmA (x:Config):Option (Int):=ZrJ x
def ZdH (x0:Thread):Option (Bool) :=
 some (x0.phase != (0:Int))
def Zbn (x:Thread):Option (Bool):=ZdH x
def Zuc (x0:Config) (x1:Int):Option (Int) := bif decide (x1<(0:Int)) then some ((-1:Int)) else bif decide (x1>=x0.items) then some ((-1:Int)) else match ZdF x0 with
 | some y1 => some (Zaf IntKind.i64 (x1*y1))
 | none=>none
def ZeE (x:Config×Int):Option (Int):=Zuc x.1 x.2
def ZuE (x0:Config) (x1:Int) (x2:Int):Option (Int) := bif decide (x1<(0:Int)) then some ((-1:Int)) else bif decide (x1>=x0.items) then some ((-1:Int)) else bif decide (x2<(1:Int)) then some ((-1:Int)) else match Zfj x0 with
 | some y1 => bif decide (x2>y1) then some ((-1:Int)) else match ZdF x0 with
  | some y2 => some (Zaf IntKind.i64 (Zaf IntKind.i64 (x1*y2)+x2))
  | none=>none
 | none=>none
def Zf2 (x:Config×Int×Int):Option (Int):=ZuE x.1 x.2.1 x.2.2
def Zt8 (x0:Config) (x1:Int):Option (Int) := bif decide (x1<(0:Int)) then some ((-1:Int)) else bif decide (x1>=x0.threads) then some ((-1:Int)) else match ZdF x0 with
 | some y1 => some (Zaf IntKind.i64 (Zaf IntKind.i64 (x0.items*y1)+Zaf IntKind.i64 ((2:Int)*x1)))
 | none=>none
def Zdm (x:Config×Int):Option (Int):=Zt8 x.1 x.2
def Zkz (x0:List SEntry) (x1:List Int):Option (Bool) := bif decide ((↑x0.length:Int)>(400:Int)) then some (true) else some (decide ((↑x1.length:Int)>(200:Int)))
def ZkD (x:(List SEntry)×(List Int)):Option (Bool):=Zkz x.1 x.2
def Zs6 (x0:Int) (x1:Memo) (x2:Memo) (x3:Int):Option ((Int×Memo×Memo×Int)⊕((Memo×Memo))) := bif decide (x3<x0) then bif decide (x0<=(10000:Int)) then bif fewB (x2.boxes.length+(([]:List Entry)::([]:List (List Entry))).length) then some (Sum.inl (x0,x1,{ x2 with boxes:=x2.boxes++([]:List Entry)::([]:List (List Entry)) },Zaf IntKind.i64 (x3+(1:Int)))) else none else some (Sum.inr (x1,x2)) else some (Sum.inr (x1,x2))
def Zjy (x:Int×Memo×Memo×Int):Option ((Int×Memo×Memo×Int)⊕((Memo×Memo))):=Zs6 x.1 x.2.1 x.2.2.1 x.2.2.2
def Ztj (x:Int×Memo×Memo×Int):Option ((Memo×Memo)):=Zav Zjy x
def Ztm (x0:Int) (x1:Int) (x2:Memo) (x3:Memo) (x4:Int):Option ((Int×Int×Memo×Memo×Int)⊕((Int×Memo×Memo))) := bif decide (x4<x0) then bif decide (x0<=(10000:Int)) then bif fewB (x3.words.length+((0:Int)::([]:List Int)).length) then some (Sum.inl (x0,x1,x2,{ x3 with words:=x3.words++(0:Int)::([]:List Int) },Zaf IntKind.i64 (x4+(1:Int)))) else none else some (Sum.inr (x1,x2,x3)) else some (Sum.inr (x1,x2,x3))
def ZjZ (x:Int×Int×Memo×Memo×Int):Option ((Int×Int×Memo×Memo×Int)⊕((Int×Memo×Memo))):=Ztm x.1 x.2.1 x.2.2.1 x.2.2.2.1 x.2.2.2.2
def Zs7 (x:Int×Int×Memo×Memo×Int):Option ((Int×Memo×Memo)):=Zav ZjZ x
def Zwb (x0:Int) (x1:Int):Option (Memo) := match Zs7 (x0,x1,Memo.mk ([]:List Int) ([]:List (List Entry)),Memo.mk ([]:List Int) ([]:List (List Entry)),(0:Int)) with
 | some y1 => match Ztj (y1.fst,y1.snd.fst,y1.snd.snd,(0:Int)) with
  | some y2 => some (y2.snd)
  | none=>none
 | none=>none
def ZpE (x:Int×Int):Option (Memo):=Zwb x.1 x.2
def Zty (x0:Memo) (x1:Int) (x2:Int):Option (Memo×Int) := bif decide (x1<(0:Int)) then some ((x0,(30:Int))) else bif decide (x1>=(↑x0.words.length:Int)) then some ((x0,(30:Int))) else bif fewB ((0:Nat)+x0.words.length) then bif decide ((0:Int)<=x1) then bif decide (x1<(↑x0.words.length:Int)) then some (({ x0 with words:=x0.words.set x1.toNat x2 },(0:Int))) else none else none else none
def Zcw (x:Memo×Int×Int):Option (Memo×Int):=Zty x.1 x.2.1 x.2.2
def ZqC (x0:Config) (x1:Memo) (x2:Memo) (x3:Int):Option ((Config×Memo×Memo×Int)⊕((Memo×Memo))) := bif decide (x3<x0.items) then match ZeE (x0,x3) with
 | some y1 => match Zcw (x2,y1,x0.init) with
  | some y2 => some (Sum.inl (x0,x1,y2.fst,Zaf IntKind.i64 (x3+(1:Int))))
  | none=>none
 | none=>none else some (Sum.inr (x1,x2))
def ZhZ (x:Config×Memo×Memo×Int):Option ((Config×Memo×Memo×Int)⊕((Memo×Memo))):=ZqC x.1 x.2.1 x.2.2.1 x.2.2.2
def Zrt (x:Config×Memo×Memo×Int):Option ((Memo×Memo)):=Zav ZhZ x
def Zti (x0:Config):Option (Memo) := match ZfY x0 with
 | some y1 => match ZpE (y1,x0.threads) with
  | some y2 => match Zrt (x0,Memo.mk ([]:List Int) ([]:List (List Entry)),y2,(0:Int)) with
   | some y3 => some (y3.snd)
   | none=>none
  | none=>none
 | none=>none
def ZnI (x:Config):Option (Memo):=Zti x
def ZwA:Option (Thread) :=
 some (Thread.mk (0:Int) (0:Int) (Op.mk (0:Int) (0:Int)) ([]:List Entry) ([]:List Kid) ([]:List Int) (0:Int) (0:Int) (0:Int) (0:Int) (0:Int) (1:Int) (0:Int) (0:Int) (0:Int) (0:Int))
def Zpn (x:Unit):Option (Thread):=ZwA
def ZtG (x0:Config) (x1:Wld) (x2:Wld) (x3:Int):Option ((Config×Wld×Wld×Int)⊕((Wld×Wld))) := bif decide (x3<x0.threads) then match Zpn () with
 | some y1 => bif fewB (x2.t.length+(y1::([]:List Thread)).length) then some (Sum.inl (x0,x1,{ x2 with t:=x2.t++y1::([]:List Thread) },Zaf IntKind.i64 (x3+(1:Int)))) else none
 | none=>none else some (Sum.inr (x1,x2))
def ZjU (x:Config×Wld×Wld×Int):Option ((Config×Wld×Wld×Int)⊕((Wld×Wld))):=ZtG x.1 x.2.1 x.2.2.1 x.2.2.2
def Zs4 (x:Config×Wld×Wld×Int):Option ((Wld×Wld)):=Zav ZjU x
def Zwh (x0:Config) (x1:List Int):Option (Wld×Int) := match Zek x0 with
 | some y1 => bif y1 != (0:Int) then some ((Wld.mk (Config.mk (0:Int) (0:Int) (0:Int) (0:Int) (0:Int) (0:Int) (0:Int) (0:Int) false (0:Int) (0:Int) (0:Int)) (Memo.mk ([]:List Int) ([]:List (List Entry))) ([]:List Thread) (0:Int) (0:Int) (Tape.mk ([]:List Int) (0:Int)) ([]:List Mark) ([]:List Event),y1)) else match ZnI x0 with
  | some y2 => bif fewB ((0:Nat)+x1.length) then match Zs4 (x0,Wld.mk (Config.mk (0:Int) (0:Int) (0:Int) (0:Int) (0:Int) (0:Int) (0:Int) (0:Int) false (0:Int) (0:Int) (0:Int)) (Memo.mk ([]:List Int) ([]:List (List Entry))) ([]:List Thread) (0:Int) (0:Int) (Tape.mk ([]:List Int) (0:Int)) ([]:List Mark) ([]:List Event),Wld.mk x0 y2 ([]:List Thread) (0:Int) (0:Int) (Tape.mk x1 (0:Int)) ([]:List Mark) ([]:List Event),(0:Int)) with
   | some y3 => some ((y3.snd,(0:Int)))
   | none=>none else none
  | none=>none
 | none=>none
def ZpI (x:Config×(List Int)):Option (Wld×Int):=Zwh x.1 x.2
def Zs2 (x0:Config) (x1:SEntry):Option (Int) := bif decide (x1.kind<(1:Int)) then some ((90:Int)) else bif decide (x1.kind>(3:Int)) then some ((90:Int)) else bif x1.kind == (3:Int) then some ((0:Int)) else bif decide (x1.t<(0:Int)) then some ((91:Int)) else bif decide (x1.t>=x0.threads) then some ((91:Int)) else bif x1.kind == (2:Int) then some ((0:Int)) else bif decide (x1.item<(0:Int)) then some ((92:Int)) else bif decide (x1.item>=x0.items) then some ((92:Int)) else match ZgH (x1.op,x0.bounded) with
 | some y1 => bif !y1 then some ((93:Int)) else some ((0:Int))
 | none=>none
def ZjO (x:Config×SEntry):Option (Int):=Zs2 x.1 x.2
def ZvC (x0:Thread):Option (Bool) :=
 some (x0.phase != (0:Int))
def Zhr (x:Thread):Option (Bool):=ZvC x
def Zvi (x0:Wld) (x1:Event):Option (Wld) := bif fewB ((0:Nat)+x0.hist.length) then bif fewB (x0.hist.length+({ x1 with step:=x0.steps }::([]:List Event)).length) then some ({ x0 with hist:=x0.hist++{ x1 with step:=x0.steps }::([]:List Event) }) else none else none
def ZhO (x:Wld×Event):Option (Wld):=Zvi x.1 x.2
def Zr8 (x0:Wld) (x1:Int) (x2:Thread):Option (Wld) := bif fewB ((0:Nat)+x0.t.length) then bif decide ((0:Int)<=x1) then bif decide (x1<(↑x0.t.length:Int)) then some ({ x0 with t:=x0.t.set x1.toNat x2 }) else none else none else none
def Zir (x:Wld×Int×Thread):Option (Wld):=Zr8 x.1 x.2.1 x.2.2
def Zrx (x0:Int) (x1:Int) (x2:Int) (x3:Int):Option ((Int×Int×Int×Int)⊕((Int×Int))) := bif decide (x3<x0) then some (Sum.inl (x0,x1,Zaf IntKind.i64 ((2:Int)*x2),Zaf IntKind.i64 (x3+(1:Int)))) else some (Sum.inr (x1,x2))
def ZiD (x:Int×Int×Int×Int):Option ((Int×Int×Int×Int)⊕((Int×Int))):=Zrx x.1 x.2.1 x.2.2.1 x.2.2.2
def Zsa (x:Int×Int×Int×Int):Option ((Int×Int)):=Zav ZiD x
def Zuo (x0:Int) (x1:Int):Option (Int) := bif decide (x0<(1:Int)) then some ((0:Int)) else match Zsa (x0,x1,(1:Int),(1:Int)) with
 | some y1 => bif decide (y1.snd=(0:Int)) then none else some (Zaf IntKind.i64 (y1.snd+(Zaf IntKind.i64 (Int.tdiv y1.fst (2:Int))).tmod y1.snd))
 | none=>none
def Zol (x:Int×Int):Option (Int):=Zuo x.1 x.2
def Ztn (x0:Config) (x1:Int) (x2:Thread) (x3:Int) (x4:Op) (x5:Int):Option (Thread) := match Zol (x0.depth,x1) with
 | some y1 => bif decide (x0.wait>(0:Int)) then some (Thread.mk (1:Int) x3 x4 (Entry.mk x1 x4::([]:List Entry)) ([]:List Kid) ([]:List Int) (0:Int) y1 (0:Int) (0:Int) (0:Int) x2.width (0:Int) (0:Int) (0:Int) (Zaf IntKind.i64 (x5+x0.wait))) else some (Thread.mk (1:Int) x3 x4 (Entry.mk x1 x4::([]:List Entry)) ([]:List Kid) ([]:List Int) (0:Int) y1 (0:Int) (0:Int) (0:Int) x2.width (0:Int) (0:Int) (0:Int) (0:Int))
 | none=>none
def Zny (x:Config×Int×Thread×Int×Op×Int):Option (Thread):=Ztn x.1 x.2.1 x.2.2.1 x.2.2.2.1 x.2.2.2.2.1 x.2.2.2.2.2
def ZtD (x0:Turn):Option (Turn) := bif x0.c.backend == (2:Int) then bif decide (x0.c.depth>(0:Int)) then bif x0.c.backend == (3:Int) then bif decide (x0.c.layers>(0:Int)) then some ({ x0 with th:={ x0.th with phase:=(17:Int),layer:=(1:Int) } }) else some ({ x0 with th:={ x0.th with phase:=(4:Int) } }) else some ({ x0 with th:={ x0.th with phase:=(4:Int) } }) else bif x0.c.backend == (3:Int) then bif decide (x0.c.layers>(0:Int)) then some ({ x0 with th:={ x0.th with phase:=(17:Int),layer:=(1:Int) } }) else some ({ x0 with th:={ x0.th with phase:=(2:Int) } }) else some ({ x0 with th:={ x0.th with phase:=(2:Int) } }) else bif x0.c.backend == (3:Int) then bif decide (x0.c.layers>(0:Int)) then some ({ x0 with th:={ x0.th with phase:=(17:Int),layer:=(1:Int) } }) else some ({ x0 with th:={ x0.th with phase:=(2:Int) } }) else some ({ x0 with th:={ x0.th with phase:=(2:Int) } })
def ZnJ (x:Turn):Option (Turn):=ZtD x
def Zt1 (x0:Memo) (x1:Int):Option (Int×Int) := bif decide (x1<(0:Int)) then some (((0:Int),(30:Int))) else bif decide (x1>=(↑x0.words.length:Int)) then some (((0:Int),(30:Int))) else bif decide ((0:Int)<=x1) then bif decide (x1<(↑x0.words.length:Int)) then some ((x0.words.getD x1.toNat (0:Int),(0:Int))) else none else none
def ZcI (x:Memo×Int):Option (Int×Int):=Zt1 x.1 x.2
def ZuN:Option (Int) :=
 some ((5:Int))
def Zie (x:Unit):Option (Int):=ZuN
def Zr4 (x0:Config) (x1:Int):Option (Int) := bif decide (x1<(0:Int)) then some ((-1:Int)) else bif decide (x1>=x0.threads) then some ((-1:Int)) else match ZdF x0 with
 | some y1 => some (Zaf IntKind.i64 (Zaf IntKind.i64 (Zaf IntKind.i64 (x0.items*y1)+Zaf IntKind.i64 ((2:Int)*x1))+(1:Int)))
 | none=>none
def Zi3 (x:Config×Int):Option (Int):=Zr4 x.1 x.2
def Zsd (x0:Turn):Option (Turn) := bif decide (x0.th.at_>=(0:Int)) then bif decide (x0.th.at_<(↑x0.th.kids.length:Int)) then some ({ x0 with th:={ x0.th with phase:=(15:Int) } }) else some ({ x0 with th:={ x0.th with phase:=(0:Int) },done:=true }) else some ({ x0 with th:={ x0.th with phase:=(0:Int) },done:=true })
def Zgn (x:Turn):Option (Turn):=Zsd x
def Ztx (x0:List Entry) (x1:Int) (x2:Int) (x3:Int) (x4:Int):Option (((List Entry)×Int×Int×Int×Int)⊕((Int))) := bif decide (x4<(↑x0.length:Int)) then bif decide ((0:Int)<=x4) then bif decide (x4<(↑x0.length:Int)) then match Zc7 ((x0.getD x4.toNat Zch).op,x1,x2,x3) with
 | some y1 => some (Sum.inl (x0,y1.fst,x2,x3,Zaf IntKind.i64 (x4+(1:Int))))
 | none=>none else none else none else some (Sum.inr x1)
def ZjG (x:(List Entry)×Int×Int×Int×Int):Option (((List Entry)×Int×Int×Int×Int)⊕((Int))):=Ztx x.1 x.2.1 x.2.2.1 x.2.2.2.1 x.2.2.2.2
def ZtC (x:(List Entry)×Int×Int×Int×Int):Option ((Int)):=Zav ZjG x
def ZwI (x0:List Entry) (x1:Int) (x2:Int) (x3:Int):Option (Int) := match ZtC (x0,x1,x2,x3,(0:Int)) with
 | some y1 => some (y1)
 | none=>none
def ZgB (x:(List Entry)×Int×Int×Int):Option (Int):=ZwI x.1 x.2.1 x.2.2.1 x.2.2.2
def Zr5 (x0:List Entry) (x1:Int) (x2:List Entry) (x3:Int):Option (((List Entry)×Int×(List Entry)×Int)⊕(((List Entry)))) := bif decide (x3<(↑x0.length:Int)) then bif decide (x3<x1) then bif decide ((0:Int)<=x3) then bif decide (x3<(↑x0.length:Int)) then bif fewB (x2.length+(x0.getD x3.toNat Zch::([]:List Entry)).length) then some (Sum.inl (x0,x1,x2++x0.getD x3.toNat Zch::([]:List Entry),Zaf IntKind.i64 (x3+(1:Int)))) else none else none else none else some (Sum.inr x2) else some (Sum.inr x2)
def ZiV (x:(List Entry)×Int×(List Entry)×Int):Option (((List Entry)×Int×(List Entry)×Int)⊕(((List Entry)))):=Zr5 x.1 x.2.1 x.2.2.1 x.2.2.2
def ZrL (x:(List Entry)×Int×(List Entry)×Int):Option (((List Entry))):=Zav ZiV x
def Zu9 (x0:List Entry) (x1:Int):Option ((List Entry)) := match ZrL (x0,x1,([]:List Entry),(0:Int)) with
 | some y1 => some (y1)
 | none=>none
def ZkH (x:(List Entry)×Int):Option ((List Entry)):=Zu9 x.1 x.2
def ZtZ (x0:Turn):Option (Turn) := bif decide ((0:Int)<=x0.th.at_) then bif decide (x0.th.at_<(↑x0.th.kids.length:Int)) then bif x0.th.phase == (15:Int) then match Zi3 (x0.c,(x0.th.kids.getD x0.th.at_.toNat dKid).t) with
 | some y1 => match ZkH (x0.th.batch,(x0.th.kids.getD x0.th.at_.toNat dKid).ahead) with
  | some y2 => match ZgB (y2,x0.th.x,x0.c.lo,x0.c.hi) with
   | some y3 => match Zcw (x0.m,y1,y3) with
    | some y4 => bif y4.snd == (0:Int) then some ({ x0 with m:=y4.fst,th:={ x0.th with phase:=(16:Int) } }) else some (x0)
    | none=>none
   | none=>none
  | none=>none
 | none=>none else match Zdm (x0.c,(x0.th.kids.getD x0.th.at_.toNat dKid).t) with
 | some y1 => match Zie () with
  | some y2 => match Zcw (x0.m,y1,y2) with
   | some y3 => bif y3.snd != (0:Int) then some (x0) else match Zgn { x0 with m:=y3.fst,th:={ x0.th with at_:=Zaf IntKind.i64 (x0.th.at_+(1:Int)) } } with
     | some y4 => some (y4)
     | none=>none
   | none=>none
  | none=>none
 | none=>none else none else none
def ZkO (x:Turn):Option (Turn):=ZtZ x
def ZuQ (x0:Turn):Option (Turn×Bool) := bif x0.th.phase == (13:Int) then match Zdm (x0.c,x0.t) with
 | some y1 => match ZcI (x0.m,y1) with
  | some y2 => bif y2.snd == (0:Int) then match Zie () with
    | some y3 => bif y2.fst == y3 then some (({ x0 with th:={ x0.th with phase:=(14:Int) } },true)) else some ((x0,true))
    | none=>none else some ((x0,true))
  | none=>none
 | none=>none else bif x0.th.phase == (14:Int) then match Zi3 (x0.c,x0.t) with
  | some y1 => match ZcI (x0.m,y1) with
   | some y2 => bif y2.snd != (0:Int) then some ((x0,true)) else match Zgn { x0 with th:={ x0.th with at_:=(0:Int),x:=y2.fst } } with
     | some y3 => some ((y3,true))
     | none=>none
   | none=>none
  | none=>none else bif x0.th.phase == (15:Int) then bif x0.th.phase == (15:Int) then bif decide (x0.th.at_<(0:Int)) then some ((x0,true)) else bif decide (x0.th.at_>=(↑x0.th.kids.length:Int)) then some ((x0,true)) else match ZkO x0 with
      | some y1 => some ((y1,true))
      | none=>none else some ((x0,false)) else bif x0.th.phase == (16:Int) then bif decide (x0.th.at_<(0:Int)) then some ((x0,true)) else bif decide (x0.th.at_>=(↑x0.th.kids.length:Int)) then some ((x0,true)) else match ZkO x0 with
      | some y1 => some ((y1,true))
      | none=>none else some ((x0,false))
def Zov (x:Turn):Option (Turn×Bool):=ZuQ x
def ZpY (x0:List Entry) (x1:Int) (x2:Int) (x3:Int) (x4:List Int) (x5:Int):Option (((List Entry)×Int×Int×Int×(List Int)×Int)⊕(((List Int)))) := bif decide (x5<(↑x0.length:Int)) then match ZkH (x0,x5) with
 | some y1 => match ZgB (y1,x1,x2,x3) with
  | some y2 => bif fewB (x4.length+(y2::([]:List Int)).length) then some (Sum.inl (x0,x1,x2,x3,x4++y2::([]:List Int),Zaf IntKind.i64 (x5+(1:Int)))) else none
  | none=>none
 | none=>none else some (Sum.inr x4)
def Zg5 (x:(List Entry)×Int×Int×Int×(List Int)×Int):Option (((List Entry)×Int×Int×Int×(List Int)×Int)⊕(((List Int)))):=ZpY x.1 x.2.1 x.2.2.1 x.2.2.2.1 x.2.2.2.2.1 x.2.2.2.2.2
def Zqc (x:(List Entry)×Int×Int×Int×(List Int)×Int):Option (((List Int))):=Zav Zg5 x
def ZrA (x0:List Entry) (x1:Int) (x2:Int) (x3:Int):Option ((List Int)) := match Zqc (x0,x1,x2,x3,([]:List Int),(0:Int)) with
 | some y1 => some (y1)
 | none=>none
def Zmy (x:(List Entry)×Int×Int×Int):Option ((List Int)):=ZrA x.1 x.2.1 x.2.2.1 x.2.2.2
def ZpS (x0:Int) (x1:Turn) (x2:Turn) (x3:List Int) (x4:List Mark) (x5:Int):Option ((Int×Turn×Turn×(List Int)×(List Mark)×Int)⊕((Int×Turn×Turn×(List Mark)))) := bif decide (x5<(↑x1.th.batch.length:Int)) then bif decide ((0:Int)<=x5) then bif decide (x5<(↑x1.th.batch.length:Int)) then bif decide ((0:Int)<=x5) then bif decide (x5<(↑x1.th.batch.length:Int)) then bif decide ((0:Int)<=x5) then bif decide (x5<(↑x3.length:Int)) then bif fewB (x4.length+(Mark.mk (x1.th.batch.getD x5.toNat Zch).t x1.th.item (x1.th.batch.getD x5.toNat Zch).op (x3.getD x5.toNat (0:Int)) (0:Int)::([]:List Mark)).length) then some (Sum.inl (x0,x1,x2,x3,x4++Mark.mk (x1.th.batch.getD x5.toNat Zch).t x1.th.item (x1.th.batch.getD x5.toNat Zch).op (x3.getD x5.toNat (0:Int)) (0:Int)::([]:List Mark),Zaf IntKind.i64 (x5+(1:Int)))) else none else none else none else none else none else none else none else some (Sum.inr (x0,x1,x2,x4))
def Zg8 (x:Int×Turn×Turn×(List Int)×(List Mark)×Int):Option ((Int×Turn×Turn×(List Int)×(List Mark)×Int)⊕((Int×Turn×Turn×(List Mark)))):=ZpS x.1 x.2.1 x.2.2.1 x.2.2.2.1 x.2.2.2.2.1 x.2.2.2.2.2
def ZpK (x:Int×Turn×Turn×(List Int)×(List Mark)×Int):Option ((Int×Turn×Turn×(List Mark))):=Zav Zg8 x
def ZrH (x0:Turn) (x1:Int):Option (Turn) := match Zmy (x0.th.batch,x1,x0.c.lo,x0.c.hi) with
 | some y1 => bif fewB ((0:Nat)+x0.log.length) then match ZpK (x1,x0,Turn.mk (Config.mk (0:Int) (0:Int) (0:Int) (0:Int) (0:Int) (0:Int) (0:Int) (0:Int) false (0:Int) (0:Int) (0:Int)) (0:Int) (0:Int) (Memo.mk ([]:List Int) ([]:List (List Entry))) (Thread.mk (0:Int) (0:Int) (Op.mk (0:Int) (0:Int)) ([]:List Entry) ([]:List Kid) ([]:List Int) (0:Int) (0:Int) (0:Int) (0:Int) (0:Int) (0:Int) (0:Int) (0:Int) (0:Int) (0:Int)) (Tape.mk ([]:List Int) (0:Int)) ([]:List Mark) false,y1,x0.log,(0:Int)) with
  | some y2 => match Zgn { y2.snd.fst with th:={ y2.snd.fst.th with at_:=(0:Int),x:=y2.fst },log:=y2.snd.snd.snd } with
   | some y3 => some (y3)
   | none=>none
  | none=>none else none
 | none=>none
def ZeL (x:Turn×Int):Option (Turn):=ZrH x.1 x.2
def Zuq (x0:Turn):Option (Bool) := bif decide (x0.th.until_>(0:Int)) then some (decide (x0.now>=x0.th.until_)) else some (false)
def Zih (x:Turn):Option (Bool):=Zuq x
def ZrP (x0:Turn):Option (Turn) := bif decide (x0.th.layer<x0.c.layers) then match Zih x0 with
 | some y1 => bif !y1 then some ({ x0 with th:={ x0.th with phase:=(17:Int),layer:=Zaf IntKind.i64 (x0.th.layer+(1:Int)) } }) else some ({ x0 with th:={ x0.th with phase:=(2:Int) } })
 | none=>none else some ({ x0 with th:={ x0.th with phase:=(2:Int) } })
def Zgb (x:Turn):Option (Turn):=ZrP x
def Zwn (x0:Memo) (x1:Int) (x2:Int) (x3:Int):Option (Memo×Bool×Int) := match ZcI (x0,x1) with
 | some y1 => bif y1.snd != (0:Int) then some ((x0,false,y1.snd)) else bif y1.fst != x2 then some ((x0,false,y1.snd)) else match Zcw (x0,x1,x3) with
  | some y2 => some ((y2.fst,true,(0:Int)))
  | none=>none
 | none=>none
def Zey (x:Memo×Int×Int×Int):Option (Memo×Bool×Int):=Zwn x.1 x.2.1 x.2.2.1 x.2.2.2
def Ztp (x0:Int) (x1:Int):Option (Int) := bif decide (x0>x1) then some (x1) else some (if x1<Zaf IntKind.i64 ((2:Int)*x0) then x1 else Zaf IntKind.i64 ((2:Int)*x0))
def ZjP (x:Int×Int):Option (Int):=Ztp x.1 x.2
def ZtU (x0:Turn):Option (Turn×Bool) := match ZeE (x0.c,x0.th.item) with
 | some y1 => bif x0.th.phase == (2:Int) then bif x0.th.phase == (2:Int) then match ZcI (x0.m,y1) with
  | some y2 => bif y2.snd != (0:Int) then some ((x0,true)) else match ZgB (x0.th.batch,y2.fst,x0.c.lo,x0.c.hi) with
    | some y3 => bif y3 == y2.fst then match ZeL (x0,y2.fst) with
     | some y4 => some ((y4,true))
     | none=>none else bif x0.th.phase == (25:Int) then match Zgb x0 with
      | some y4 => some ((y4,true))
      | none=>none else some (({ x0 with th:={ x0.th with phase:=(3:Int),x:=y2.fst,y:=y3 } },true))
    | none=>none
  | none=>none else bif x0.th.phase == (3:Int) then match Zey (x0.m,y1,x0.th.x,x0.th.y) with
   | some y2 => bif y2.snd.snd != (0:Int) then some ((x0,true)) else bif y2.snd.fst then match ZeL ({ x0 with m:=y2.fst },x0.th.x) with
     | some y3 => some ((y3,true))
     | none=>none else match ZjP (x0.th.width,x0.c.width) with
     | some y3 => some (({ x0 with m:=y2.fst,th:={ x0.th with phase:=(2:Int),width:=y3 } },true))
     | none=>none
   | none=>none else some ((x0,false)) else bif x0.th.phase == (25:Int) then match ZcI (x0.m,y1) with
  | some y2 => bif y2.snd != (0:Int) then some ((x0,true)) else match ZgB (x0.th.batch,y2.fst,x0.c.lo,x0.c.hi) with
    | some y3 => bif y3 == y2.fst then match ZeL (x0,y2.fst) with
     | some y4 => some ((y4,true))
     | none=>none else bif x0.th.phase == (25:Int) then match Zgb x0 with
      | some y4 => some ((y4,true))
      | none=>none else some (({ x0 with th:={ x0.th with phase:=(3:Int),x:=y2.fst,y:=y3 } },true))
    | none=>none
  | none=>none else bif x0.th.phase == (3:Int) then match Zey (x0.m,y1,x0.th.x,x0.th.y) with
   | some y2 => bif y2.snd.snd != (0:Int) then some ((x0,true)) else bif y2.snd.fst then match ZeL ({ x0 with m:=y2.fst },x0.th.x) with
     | some y3 => some ((y3,true))
     | none=>none else match ZjP (x0.th.width,x0.c.width) with
     | some y3 => some (({ x0 with m:=y2.fst,th:={ x0.th with phase:=(2:Int),width:=y3 } },true))
     | none=>none
   | none=>none else some ((x0,false))
 | none=>none
def Zn4 (x:Turn):Option (Turn×Bool):=ZtU x
def Ztg (x0:Int):Option (Int) :=
 some (Zaf IntKind.i64 (Zaf IntKind.i64 ((8:Int)*Zaf IntKind.i64 (x0+(1:Int)))+(1:Int)))
def Zfd (x:Int):Option (Int):=Ztg x
def ZrB (x0:Int):Option (Int) :=
 some (Zaf IntKind.i64 (Zaf IntKind.i64 ((8:Int)*Zaf IntKind.i64 (x0+(1:Int)))+(2:Int)))
def Zi1 (x:Int):Option (Int):=ZrB x
def Zpc (x0:Int):Option (Int) :=
 some (Zaf IntKind.i64 (Zaf IntKind.i64 ((8:Int)*Zaf IntKind.i64 (x0+(1:Int)))+(3:Int)))
def Zgs (x:Int):Option (Int):=Zpc x
def Zut (x0:Int) (x1:Int):Option (Int) :=
 some (Zaf IntKind.i64 (Zaf IntKind.i64 ((8:Int)*Zaf IntKind.i64 (Zaf IntKind.i64 (Zaf IntKind.i64 ((16:Int)*x0)+x1)+(1:Int)))+(4:Int)))
def ZfI (x:Int×Int):Option (Int):=Zut x.1 x.2
def Zri (x0:Int) (x1:Int) (x2:Int):Option ((Int×Int×Int)⊕((Int×Int)⊕(Int))) := bif decide (x2<=(3:Int)) then match ZfI (x1,x2) with
 | some y1 => bif x0 == y1 then some (Sum.inr (Sum.inr (4:Int))) else some (Sum.inl (x0,x1,Zaf IntKind.i64 (x2+(1:Int))))
 | none=>none else some (Sum.inr (Sum.inl (x0,x1)))
def Zht (x:Int×Int×Int):Option ((Int×Int×Int)⊕((Int×Int)⊕(Int))):=Zri x.1 x.2.1 x.2.2
def ZqL (x:Int×Int×Int):Option ((Int×Int)⊕(Int)):=Zav Zht x
def Zqg (x0:Int) (x1:Int):Option ((Int×Int)⊕((Unit)⊕(Int))) := bif decide (x1<(4:Int)) then match ZqL (x0,x1,(1:Int)) with
 | some (.inl y1) => some (Sum.inl (y1.fst,Zaf IntKind.i64 (y1.snd+(1:Int))))
 | some (.inr y2) => some (Sum.inr (Sum.inr y2))
 | none=>none else some (Sum.inr (Sum.inl ()))
def ZhW (x:Int×Int):Option ((Int×Int)⊕((Unit)⊕(Int))):=Zqg x.1 x.2
def Zra (x:Int×Int):Option ((Unit)⊕(Int)):=Zav ZhW x
def Zr0 (x0:Int) (x1:Int):Option ((Int×Int)⊕((Int)⊕(Int))) := bif decide (x1<(16:Int)) then match Zfd x1 with
 | some y1 => bif x0 == y1 then some (Sum.inr (Sum.inr (1:Int))) else match Zi1 x1 with
  | some y2 => bif x0 == y2 then some (Sum.inr (Sum.inr (2:Int))) else match Zgs x1 with
   | some y3 => bif x0 == y3 then some (Sum.inr (Sum.inr (3:Int))) else some (Sum.inl (x0,Zaf IntKind.i64 (x1+(1:Int))))
   | none=>none
  | none=>none
 | none=>none else some (Sum.inr (Sum.inl x0))
def ZiE (x:Int×Int):Option ((Int×Int)⊕((Int)⊕(Int))):=Zr0 x.1 x.2
def ZrK (x:Int×Int):Option ((Int)⊕(Int)):=Zav ZiE x
def Zui (x0:Int):Option (Int) := bif x0 == (0:Int) then some ((0:Int)) else match Zie () with
 | some y1 => bif x0 == y1 then some ((5:Int)) else match ZrK (x0,(0:Int)) with
  | some (.inl y2) => match Zra (y2,(0:Int)) with
   | some (.inl y3) => some ((-1:Int))
   | some (.inr y4) => some (y4)
   | none=>none
  | some (.inr y3) => some (y3)
  | none=>none
 | none=>none
def ZfT (x:Int):Option (Int):=Zui x
def Zuw (x0:Turn):Option (Turn) := bif decide (x0.th.at_>=(0:Int)) then bif decide (x0.th.at_<(↑x0.th.held.length:Int)) then some ({ x0 with th:={ x0.th with phase:=(7:Int) } }) else bif decide (x0.th.stop>(0:Int)) then some ({ x0 with th:={ x0.th with phase:=(11:Int) } }) else some ({ x0 with th:={ x0.th with phase:=(2:Int) } }) else bif decide (x0.th.stop>(0:Int)) then some ({ x0 with th:={ x0.th with phase:=(11:Int) } }) else some ({ x0 with th:={ x0.th with phase:=(2:Int) } })
def ZkM (x:Turn):Option (Turn):=Zuw x
def ZuZ (x0:Turn):Option (Turn) := match ZkM { x0 with th:={ x0.th with at_:=(0:Int) } } with
 | some y1 => some (y1)
 | none=>none
def Zhx (x:Turn):Option (Turn):=ZuZ x
def ZrG (x0:Int):Option (Int) := bif decide (x0<(2:Int)) then some ((0:Int)) else some (Zaf IntKind.i64 (x0.tdiv (2:Int)))
def Zmr (x:Int):Option (Int):=ZrG x
def Zum (x0:Turn):Option (Turn×Bool) := match Zf2 (x0.c,x0.th.item,x0.th.node) with
 | some y1 => bif x0.th.phase == (4:Int) then match ZcI (x0.m,y1) with
  | some y2 => bif y2.snd != (0:Int) then some ((x0,true)) else match ZfT y2.fst with
    | some y3 => bif y3 == (0:Int) then some (({ x0 with th:={ x0.th with phase:=(5:Int) } },true)) else match ZfT y2.fst with
      | some y4 => bif y4 == (1:Int) then some (({ x0 with th:={ x0.th with phase:=(6:Int),x:=y2.fst } },true)) else match Zih x0 with
       | some y5 => bif y5 then match Zhx x0 with
         | some y6 => some ((y6,true))
         | none=>none else some ((x0,true))
       | none=>none
      | none=>none
    | none=>none
  | none=>none else bif x0.th.phase == (5:Int) then match Zfd x0.t with
   | some y2 => match Zey (x0.m,y1,(0:Int),y2) with
    | some y3 => bif y3.snd.snd != (0:Int) then some ((x0,true)) else bif !y3.snd.fst then some (({ x0 with th:={ x0.th with phase:=(4:Int) } },true)) else bif fewB ((0:Nat)+x0.th.held.length) then bif fewB (x0.th.held.length+(x0.th.node::([]:List Int)).length) then match Zmr x0.th.node with
        | some y4 => bif y4 == (0:Int) then match Zhx { x0 with m:=y3.fst,th:={ x0.th with phase:=(4:Int),held:=x0.th.held++x0.th.node::([]:List Int),node:=y4 } } with
          | some y5 => some ((y5,true))
          | none=>none else some (({ x0 with m:=y3.fst,th:={ x0.th with phase:=(4:Int),held:=x0.th.held++x0.th.node::([]:List Int),node:=y4 } },true))
        | none=>none else none else none
    | none=>none
   | none=>none else bif x0.th.phase == (6:Int) then match Zi1 x0.t with
    | some y2 => match Zey (x0.m,y1,x0.th.x,y2) with
     | some y3 => bif y3.snd.snd != (0:Int) then some ((x0,true)) else bif !y3.snd.fst then some (({ x0 with th:={ x0.th with phase:=(4:Int) } },true)) else match Zhx { x0 with m:=y3.fst,th:={ x0.th with phase:=(4:Int),stop:=x0.th.node } } with
       | some y4 => some ((y4,true))
       | none=>none
     | none=>none
    | none=>none else some ((x0,false))
 | none=>none
def Zk0 (x:Turn):Option (Turn×Bool):=Zum x
def Zvx (x0:Turn):Option (Int) := bif decide (x0.th.at_<(0:Int)) then some ((-1:Int)) else bif decide (x0.th.at_>=(↑x0.th.held.length:Int)) then some ((-1:Int)) else bif decide ((0:Int)<=x0.th.at_) then bif decide (x0.th.at_<(↑x0.th.held.length:Int)) then match Zf2 (x0.c,x0.th.item,x0.th.held.getD x0.th.at_.toNat (0:Int)) with
 | some y1 => some (y1)
 | none=>none else none else none
def Zom (x:Turn):Option (Int):=Zvx x
def Zwk (x0:Int):Option (Int) := match ZfT x0 with
 | some y1 => bif decide (y1<(1:Int)) then some ((-1:Int)) else bif decide (y1>(3:Int)) then some ((-1:Int)) else some (Zaf IntKind.i64 (Zaf IntKind.i64 (x0.tdiv (8:Int))-(1:Int)))
 | none=>none
def ZpB (x:Int):Option (Int):=Zwk x
def ZvR (x0:Turn):Option (Turn) := match ZkM { x0 with th:={ x0.th with at_:=Zaf IntKind.i64 (x0.th.at_+(1:Int)) } } with
 | some y1 => some (y1)
 | none=>none
def Zkv (x:Turn):Option (Turn):=ZvR x
def ZvW (x0:Memo) (x1:Int):Option ((List Entry)×Int) := bif decide (x1<(0:Int)) then some ((([]:List Entry),(30:Int))) else bif decide (x1>=(↑x0.boxes.length:Int)) then some ((([]:List Entry),(30:Int))) else bif decide ((0:Int)<=x1) then bif decide (x1<(↑x0.boxes.length:Int)) then bif fewB ((0:Nat)+List.length (x0.boxes.getD x1.toNat ([]:List Entry))) then some ((x0.boxes.getD x1.toNat ([]:List Entry),(0:Int))) else none else none else none
def Zl8 (x:Memo×Int):Option ((List Entry)×Int):=ZvW x.1 x.2
def ZrQ (x0:List (List Entry)) (x1:List Entry) (x2:Int):Option (((List (List Entry))×(List Entry)×Int)⊕(((List Entry)))) := bif decide (x2<(↑x0.length:Int)) then bif decide ((0:Int)<=x2) then bif decide (x2<(↑x0.length:Int)) then bif fewB (x1.length+List.length (x0.getD x2.toNat ([]:List Entry))) then some (Sum.inl (x0,x1++x0.getD x2.toNat ([]:List Entry),Zaf IntKind.i64 (x2+(1:Int)))) else none else none else none else some (Sum.inr x1)
def Zi2 (x:(List (List Entry))×(List Entry)×Int):Option (((List (List Entry))×(List Entry)×Int)⊕(((List Entry)))):=ZrQ x.1 x.2.1 x.2.2
def Zr3 (x:(List (List Entry))×(List Entry)×Int):Option (((List Entry))):=Zav Zi2 x
def ZuF (x0:List (List Entry)):Option ((List Entry)) := match Zr3 (x0,([]:List Entry),(0:Int)) with
 | some y1 => some (y1)
 | none=>none
def Zoz (x:(List (List Entry))):Option ((List Entry)):=ZuF x
def Zvq (x0:Turn) (x1:Int) (x2:List Entry):Option (Turn) := bif fewB ((0:Nat)+x0.th.kids.length) then bif fewB (x0.th.kids.length+(Kid.mk x1 (↑x0.th.batch.length:Int)::([]:List Kid)).length) then match Zoz (x0.th.batch::x2::([]:List (List Entry))) with
 | some y1 => some ({ x0 with th:={ x0.th with batch:=y1,kids:=x0.th.kids++Kid.mk x1 (↑x0.th.batch.length:Int)::([]:List Kid) } })
 | none=>none else none else none
def Zk7 (x:Turn×Int×(List Entry)):Option (Turn):=Zvq x.1 x.2.1 x.2.2
def Zwo (x0:Memo) (x1:Int) (x2:List Entry):Option (Memo×Int) := bif decide (x1<(0:Int)) then some ((x0,(30:Int))) else bif decide (x1>=(↑x0.boxes.length:Int)) then some ((x0,(30:Int))) else bif fewB ((0:Nat)+x0.boxes.length) then bif fewB ((0:Nat)+x2.length) then bif decide ((0:Int)<=x1) then bif decide (x1<(↑x0.boxes.length:Int)) then some (({ x0 with boxes:=x0.boxes.set x1.toNat x2 },(0:Int))) else none else none else none else none
def Zl6 (x:Memo×Int×(List Entry)):Option (Memo×Int):=Zwo x.1 x.2.1 x.2.2
def ZvJ (x0:Turn):Option (Turn×Bool) := match Zom x0 with
 | some y1 => bif x0.th.phase == (7:Int) then match ZcI (x0.m,y1) with
  | some y2 => bif y2.snd != (0:Int) then some ((x0,true)) else match Zfd x0.t with
    | some y3 => bif y2.fst == y3 then some (({ x0 with th:={ x0.th with phase:=(8:Int) } },true)) else match ZfT y2.fst with
      | some y4 => bif y4 == (3:Int) then match ZpB y2.fst with
        | some y5 => some (({ x0 with th:={ x0.th with phase:=(9:Int),who:=y5 } },true))
        | none=>none else some ((x0,true))
      | none=>none
    | none=>none
  | none=>none else bif x0.th.phase == (8:Int) then match Zfd x0.t with
   | some y2 => match Zey (x0.m,y1,y2,(0:Int)) with
    | some y3 => bif y3.snd.snd != (0:Int) then some ((x0,true)) else bif y3.snd.fst then match Zkv { x0 with m:=y3.fst } with
       | some y4 => some ((y4,true))
       | none=>none else some (({ x0 with m:=y3.fst,th:={ x0.th with phase:=(7:Int) } },true))
    | none=>none
   | none=>none else bif x0.th.phase == (9:Int) then match Zl8 (x0.m,x0.th.who) with
    | some y2 => bif y2.snd != (0:Int) then some ((x0,true)) else match Zk7 (x0,x0.th.who,y2.fst) with
      | some y3 => some (({ y3 with th:={ y3.th with phase:=(10:Int) } },true))
      | none=>none
    | none=>none else bif x0.th.phase == (10:Int) then match Zcw (x0.m,y1,(0:Int)) with
     | some y2 => bif y2.snd != (0:Int) then some ((x0,true)) else match Zkv { x0 with m:=y2.fst } with
       | some y3 => some ((y3,true))
       | none=>none
     | none=>none else bif x0.th.phase == (11:Int) then match Zl6 (x0.m,x0.t,x0.th.batch) with
      | some y2 => bif y2.snd != (0:Int) then some ((x0,true)) else some (({ x0 with m:=y2.fst,th:={ x0.th with phase:=(12:Int) } },true))
      | none=>none else bif x0.th.phase == (12:Int) then match Zf2 (x0.c,x0.th.item,x0.th.stop) with
       | some y2 => match Zgs x0.t with
        | some y3 => match Zcw (x0.m,y2,y3) with
         | some y4 => bif y4.snd != (0:Int) then some ((x0,true)) else some (({ x0 with m:=y4.fst,th:={ x0.th with phase:=(13:Int) } },true))
         | none=>none
        | none=>none
       | none=>none else some ((x0,false))
 | none=>none
def ZfU (x:Turn):Option (Turn×Bool):=ZvJ x
def Zr9 (x0:Turn) (x1:Int):Option (Turn) := match Zdm (x0.c,x0.t) with
 | some y1 => match ZfI (x0.th.item,x0.th.layer) with
  | some y2 => match Zcw (x0.m,y1,y2) with
   | some y3 => bif y3.snd != (0:Int) then some (x0) else bif x1 == (23:Int) then some ({ x0 with m:=y3.fst,th:={ x0.th with phase:=x1,left:=x0.c.spin } }) else some ({ x0 with m:=y3.fst,th:={ x0.th with phase:=x1 } })
   | none=>none
  | none=>none
 | none=>none
def ZiL (x:Turn×Int):Option (Turn):=Zr9 x.1 x.2
def ZuI (x0:Tape):Option (Int×Tape) := bif decide (x0.at_<(0:Int)) then some (((0:Int),x0)) else bif decide (x0.at_>=(↑x0.l.length:Int)) then some (((0:Int),x0)) else bif decide ((0:Int)<=x0.at_) then bif decide (x0.at_<(↑x0.l.length:Int)) then some ((x0.l.getD x0.at_.toNat (0:Int),{ x0 with at_:=Zaf IntKind.i64 (x0.at_+(1:Int)) })) else none else none
def ZnX (x:Tape):Option (Int×Tape):=ZuI x
def Zs8 (x0:Tape) (x1:Int):Option (Int×Tape) := bif decide (x1<(1:Int)) then some (((0:Int),x0)) else match ZnX x0 with
 | some y1 => bif decide (x1=(0:Int)) then none else bif decide (Int.tmod y1.fst x1<(0:Int)) then some ((Zaf IntKind.i64 (Int.tmod y1.fst x1+x1),y1.snd)) else some ((Int.tmod y1.fst x1,y1.snd))
 | none=>none
def Znq (x:Tape×Int):Option (Int×Tape):=Zs8 x.1 x.2
def ZuY (x0:Memo) (x1:Int) (x2:Int):Option (Memo×Int×Int) := match ZcI (x0,x1) with
 | some y1 => match Zcw (x0,x1,x2) with
  | some y2 => some ((y2.fst,y1))
  | none=>none
 | none=>none
def Zox (x:Memo×Int×Int):Option (Memo×Int×Int):=ZuY x.1 x.2.1 x.2.2
def Zu3 (x0:Config) (x1:Int) (x2:Int) (x3:Int):Option (Int) := bif decide (x1<(0:Int)) then some ((-1:Int)) else bif decide (x1>=x0.items) then some ((-1:Int)) else bif decide (x2<(1:Int)) then some ((-1:Int)) else bif decide (x2>x0.layers) then some ((-1:Int)) else bif decide (x3<(0:Int)) then some ((-1:Int)) else bif decide (x3>=x0.width) then some ((-1:Int)) else match ZdF x0 with
 | some y1 => match Zfj x0 with
  | some y2 => some (Zaf IntKind.i64 (Zaf IntKind.i64 (Zaf IntKind.i64 (Zaf IntKind.i64 (Zaf IntKind.i64 (x1*y1)+(1:Int))+y2)+Zaf IntKind.i64 (Zaf IntKind.i64 (x2-(1:Int))*x0.width))+x3))
  | none=>none
 | none=>none
def Zn7 (x:Config×Int×Int×Int):Option (Int):=Zu3 x.1 x.2.1 x.2.2.1 x.2.2.2
def ZvL (x0:Turn):Option (Turn) := match Znq (x0.tape,x0.th.width) with
 | some y1 => match Zn7 (x0.c,x0.th.item,x0.th.layer,y1.fst) with
  | some y2 => match Zox (x0.m,y2,Zaf IntKind.i64 (x0.t+(1:Int))) with
   | some y3 => bif y3.snd.snd != (0:Int) then some (x0) else bif decide (y3.snd.fst>=(1:Int)) then bif decide (y3.snd.fst<=x0.c.threads) then bif y3.snd.fst != Zaf IntKind.i64 (x0.t+(1:Int)) then some ({ x0 with m:=y3.fst,th:={ x0.th with phase:=(20:Int),who:=Zaf IntKind.i64 (y3.snd.fst-(1:Int)) },tape:=y1.snd }) else some ({ x0 with m:=y3.fst,th:={ x0.th with phase:=(23:Int),left:=x0.c.spin },tape:=y1.snd }) else some ({ x0 with m:=y3.fst,th:={ x0.th with phase:=(23:Int),left:=x0.c.spin },tape:=y1.snd }) else some ({ x0 with m:=y3.fst,th:={ x0.th with phase:=(23:Int),left:=x0.c.spin },tape:=y1.snd })
   | none=>none
  | none=>none
 | none=>none
def ZoI (x:Turn):Option (Turn):=ZvL x
def Zp3 (x0:Turn) (x1:Int) (x2:Int) (x3:Int):Option (Turn) := match Zdm (x0.c,x1) with
 | some y1 => match ZfI (x0.th.item,x0.th.layer) with
  | some y2 => match Zey (x0.m,y1,y2,(0:Int)) with
   | some y3 => bif y3.snd.snd != (0:Int) then some (x0) else bif y3.snd.fst then some ({ x0 with m:=y3.fst,th:={ x0.th with phase:=x2 } }) else some ({ x0 with m:=y3.fst,th:={ x0.th with phase:=x3 } })
   | none=>none
  | none=>none
 | none=>none
def Ze5 (x:Turn×Int×Int×Int):Option (Turn):=Zp3 x.1 x.2.1 x.2.2.1 x.2.2.2
def ZuU (x0:Turn):Option (Turn) := match Zdm (x0.c,x0.t) with
 | some y1 => match ZcI (x0.m,y1) with
  | some y2 => bif y2.snd != (0:Int) then some (x0) else match ZfI (x0.th.item,x0.th.layer) with
   | some y3 => bif y2.fst != y3 then some ({ x0 with th:={ x0.th with phase:=(13:Int) } }) else bif decide (x0.th.left<(1:Int)) then some ({ x0 with th:={ x0.th with phase:=(26:Int) } }) else match Zih x0 with
    | some y4 => bif y4 then some ({ x0 with th:={ x0.th with phase:=(26:Int) } }) else some ({ x0 with th:={ x0.th with left:=Zaf IntKind.i64 (x0.th.left-(1:Int)) } })
    | none=>none
   | none=>none
  | none=>none
 | none=>none
def Zoy (x:Turn):Option (Turn):=ZuU x
def Zu7 (x0:Int):Option (Int) := bif decide (x0<(0:Int)) then some ((-1:Int)) else some (Zaf IntKind.i64 (x0.tdiv (2:Int)))
def ZoM (x:Int):Option (Int):=Zu7 x
def Zu0 (x0:Turn):Option (Turn×Bool) := bif x0.th.phase == (17:Int) then match Zl6 (x0.m,x0.t,x0.th.batch) with
 | some y1 => bif y1.snd == (0:Int) then some (({ x0 with m:=y1.fst,th:={ x0.th with phase:=(18:Int) } },true)) else some ((x0,true))
 | none=>none else bif x0.th.phase == (18:Int) then match ZiL (x0,(19:Int)) with
  | some y1 => some ((y1,true))
  | none=>none else bif x0.th.phase == (19:Int) then match ZoI x0 with
   | some y1 => some ((y1,true))
   | none=>none else bif x0.th.phase == (20:Int) then match Ze5 (x0,x0.t,(21:Int),(13:Int)) with
    | some y1 => some ((y1,true))
    | none=>none else bif x0.th.phase == (21:Int) then match Ze5 (x0,x0.th.who,(22:Int),(24:Int)) with
     | some y1 => some ((y1,true))
     | none=>none else bif x0.th.phase == (22:Int) then match Zl8 (x0.m,x0.th.who) with
      | some y1 => bif y1.snd == (0:Int) then match Zk7 (x0,x0.th.who,y1.fst) with
        | some y2 => some (({ y2 with th:={ y2.th with phase:=(25:Int) } },true))
        | none=>none else some ((x0,true))
      | none=>none else bif x0.th.phase == (23:Int) then match Zoy x0 with
       | some y1 => some ((y1,true))
       | none=>none else bif x0.th.phase == (24:Int) then match ZiL (x0,(23:Int)) with
        | some y1 => some ((y1,true))
        | none=>none else bif x0.th.phase == (26:Int) then match Ze5 (x0,x0.t,(2:Int),(13:Int)) with
         | some y1 => bif y1.th.phase == (2:Int) then match ZoM y1.th.width with
          | some y2 => match Zgb { y1 with th:={ y1.th with width:=if y2>(1:Int) then y2 else (1:Int) } } with
           | some y3 => some ((y3,true))
           | none=>none
          | none=>none else some ((y1,true))
         | none=>none else some ((x0,false))
def Zc0 (x:Turn):Option (Turn×Bool):=Zu0 x
def Zuu (x0:Turn):Option (Turn) := bif x0.th.phase == (0:Int) then some (x0) else bif x0.th.phase == (1:Int) then match Zdm (x0.c,x0.t) with
 | some y1 => match Zcw (x0.m,y1,(0:Int)) with
  | some y2 => bif y2.snd != (0:Int) then some ({ x0 with log:=([]:List Mark),done:=false }) else match ZnJ { x0 with m:=y2.fst,log:=([]:List Mark),done:=false } with
    | some y3 => some (y3)
    | none=>none
  | none=>none
 | none=>none else match Zov { x0 with log:=([]:List Mark),done:=false } with
 | some y1 => bif !y1.snd then match Zn4 { x0 with log:=([]:List Mark),done:=false } with
   | some y2 => bif !y2.snd then match Zk0 { x0 with log:=([]:List Mark),done:=false } with
     | some y3 => bif !y3.snd then match ZfU { x0 with log:=([]:List Mark),done:=false } with
       | some y4 => bif !y4.snd then match Zc0 { x0 with log:=([]:List Mark),done:=false } with
         | some y5 => some (y5.fst)
         | none=>none else some (y4.fst)
       | none=>none else bif !y3.snd then match Zc0 { x0 with log:=([]:List Mark),done:=false } with
        | some y4 => some (y4.fst)
        | none=>none else some (y3.fst)
     | none=>none else bif !y2.snd then match ZfU { x0 with log:=([]:List Mark),done:=false } with
      | some y3 => bif !y3.snd then match Zc0 { x0 with log:=([]:List Mark),done:=false } with
        | some y4 => some (y4.fst)
        | none=>none else some (y3.fst)
      | none=>none else bif !y2.snd then match Zc0 { x0 with log:=([]:List Mark),done:=false } with
       | some y3 => some (y3.fst)
       | none=>none else some (y2.fst)
   | none=>none else bif !y1.snd then match Zk0 { x0 with log:=([]:List Mark),done:=false } with
    | some y2 => bif !y2.snd then match ZfU { x0 with log:=([]:List Mark),done:=false } with
      | some y3 => bif !y3.snd then match Zc0 { x0 with log:=([]:List Mark),done:=false } with
        | some y4 => some (y4.fst)
        | none=>none else some (y3.fst)
      | none=>none else bif !y2.snd then match Zc0 { x0 with log:=([]:List Mark),done:=false } with
       | some y3 => some (y3.fst)
       | none=>none else some (y2.fst)
    | none=>none else bif !y1.snd then match ZfU { x0 with log:=([]:List Mark),done:=false } with
     | some y2 => bif !y2.snd then match Zc0 { x0 with log:=([]:List Mark),done:=false } with
       | some y3 => some (y3.fst)
       | none=>none else some (y2.fst)
     | none=>none else bif !y1.snd then match Zc0 { x0 with log:=([]:List Mark),done:=false } with
      | some y2 => some (y2.fst)
      | none=>none else some (y1.fst)
 | none=>none
def Zos (x:Turn):Option (Turn):=Zuu x
def ZrS (x0:Int) (x1:Wld) (x2:Wld) (x3:Turn) (x4:List Mark) (x5:Int):Option ((Int×Wld×Wld×Turn×(List Mark)×Int)⊕((Int×Wld×Wld×Turn×(List Mark)))) := bif decide (x5<(↑x3.log.length:Int)) then bif decide ((0:Int)<=x5) then bif decide (x5<(↑x3.log.length:Int)) then bif fewB (x4.length+({ x3.log.getD x5.toNat ZaZ with step:=x1.steps }::([]:List Mark)).length) then some (Sum.inl (x0,x1,x2,x3,x4++{ x3.log.getD x5.toNat ZaZ with step:=x1.steps }::([]:List Mark),Zaf IntKind.i64 (x5+(1:Int)))) else none else none else none else some (Sum.inr (x0,x1,x2,x3,x4))
def Zim (x:Int×Wld×Wld×Turn×(List Mark)×Int):Option ((Int×Wld×Wld×Turn×(List Mark)×Int)⊕((Int×Wld×Wld×Turn×(List Mark)))):=ZrS x.1 x.2.1 x.2.2.1 x.2.2.2.1 x.2.2.2.2.1 x.2.2.2.2.2
def ZrF (x:Int×Wld×Wld×Turn×(List Mark)×Int):Option ((Int×Wld×Wld×Turn×(List Mark))):=Zav Zim x
def ZuD (x0:Wld) (x1:Int):Option (Wld) := bif decide ((0:Int)<=x1) then bif decide (x1<(↑x0.t.length:Int)) then match Zos (Turn.mk x0.c x1 x0.now x0.m (x0.t.getD x1.toNat Zax) x0.tape ([]:List Mark) false) with
 | some y1 => match Zir ({ x0 with steps:=Zaf IntKind.i64 (x0.steps+(1:Int)) },x1,y1.th) with
  | some y2 => bif fewB ((0:Nat)+y2.log.length) then match ZrF (x1,{ y2 with m:=y1.m,tape:=y1.tape },Wld.mk (Config.mk (0:Int) (0:Int) (0:Int) (0:Int) (0:Int) (0:Int) (0:Int) (0:Int) false (0:Int) (0:Int) (0:Int)) (Memo.mk ([]:List Int) ([]:List (List Entry))) ([]:List Thread) (0:Int) (0:Int) (Tape.mk ([]:List Int) (0:Int)) ([]:List Mark) ([]:List Event),y1,y2.log,(0:Int)) with
   | some y3 => bif !y3.snd.snd.snd.fst.done then some ({ y3.snd.fst with log:=y3.snd.snd.snd.snd }) else match Zc7 (y3.snd.snd.snd.fst.th.op,y3.snd.snd.snd.fst.th.x,y3.snd.fst.c.lo,y3.snd.fst.c.hi) with
    | some y4 => match ZhO ({ y3.snd.fst with log:=y3.snd.snd.snd.snd },Event.mk (2:Int) y3.fst y3.snd.snd.snd.fst.th.item y3.snd.snd.snd.fst.th.op y3.snd.snd.snd.fst.th.x y4.snd (0:Int)) with
     | some y5 => some (y5)
     | none=>none
    | none=>none
   | none=>none else none
  | none=>none
 | none=>none else none else none
def ZoJ (x:Wld×Int):Option (Wld):=ZuD x.1 x.2
def ZuC (x0:Wld) (x1:SEntry):Option (Wld×Int) := match ZjO (x0.c,x1) with
 | some y1 => bif y1 != (0:Int) then some ((x0,y1)) else bif x1.kind == (3:Int) then some (({ x0 with now:=Zaf IntKind.i64 (x0.now+(1:Int)) },(0:Int))) else bif decide ((0:Int)<=x1.t) then bif decide (x1.t<(↑x0.t.length:Int)) then bif x1.kind == (1:Int) then match Zhr (x0.t.getD x1.t.toNat Zax) with
  | some y2 => bif y2 then match ZhO (x0,Event.mk (3:Int) x1.t x1.item x1.op (0:Int) false (0:Int)) with
   | some y3 => some ((y3,(170:Int)))
   | none=>none else match Zny (x0.c,x1.t,x0.t.getD x1.t.toNat Zax,x1.item,x1.op,x0.now) with
   | some y3 => match Zir (x0,x1.t,y3) with
    | some y4 => match ZhO (y4,Event.mk (1:Int) x1.t x1.item x1.op (0:Int) false (0:Int)) with
     | some y5 => some ((y5,(0:Int)))
     | none=>none
    | none=>none
   | none=>none
  | none=>none else match Zhr (x0.t.getD x1.t.toNat Zax) with
  | some y2 => bif !y2 then some ((x0,(0:Int))) else match ZoJ (x0,x1.t) with
   | some y3 => some ((y3,(0:Int)))
   | none=>none
  | none=>none else none else none
 | none=>none
def Zoa (x:Wld×SEntry):Option (Wld×Int):=ZuC x.1 x.2
def ZtJ (x0:List SEntry) (x1:Config) (x2:Int):Option (((List SEntry)×Config×Int)⊕((Unit)⊕(Int×Int))) := bif decide (x2<(↑x0.length:Int)) then bif decide ((0:Int)<=x2) then bif decide (x2<(↑x0.length:Int)) then match ZjO (x1,x0.getD x2.toNat Zbq) with
 | some y1 => bif y1 != (0:Int) then some (Sum.inr (Sum.inr (x2,y1))) else some (Sum.inl (x0,x1,Zaf IntKind.i64 (x2+(1:Int))))
 | none=>none else none else none else some (Sum.inr (Sum.inl ()))
def ZjI (x:(List SEntry)×Config×Int):Option (((List SEntry)×Config×Int)⊕((Unit)⊕(Int×Int))):=ZtJ x.1 x.2.1 x.2.2
def Zts (x:(List SEntry)×Config×Int):Option ((Unit)⊕(Int×Int)):=Zav ZjI x
def Zwr (x0:Config) (x1:List SEntry):Option (Int×Int) := match Zek x0 with
 | some y1 => bif y1 != (0:Int) then some (((0:Int),y1)) else bif decide ((↑x1.length:Int)>(65536:Int)) then some (((0:Int),(2:Int))) else match Zts (x1,x0,(0:Int)) with
  | some (.inl y2) => some (((0:Int),(0:Int)))
  | some (.inr y3) => some (y3)
  | none=>none
 | none=>none
def Zpl (x:Config×(List SEntry)):Option (Int×Int):=Zwr x.1 x.2
def ZtB (x0:List SEntry) (x1:Wld) (x2:Wld) (x3:Int):Option (((List SEntry)×Wld×Wld×Int)⊕((Wld×Wld))) := bif decide (x3<(↑x0.length:Int)) then bif decide ((0:Int)<=x3) then bif decide (x3<(↑x0.length:Int)) then match Zoa (x2,x0.getD x3.toNat Zbq) with
 | some y1 => some (Sum.inl (x0,x1,y1.fst,Zaf IntKind.i64 (x3+(1:Int))))
 | none=>none else none else none else some (Sum.inr (x1,x2))
def ZjV (x:(List SEntry)×Wld×Wld×Int):Option (((List SEntry)×Wld×Wld×Int)⊕((Wld×Wld))):=ZtB x.1 x.2.1 x.2.2.1 x.2.2.2
def ZtH (x:(List SEntry)×Wld×Wld×Int):Option ((Wld×Wld)):=Zav ZjV x
def Zv9 (x0:Config) (x1:List SEntry) (x2:List Int):Option (Wld×Int×Int) := match Zpl (x0,x1) with
 | some y1 => bif y1.snd != (0:Int) then some ((Wld.mk (Config.mk (0:Int) (0:Int) (0:Int) (0:Int) (0:Int) (0:Int) (0:Int) (0:Int) false (0:Int) (0:Int) (0:Int)) (Memo.mk ([]:List Int) ([]:List (List Entry))) ([]:List Thread) (0:Int) (0:Int) (Tape.mk ([]:List Int) (0:Int)) ([]:List Mark) ([]:List Event),y1)) else match ZpI (x0,x2) with
  | some y2 => match ZtH (x1,Wld.mk (Config.mk (0:Int) (0:Int) (0:Int) (0:Int) (0:Int) (0:Int) (0:Int) (0:Int) false (0:Int) (0:Int) (0:Int)) (Memo.mk ([]:List Int) ([]:List (List Entry))) ([]:List Thread) (0:Int) (0:Int) (Tape.mk ([]:List Int) (0:Int)) ([]:List Mark) ([]:List Event),y2.fst,(0:Int)) with
   | some y3 => some ((y3.snd,(0:Int),(0:Int)))
   | none=>none
  | none=>none
 | none=>none
def Zwd (x:Config×(List SEntry)×(List Int)):Option (Wld×Int×Int):=Zv9 x.1 x.2.1 x.2.2
def Zrh (x0:List SEntry) (x1:List SEntry) (x2:Int):Option (((List SEntry)×(List SEntry)×Int)⊕(((List SEntry)))) := bif decide (x2<(↑x0.length:Int)) then bif decide ((0:Int)<=x2) then bif decide (x2<(↑x0.length:Int)) then bif decide ((0:Int)<=x2) then bif decide (x2<(↑x0.length:Int)) then bif decide ((0:Int)<=x2) then bif decide (x2<(↑x0.length:Int)) then bif decide ((0:Int)<=x2) then bif decide (x2<(↑x0.length:Int)) then bif fewB (x1.length+(x0.getD x2.toNat Zbq::([]:List SEntry)).length) then some (Sum.inl (x0,x1++x0.getD x2.toNat Zbq::([]:List SEntry),Zaf IntKind.i64 (x2+(1:Int)))) else none else none else none else none else none else none else none else none else none else some (Sum.inr x1)
def Zhm (x:(List SEntry)×(List SEntry)×Int):Option (((List SEntry)×(List SEntry)×Int)⊕(((List SEntry)))):=Zrh x.1 x.2.1 x.2.2
def ZqY (x:(List SEntry)×(List SEntry)×Int):Option (((List SEntry))):=Zav Zhm x
def Ztk (x0:List SEntry):Option ((List SEntry)) := match ZqY (x0,([]:List SEntry),(0:Int)) with
 | some y1 => some (y1)
 | none=>none
def Ztz (x:(List SEntry)):Option ((List SEntry)):=Ztk x
def Zhe (x0:List Event) (x1:List Event) (x2:Int):Option (((List Event)×(List Event)×Int)⊕((Unit)⊕(Bool))) := bif decide (x2<(↑x0.length:Int)) then bif decide ((0:Int)<=x2) then bif decide (x2<(↑x0.length:Int)) then bif decide ((0:Int)<=x2) then bif decide (x2<(↑x1.length:Int)) then bif !((x0.getD x2.toNat Zbb).kind == (x1.getD x2.toNat Zbb).kind && ((x0.getD x2.toNat Zbb).t == (x1.getD x2.toNat Zbb).t && ((x0.getD x2.toNat Zbb).item == (x1.getD x2.toNat Zbb).item && ((x0.getD x2.toNat Zbb).op.tag == (x1.getD x2.toNat Zbb).op.tag && ((x0.getD x2.toNat Zbb).op.v == (x1.getD x2.toNat Zbb).op.v && true) && ((x0.getD x2.toNat Zbb).prior == (x1.getD x2.toNat Zbb).prior && ((x0.getD x2.toNat Zbb).did == (x1.getD x2.toNat Zbb).did && ((x0.getD x2.toNat Zbb).step == (x1.getD x2.toNat Zbb).step && true))))))) then some (Sum.inr (Sum.inr false)) else some (Sum.inl (x0,x1,Zaf IntKind.i64 (x2+(1:Int)))) else none else none else none else none else some (Sum.inr (Sum.inl ()))
def Zec (x:(List Event)×(List Event)×Int):Option (((List Event)×(List Event)×Int)⊕((Unit)⊕(Bool))):=Zhe x.1 x.2.1 x.2.2
def ZkK (x:(List Event)×(List Event)×Int):Option ((Unit)⊕(Bool)):=Zav Zec x
def ZiU (x0:List Event) (x1:List Event):Option (Bool) := bif (↑x0.length:Int) != (↑x1.length:Int) then some (false) else match ZkK (x0,x1,(0:Int)) with
 | some (.inl y1) => some (true)
 | some (.inr y2) => some (y2)
 | none=>none
def ZiF (x:(List Event)×(List Event)):Option (Bool):=ZiU x.1 x.2
def Ziz (x0:Wld) (x1:Wld) (x2:Int):Option ((Wld×Wld×Int)⊕((Unit)⊕(Bool))) := bif decide (x2<(↑x0.t.length:Int)) then bif decide ((0:Int)<=x2) then bif decide (x2<(↑x0.t.length:Int)) then bif decide ((0:Int)<=x2) then bif decide (x2<(↑x1.t.length:Int)) then match ZhD (x0.t.getD x2.toNat Zax,x1.t.getD x2.toNat Zax) with
 | some y1 => bif !y1 then some (Sum.inr (Sum.inr false)) else some (Sum.inl (x0,x1,Zaf IntKind.i64 (x2+(1:Int))))
 | none=>none else none else none else none else none else some (Sum.inr (Sum.inl ()))
def ZeP (x:Wld×Wld×Int):Option ((Wld×Wld×Int)⊕((Unit)⊕(Bool))):=Ziz x.1 x.2.1 x.2.2
def ZmE (x:Wld×Wld×Int):Option ((Unit)⊕(Bool)):=Zav ZeP x
def Zk5 (x0:Wld) (x1:Wld):Option (Bool) := bif !(x0.c.threads == x1.c.threads && (x0.c.items == x1.c.items && (x0.c.backend == x1.c.backend && (x0.c.depth == x1.c.depth && (x0.c.layers == x1.c.layers && (x0.c.width == x1.c.width && (x0.c.spin == x1.c.spin && (x0.c.wait == x1.c.wait && (x0.c.bounded == x1.c.bounded && (x0.c.lo == x1.c.lo && (x0.c.hi == x1.c.hi && (x0.c.init == x1.c.init && true)))))))))))) then some (false) else bif x0.now != x1.now then some (false) else bif x0.steps != x1.steps then some (false) else bif (↑x0.t.length:Int) != (↑x1.t.length:Int) then some (false) else match Zhy (x0.m,x1.m) with
 | some y1 => bif !y1 then some (false) else match Zho (x0.tape,x1.tape) with
  | some y2 => bif !y2 then some (false) else match ZgO (x0.log,x1.log) with
   | some y3 => bif !y3 then some (false) else match ZiF (x0.hist,x1.hist) with
    | some y4 => bif !y4 then some (false) else match ZmE (x0,x1,(0:Int)) with
     | some (.inl y5) => some (true)
     | some (.inr y6) => some (y6)
     | none=>none
    | none=>none
   | none=>none
  | none=>none
 | none=>none
def ZeZ (x:Wld×Wld):Option (Bool):=Zk5 x.1 x.2
def Zgu (x0:List Entry) (x1:List Entry) (x2:Int):Option (((List Entry)×(List Entry)×Int)⊕(((List Entry)))) := bif decide (x2<(↑x0.length:Int)) then bif decide ((0:Int)<=x2) then bif decide (x2<(↑x0.length:Int)) then bif decide ((0:Int)<=x2) then bif decide (x2<(↑x0.length:Int)) then bif fewB (x1.length+(x0.getD x2.toNat Zch::([]:List Entry)).length) then some (Sum.inl (x0,x1++x0.getD x2.toNat Zch::([]:List Entry),Zaf IntKind.i64 (x2+(1:Int)))) else none else none else none else none else none else some (Sum.inr x1)
def ZdM (x:(List Entry)×(List Entry)×Int):Option (((List Entry)×(List Entry)×Int)⊕(((List Entry)))):=Zgu x.1 x.2.1 x.2.2
def Zj7 (x:(List Entry)×(List Entry)×Int):Option (((List Entry))):=Zav ZdM x
def ZfD (x0:List Entry):Option ((List Entry)) := match Zj7 (x0,([]:List Entry),(0:Int)) with
 | some y1 => some (y1)
 | none=>none
def Zen (x:(List Entry)):Option ((List Entry)):=ZfD x
def Zg4 (x0:Memo) (x1:Memo) (x2:Memo) (x3:Int):Option ((Memo×Memo×Memo×Int)⊕((Memo×Memo))) := bif decide (x3<(↑x0.boxes.length:Int)) then bif decide ((0:Int)<=x3) then bif decide (x3<(↑x0.boxes.length:Int)) then match Zen (x0.boxes.getD x3.toNat ([]:List Entry)) with
 | some y1 => bif fewB (x2.boxes.length+(y1::([]:List (List Entry))).length) then some (Sum.inl (x0,x1,{ x2 with boxes:=x2.boxes++y1::([]:List (List Entry)) },Zaf IntKind.i64 (x3+(1:Int)))) else none
 | none=>none else none else none else some (Sum.inr (x1,x2))
def Zd4 (x:Memo×Memo×Memo×Int):Option ((Memo×Memo×Memo×Int)⊕((Memo×Memo))):=Zg4 x.1 x.2.1 x.2.2.1 x.2.2.2
def Zli (x:Memo×Memo×Memo×Int):Option ((Memo×Memo)):=Zav Zd4 x
def ZiW (x0:Memo):Option (Memo) := match Zli (x0,Memo.mk ([]:List Int) ([]:List (List Entry)),{ x0 with boxes:=([]:List (List Entry)) },(0:Int)) with
 | some y1 => some (y1.snd)
 | none=>none
def Zix (x:Memo):Option (Memo):=ZiW x
def ZhT (x0:List Mark) (x1:List Mark) (x2:Int):Option (((List Mark)×(List Mark)×Int)⊕(((List Mark)))) := bif decide (x2<(↑x0.length:Int)) then bif decide ((0:Int)<=x2) then bif decide (x2<(↑x0.length:Int)) then bif decide ((0:Int)<=x2) then bif decide (x2<(↑x0.length:Int)) then bif decide ((0:Int)<=x2) then bif decide (x2<(↑x0.length:Int)) then bif decide ((0:Int)<=x2) then bif decide (x2<(↑x0.length:Int)) then bif decide ((0:Int)<=x2) then bif decide (x2<(↑x0.length:Int)) then bif fewB (x1.length+(x0.getD x2.toNat ZaZ::([]:List Mark)).length) then some (Sum.inl (x0,x1++x0.getD x2.toNat ZaZ::([]:List Mark),Zaf IntKind.i64 (x2+(1:Int)))) else none else none else none else none else none else none else none else none else none else none else none else some (Sum.inr x1)
def Zew (x:(List Mark)×(List Mark)×Int):Option (((List Mark)×(List Mark)×Int)⊕(((List Mark)))):=ZhT x.1 x.2.1 x.2.2
def Zlx (x:(List Mark)×(List Mark)×Int):Option (((List Mark))):=Zav Zew x
def Zjx (x0:List Mark):Option ((List Mark)) := match Zlx (x0,([]:List Mark),(0:Int)) with
 | some y1 => some (y1)
 | none=>none
def ZjT (x:(List Mark)):Option ((List Mark)):=Zjx x
def ZhE (x0:Thread) (x1:Thread) (x2:Thread) (x3:Int):Option ((Thread×Thread×Thread×Int)⊕((Thread×Thread))) := bif decide (x3<(↑x0.kids.length:Int)) then bif decide ((0:Int)<=x3) then bif decide (x3<(↑x0.kids.length:Int)) then bif fewB (x2.kids.length+(x0.kids.getD x3.toNat dKid::([]:List Kid)).length) then some (Sum.inl (x0,x1,{ x2 with kids:=x2.kids++x0.kids.getD x3.toNat dKid::([]:List Kid) },Zaf IntKind.i64 (x3+(1:Int)))) else none else none else none else some (Sum.inr (x1,x2))
def Zet (x:Thread×Thread×Thread×Int):Option ((Thread×Thread×Thread×Int)⊕((Thread×Thread))):=ZhE x.1 x.2.1 x.2.2.1 x.2.2.2
def ZlM (x:Thread×Thread×Thread×Int):Option ((Thread×Thread)):=Zav Zet x
def Zj3 (x0:Thread):Option (Thread) := match Zen x0.batch with
 | some y1 => match ZlM (x0,Thread.mk (0:Int) (0:Int) (Op.mk (0:Int) (0:Int)) ([]:List Entry) ([]:List Kid) ([]:List Int) (0:Int) (0:Int) (0:Int) (0:Int) (0:Int) (0:Int) (0:Int) (0:Int) (0:Int) (0:Int),{ x0 with batch:=y1,kids:=([]:List Kid) },(0:Int)) with
  | some y2 => some (y2.snd)
  | none=>none
 | none=>none
def ZjN (x:Thread):Option (Thread):=Zj3 x
def Zg7 (x0:Wld) (x1:Wld) (x2:Wld) (x3:Int):Option ((Wld×Wld×Wld×Int)⊕((Wld×Wld))) := bif decide (x3<(↑x0.hist.length:Int)) then bif decide ((0:Int)<=x3) then bif decide (x3<(↑x0.hist.length:Int)) then bif fewB (x2.hist.length+(x0.hist.getD x3.toNat Zbb::([]:List Event)).length) then some (Sum.inl (x0,x1,{ x2 with hist:=x2.hist++x0.hist.getD x3.toNat Zbb::([]:List Event) },Zaf IntKind.i64 (x3+(1:Int)))) else none else none else none else some (Sum.inr (x1,x2))
def ZdY (x:Wld×Wld×Wld×Int):Option ((Wld×Wld×Wld×Int)⊕((Wld×Wld))):=Zg7 x.1 x.2.1 x.2.2.1 x.2.2.2
def ZkL (x:Wld×Wld×Wld×Int):Option ((Wld×Wld)):=Zav ZdY x
def Zg3 (x0:Wld) (x1:Wld) (x2:Wld) (x3:Int):Option ((Wld×Wld×Wld×Int)⊕((Wld×Wld×Wld))) := bif decide (x3<(↑x0.t.length:Int)) then bif decide ((0:Int)<=x3) then bif decide (x3<(↑x0.t.length:Int)) then match ZjN (x0.t.getD x3.toNat Zax) with
 | some y1 => bif fewB (x2.t.length+(y1::([]:List Thread)).length) then some (Sum.inl (x0,x1,{ x2 with t:=x2.t++y1::([]:List Thread) },Zaf IntKind.i64 (x3+(1:Int)))) else none
 | none=>none else none else none else some (Sum.inr (x0,x1,x2))
def Zd3 (x:Wld×Wld×Wld×Int):Option ((Wld×Wld×Wld×Int)⊕((Wld×Wld×Wld))):=Zg3 x.1 x.2.1 x.2.2.1 x.2.2.2
def ZkC (x:Wld×Wld×Wld×Int):Option ((Wld×Wld×Wld)):=Zav Zd3 x
def Zil (x0:Wld):Option (Wld) := match Zix x0.m with
 | some y1 => match ZjT x0.log with
  | some y2 => match ZkC (x0,Wld.mk (Config.mk (0:Int) (0:Int) (0:Int) (0:Int) (0:Int) (0:Int) (0:Int) (0:Int) false (0:Int) (0:Int) (0:Int)) (Memo.mk ([]:List Int) ([]:List (List Entry))) ([]:List Thread) (0:Int) (0:Int) (Tape.mk ([]:List Int) (0:Int)) ([]:List Mark) ([]:List Event),{ x0 with m:=y1,t:=([]:List Thread),log:=y2,hist:=([]:List Event) },(0:Int)) with
   | some y3 => match ZkL (y3.fst,y3.snd.fst,y3.snd.snd,(0:Int)) with
    | some y4 => some (y4.snd)
    | none=>none
   | none=>none
  | none=>none
 | none=>none
def Zck (x:Wld):Option (Wld):=Zil x
def Zr6 (x0:Int) (x1:List Thread) (x2:Int) (x3:Int):Option ((Int×(List Thread)×Int×Int)⊕((Int))) := bif decide (x3<x2) then bif decide ((0:Int)<=x3) then bif decide (x3<(↑x1.length:Int)) then match Zbn (x1.getD x3.toNat Zax) with
 | some y1 => bif y1 then some (Sum.inl (Zaf IntKind.i64 (x0+(1:Int)),x1,x2,Zaf IntKind.i64 (x3+(1:Int)))) else some (Sum.inl (x0,x1,x2,Zaf IntKind.i64 (x3+(1:Int))))
 | none=>none else none else none else some (Sum.inr x0)
def ZiQ (x:Int×(List Thread)×Int×Int):Option ((Int×(List Thread)×Int×Int)⊕((Int))):=Zr6 x.1 x.2.1 x.2.2.1 x.2.2.2
def ZrD (x:Int×(List Thread)×Int×Int):Option ((Int)):=Zav ZiQ x
def Zt5 (x0:Wld):Option (Int) := match ZrD ((0:Int),x0.t,(↑x0.t.length:Int),(0:Int)) with
 | some y1 => some (y1)
 | none=>none
def Zvt (x:Wld):Option (Int):=Zt5 x
def Zsg (x0:Wld) (x1:Int) (x2:Int):Option ((Wld×Int×Int)⊕((Int))) := bif decide (x2<(↑x0.t.length:Int)) then bif decide ((0:Int)<=x2) then bif decide (x2<(↑x0.t.length:Int)) then match Zhr (x0.t.getD x2.toNat Zax) with
 | some y1 => bif y1 then some (Sum.inl (x0,Zaf IntKind.i64 (x1+(1:Int)),Zaf IntKind.i64 (x2+(1:Int)))) else some (Sum.inl (x0,x1,Zaf IntKind.i64 (x2+(1:Int))))
 | none=>none else none else none else some (Sum.inr x1)
def Zis (x:Wld×Int×Int):Option ((Wld×Int×Int)⊕((Int))):=Zsg x.1 x.2.1 x.2.2
def ZrY (x:Wld×Int×Int):Option ((Int)):=Zav Zis x
def ZuP (x0:Wld):Option (Int) := match ZrY (x0,(0:Int),(0:Int)) with
 | some y1 => some (y1)
 | none=>none
def Zus (x:Wld):Option (Int):=ZuP x
def Zrf (x0:Config) (x1:Wld) (x2:Config) (x3:Int) (x4:Int) (x5:Int):Option ((Config×Wld×Config×Int×Int×Int)⊕((Config×Wld×Config×Int×Int)⊕(Bool))) := bif decide (x5<(↑x1.log.length:Int)) then bif decide ((0:Int)<=x5) then bif decide (x5<(↑x1.log.length:Int)) then bif (x1.log.getD x5.toNat ZaZ).item != x3 then some (Sum.inl (x0,x1,x2,x3,x4,Zaf IntKind.i64 (x5+(1:Int)))) else bif (x1.log.getD x5.toNat ZaZ).prior != x4 then some (Sum.inr (Sum.inr false)) else bif decide (x5>(0:Int)) then bif decide ((0:Int)<=Zaf IntKind.i64 (x5-(1:Int))) then bif decide (Zaf IntKind.i64 (x5-(1:Int))<(↑x1.log.length:Int)) then bif decide ((x1.log.getD x5.toNat ZaZ).step<(x1.log.getD (Zaf IntKind.i64 (x5-(1:Int))).toNat ZaZ).step) then some (Sum.inr (Sum.inr false)) else match Zc7 ((x1.log.getD x5.toNat ZaZ).op,x4,x0.lo,x0.hi) with
  | some y1 => bif x0.bounded then bif decide (y1.fst<x0.lo) then some (Sum.inr (Sum.inr false)) else bif decide (y1.fst>x0.hi) then some (Sum.inr (Sum.inr false)) else some (Sum.inl (x0,x1,x2,x3,y1.fst,Zaf IntKind.i64 (x5+(1:Int)))) else some (Sum.inl (x0,x1,x2,x3,y1.fst,Zaf IntKind.i64 (x5+(1:Int))))
  | none=>none else none else none else match Zc7 ((x1.log.getD x5.toNat ZaZ).op,x4,x0.lo,x0.hi) with
 | some y1 => bif x0.bounded then bif decide (y1.fst<x0.lo) then some (Sum.inr (Sum.inr false)) else bif decide (y1.fst>x0.hi) then some (Sum.inr (Sum.inr false)) else some (Sum.inl (x0,x1,x2,x3,y1.fst,Zaf IntKind.i64 (x5+(1:Int)))) else some (Sum.inl (x0,x1,x2,x3,y1.fst,Zaf IntKind.i64 (x5+(1:Int))))
 | none=>none else none else none else some (Sum.inr (Sum.inl (x0,x1,x2,x3,x4)))
def Zh3 (x:Config×Wld×Config×Int×Int×Int):Option ((Config×Wld×Config×Int×Int×Int)⊕((Config×Wld×Config×Int×Int)⊕(Bool))):=Zrf x.1 x.2.1 x.2.2.1 x.2.2.2.1 x.2.2.2.2.1 x.2.2.2.2.2
def Zq8 (x:Config×Wld×Config×Int×Int×Int):Option ((Config×Wld×Config×Int×Int)⊕(Bool)):=Zav Zh3 x
def Zrg (x0:Config) (x1:Wld) (x2:Config) (x3:Int):Option ((Config×Wld×Config×Int)⊕((Unit)⊕(Bool))) := bif decide (x3<x0.items) then match Zq8 (x0,x1,x2,x3,x0.init,(0:Int)) with
 | some (.inl y1) => match ZeE (y1.snd.snd.fst,y1.snd.snd.snd.fst) with
  | some y2 => bif decide ((0:Int)<=y2) then bif decide (y2<(↑y1.snd.fst.m.words.length:Int)) then bif y1.snd.fst.m.words.getD (Int.toNat y2) (0:Int) != y1.snd.snd.snd.snd then some (Sum.inr (Sum.inr false)) else some (Sum.inl (y1.fst,y1.snd.fst,y1.snd.snd.fst,Zaf IntKind.i64 (y1.snd.snd.snd.fst+(1:Int)))) else none else none
  | none=>none
 | some (.inr y2) => some (Sum.inr (Sum.inr y2))
 | none=>none else some (Sum.inr (Sum.inl ()))
def Zhv (x:Config×Wld×Config×Int):Option ((Config×Wld×Config×Int)⊕((Unit)⊕(Bool))):=Zrg x.1 x.2.1 x.2.2.1 x.2.2.2
def Zqf (x:Config×Wld×Config×Int):Option ((Unit)⊕(Bool)):=Zav Zhv x
def ZtF (x0:Config) (x1:Wld):Option (Bool) := match ZfY x0 with
 | some y1 => bif (↑x1.m.words.length:Int) != y1 then some (false) else bif decide ((↑x1.log.length:Int)>(1000:Int)) then some (false) else match Zqf (x0,x1,x0,(0:Int)) with
  | some (.inl y2) => some (true)
  | some (.inr y3) => some (y3)
  | none=>none
 | none=>none
def Ztl (x:Config×Wld):Option (Bool):=ZtF x.1 x.2
def Zn6 (x0:Config) (x1:Wld) (x2:Int) (x3:List Mark) (x4:Int) (x5:Bool) (x6:Event) (x7:Int):Option ((Config×Wld×Int×(List Mark)×Int×Bool×Event×Int)⊕((Config×Wld×Int×(List Mark)×Int×Bool×Event)⊕(Bool))) := bif decide (x7<(↑x1.hist.length:Int)) then bif decide ((0:Int)<=x7) then bif decide (x7<(↑x1.hist.length:Int)) then bif (x1.hist.getD x7.toNat Zbb).t != x2 then some (Sum.inl (x0,x1,x2,x3,x4,x5,x6,Zaf IntKind.i64 (x7+(1:Int)))) else bif (x1.hist.getD x7.toNat Zbb).kind == (3:Int) then some (Sum.inl (x0,x1,x2,x3,x4,x5,x6,Zaf IntKind.i64 (x7+(1:Int)))) else bif ((x1.hist.getD x7.toNat Zbb).kind == (1:Int)) == x5 then some (Sum.inr (Sum.inr false)) else bif (x1.hist.getD x7.toNat Zbb).kind == (1:Int) then some (Sum.inl (x0,x1,x2,x3,x4,true,x1.hist.getD x7.toNat Zbb,Zaf IntKind.i64 (x7+(1:Int)))) else match Zc7 ((x1.hist.getD x7.toNat Zbb).op,(x1.hist.getD x7.toNat Zbb).prior,x0.lo,x0.hi) with
 | some y1 => bif decide (x4>=(↑x3.length:Int)) then some (Sum.inr (Sum.inr false)) else bif decide ((0:Int)<=x4) then bif decide (x4<(↑x3.length:Int)) then bif !((x3.getD x4.toNat ZaZ).op.tag == (x1.hist.getD x7.toNat Zbb).op.tag && ((x3.getD x4.toNat ZaZ).op.v == (x1.hist.getD x7.toNat Zbb).op.v && true)) then some (Sum.inr (Sum.inr false)) else bif decide ((0:Int)<=x4) then bif decide (x4<(↑x3.length:Int)) then bif (x3.getD x4.toNat ZaZ).item != (x1.hist.getD x7.toNat Zbb).item then some (Sum.inr (Sum.inr false)) else bif decide ((0:Int)<=x4) then bif decide (x4<(↑x3.length:Int)) then bif (x3.getD x4.toNat ZaZ).prior != (x1.hist.getD x7.toNat Zbb).prior then some (Sum.inr (Sum.inr false)) else bif !(x1.hist.getD x7.toNat Zbb).did == y1.snd then some (Sum.inr (Sum.inr false)) else bif !(x6.op.tag == (x1.hist.getD x7.toNat Zbb).op.tag && (x6.op.v == (x1.hist.getD x7.toNat Zbb).op.v && true)) then some (Sum.inr (Sum.inr false)) else bif x6.item != (x1.hist.getD x7.toNat Zbb).item then some (Sum.inr (Sum.inr false)) else bif decide ((0:Int)<=x4) then bif decide (x4<(↑x3.length:Int)) then bif decide ((x3.getD x4.toNat ZaZ).step<=x6.step) then some (Sum.inr (Sum.inr false)) else bif decide ((0:Int)<=x4) then bif decide (x4<(↑x3.length:Int)) then bif decide ((x3.getD x4.toNat ZaZ).step>(x1.hist.getD x7.toNat Zbb).step) then some (Sum.inr (Sum.inr false)) else some (Sum.inl (x0,x1,x2,x3,Zaf IntKind.i64 (x4+(1:Int)),false,x6,Zaf IntKind.i64 (x7+(1:Int)))) else none else none else none else none else none else none else none else none else none else none
 | none=>none else none else none else some (Sum.inr (Sum.inl (x0,x1,x2,x3,x4,x5,x6)))
def Zf5 (x:Config×Wld×Int×(List Mark)×Int×Bool×Event×Int):Option ((Config×Wld×Int×(List Mark)×Int×Bool×Event×Int)⊕((Config×Wld×Int×(List Mark)×Int×Bool×Event)⊕(Bool))):=Zn6 x.1 x.2.1 x.2.2.1 x.2.2.2.1 x.2.2.2.2.1 x.2.2.2.2.2.1 x.2.2.2.2.2.2.1 x.2.2.2.2.2.2.2
def ZnZ (x:Config×Wld×Int×(List Mark)×Int×Bool×Event×Int):Option ((Config×Wld×Int×(List Mark)×Int×Bool×Event)⊕(Bool)):=Zav Zf5 x
def Zpg (x0:Config) (x1:Wld) (x2:Int) (x3:List Mark) (x4:Int):Option ((Config×Wld×Int×(List Mark)×Int)⊕((Config×Wld×Int×(List Mark)))) := bif decide (x4<(↑x1.log.length:Int)) then bif decide ((0:Int)<=x4) then bif decide (x4<(↑x1.log.length:Int)) then bif (x1.log.getD x4.toNat ZaZ).t == x2 then bif decide ((0:Int)<=x4) then bif decide (x4<(↑x1.log.length:Int)) then bif fewB (x3.length+(x1.log.getD x4.toNat ZaZ::([]:List Mark)).length) then some (Sum.inl (x0,x1,x2,x3++x1.log.getD x4.toNat ZaZ::([]:List Mark),Zaf IntKind.i64 (x4+(1:Int)))) else none else none else none else some (Sum.inl (x0,x1,x2,x3,Zaf IntKind.i64 (x4+(1:Int)))) else none else none else some (Sum.inr (x0,x1,x2,x3))
def Zgv (x:Config×Wld×Int×(List Mark)×Int):Option ((Config×Wld×Int×(List Mark)×Int)⊕((Config×Wld×Int×(List Mark)))):=Zpg x.1 x.2.1 x.2.2.1 x.2.2.2.1 x.2.2.2.2
def Zpf (x:Config×Wld×Int×(List Mark)×Int):Option ((Config×Wld×Int×(List Mark))):=Zav Zgv x
def Zph (x0:Config) (x1:Wld) (x2:Int):Option ((Config×Wld×Int)⊕((Unit)⊕(Bool))) := bif decide (x2<x0.threads) then match Zpf (x0,x1,x2,([]:List Mark),(0:Int)) with
 | some y1 => match ZnZ (y1.fst,y1.snd.fst,y1.snd.snd.fst,y1.snd.snd.snd,(0:Int),false,Event.mk (0:Int) (0:Int) (0:Int) (Op.mk (0:Int) (0:Int)) (0:Int) false (0:Int),(0:Int)) with
  | some (.inl y2) => bif (↑(List.length y2.snd.snd.snd.fst):Int) != y2.snd.snd.snd.snd.fst then bif !y2.snd.snd.snd.snd.snd.fst then some (Sum.inr (Sum.inr false)) else bif (↑(List.length y2.snd.snd.snd.fst):Int) != Zaf IntKind.i64 (y2.snd.snd.snd.snd.fst+(1:Int)) then some (Sum.inr (Sum.inr false)) else bif decide ((0:Int)<=y2.snd.snd.snd.snd.fst) then bif decide (y2.snd.snd.snd.snd.fst<(↑(List.length y2.snd.snd.snd.fst):Int)) then bif !((List.getD y2.snd.snd.snd.fst (Int.toNat y2.snd.snd.snd.snd.fst) ZaZ).op.tag == y2.snd.snd.snd.snd.snd.snd.op.tag && ((List.getD y2.snd.snd.snd.fst (Int.toNat y2.snd.snd.snd.snd.fst) ZaZ).op.v == y2.snd.snd.snd.snd.snd.snd.op.v && true)) then some (Sum.inr (Sum.inr false)) else bif decide ((0:Int)<=y2.snd.snd.snd.snd.fst) then bif decide (y2.snd.snd.snd.snd.fst<(↑(List.length y2.snd.snd.snd.fst):Int)) then bif (List.getD y2.snd.snd.snd.fst (Int.toNat y2.snd.snd.snd.snd.fst) ZaZ).item != y2.snd.snd.snd.snd.snd.snd.item then some (Sum.inr (Sum.inr false)) else bif decide ((0:Int)<=y2.snd.snd.snd.snd.fst) then bif decide (y2.snd.snd.snd.snd.fst<(↑(List.length y2.snd.snd.snd.fst):Int)) then bif decide ((List.getD y2.snd.snd.snd.fst (Int.toNat y2.snd.snd.snd.snd.fst) ZaZ).step<=y2.snd.snd.snd.snd.snd.snd.step) then some (Sum.inr (Sum.inr false)) else some (Sum.inl (y2.fst,y2.snd.fst,Zaf IntKind.i64 (y2.snd.snd.fst+(1:Int)))) else none else none else none else none else none else none else some (Sum.inl (y2.fst,y2.snd.fst,Zaf IntKind.i64 (y2.snd.snd.fst+(1:Int))))
  | some (.inr y3) => some (Sum.inr (Sum.inr y3))
  | none=>none
 | none=>none else some (Sum.inr (Sum.inl ()))
def Zgp (x:Config×Wld×Int):Option ((Config×Wld×Int)⊕((Unit)⊕(Bool))):=Zph x.1 x.2.1 x.2.2
def Zo9 (x:Config×Wld×Int):Option ((Unit)⊕(Bool)):=Zav Zgp x
def Zro (x0:Config) (x1:Wld):Option (Bool) := bif decide ((↑x1.hist.length:Int)>(1000:Int)) then some (false) else match Zo9 (x0,x1,(0:Int)) with
 | some (.inl y1) => some (true)
 | some (.inr y2) => some (y2)
 | none=>none
def Zqm (x:Config×Wld):Option (Bool):=Zro x.1 x.2
def Zh6 (x0:Turn):Option (Turn) := bif x0.c.backend == (2:Int) then bif decide (x0.c.depth>(0:Int)) then some ({ x0 with th:={ x0.th with phase:=(4:Int) } }) else bif x0.c.backend == (3:Int) then bif decide (x0.c.layers>(0:Int)) then some ({ x0 with th:={ x0.th with phase:=(17:Int),layer:=(1:Int) } }) else some ({ x0 with th:={ x0.th with phase:=(2:Int) } }) else some ({ x0 with th:={ x0.th with phase:=(2:Int) } }) else bif x0.c.backend == (3:Int) then bif decide (x0.c.layers>(0:Int)) then some ({ x0 with th:={ x0.th with phase:=(17:Int),layer:=(1:Int) } }) else some ({ x0 with th:={ x0.th with phase:=(2:Int) } }) else some ({ x0 with th:={ x0.th with phase:=(2:Int) } })
def ZfH (x:Turn):Option (Turn):=Zh6 x
def Zdj (x0:List Int):Option ((List Int)) := bif fewB ((0:Nat)+x0.length) then some (x0) else none
def ZbB (x:(List Int)):Option ((List Int)):=Zdj x
def Zfn (x0:List Int) (x1:Int):Option (Int×Int) := bif decide (x1<(0:Int)) then some (((0:Int),(30:Int))) else bif decide (x1>=(↑x0.length:Int)) then some (((0:Int),(30:Int))) else bif decide ((0:Int)<=x1) then bif decide (x1<(↑x0.length:Int)) then some ((x0.getD x1.toNat (0:Int),(0:Int))) else none else none
def ZbF (x:(List Int)×Int):Option (Int×Int):=Zfn x.1 x.2
def ZfP (x0:Memo) (x1:Int) (x2:Int):Option (Memo×Int) := match ZbF (x0.words,x1) with
 | some y1 => bif y1.snd != (0:Int) then some ((x0,y1.snd)) else match ZbB x0.words with
  | some y2 => bif decide ((0:Int)<=x1) then bif decide (x1<(↑(List.length y2):Int)) then some (({ x0 with words:=List.set y2 x1.toNat x2 },y1.snd)) else none else none
  | none=>none
 | none=>none
def Zb9 (x:Memo×Int×Int):Option (Memo×Int):=ZfP x.1 x.2.1 x.2.2
def Zlk (x0:Config) (x1:Int):Option (Int) := bif decide (x1<(0:Int)) then some ((-1:Int)) else bif decide (x1>=x0.threads) then some ((-1:Int)) else match Zco x0 with
 | some y1 => some (Zaf IntKind.i64 (y1.lines+Zaf IntKind.i64 ((2:Int)*x1)))
 | none=>none
def Zc4 (x:Config×Int):Option (Int):=Zlk x.1 x.2
def Zh8 (x0:Turn):Option (Turn×Bool) := bif x0.th.phase != (1:Int) then some ((x0,false)) else match Zc4 (x0.c,x0.t) with
 | some y1 => match Zb9 (x0.m,y1,(0:Int)) with
  | some y2 => bif y2.snd != (0:Int) then some ((x0,true)) else match ZfH { x0 with m:=y2.fst } with
   | some y3 => some ((y3,true))
   | none=>none
  | none=>none
 | none=>none
def Zib (x:Turn):Option (Turn×Bool):=Zh8 x
def ZkU (x0:Config) (x1:Int) (x2:Int):Option (Int) := bif decide (x1<(0:Int)) then some ((-1:Int)) else bif decide (x1>=x0.items) then some ((-1:Int)) else match Zfg x0 with
 | some y1 => bif decide (x2<(1:Int)) then some ((-1:Int)) else bif decide (x2>=Zaf IntKind.i64 ((1:Int)+y1)) then some ((-1:Int)) else match Zco x0 with
  | some y2 => some (Zaf IntKind.i64 (Zaf IntKind.i64 (x1*y2.block)+x2))
  | none=>none
 | none=>none
def ZdZ (x:Config×Int×Int):Option (Int):=ZkU x.1 x.2.1 x.2.2
def Zdd (x0:Said):Option (Int) :=
 some (Zaf IntKind.i64 (Zaf IntKind.i64 ((8:Int)*Zaf IntKind.i64 (x0.n+(1:Int)))+x0.kind))
def ZbS (x:Said):Option (Int):=Zdd x
def ZkQ (x0:Int):Option (Int) := match ZbS (Said.mk (1:Int) x0) with
 | some y1 => some (y1)
 | none=>none
def ZeO (x:Int):Option (Int):=ZkQ x
def Zmi (x0:Int):Option (Int) :=
 some ((if (0:Int)>x0 then (0:Int) else x0).fdiv ((2:Int) ^ min (Int.toNat (1:Int)) IntKind.i64.bits))
def Ziq (x:Int):Option (Int):=Zmi x
def ZkB (x0:Turn):Option (Turn) := bif decide (x0.th.stop>(0:Int)) then bif decide (x0.th.at_>=(0:Int)) then bif decide (x0.th.at_<(↑x0.th.held.length:Int)) then some ({ x0 with th:={ x0.th with phase:=(7:Int) } }) else some ({ x0 with th:={ x0.th with phase:=(11:Int) } }) else some ({ x0 with th:={ x0.th with phase:=(11:Int) } }) else bif decide (x0.th.at_>=(0:Int)) then bif decide (x0.th.at_<(↑x0.th.held.length:Int)) then some ({ x0 with th:={ x0.th with phase:=(7:Int) } }) else some ({ x0 with th:={ x0.th with phase:=(2:Int) } }) else some ({ x0 with th:={ x0.th with phase:=(2:Int) } })
def ZfX (x:Turn):Option (Turn):=ZkB x
def Zlb (x0:Turn):Option (Turn) := match ZfX { x0 with th:={ x0.th with at_:=(0:Int) } } with
 | some y1 => some (y1)
 | none=>none
def ZdX (x:Turn):Option (Turn):=Zlb x
def Zj1 (x0:Turn):Option (Turn) := match ZbB x0.th.held with
 | some y1 => bif fewB (List.length y1+(x0.th.node::([]:List Int)).length) then match Ziq x0.th.node with
  | some y2 => bif decide (y2>(0:Int)) then some ({ x0 with th:={ x0.th with held:=y1++x0.th.node::([]:List Int),node:=y2 } }) else match ZdX { x0 with th:={ x0.th with held:=y1++x0.th.node::([]:List Int),node:=y2 } } with
   | some y3 => some (y3)
   | none=>none
  | none=>none else none
 | none=>none
def ZjA (x:Turn):Option (Turn):=Zj1 x
def Zh7 (x0:Memo) (x1:Int) (x2:Int) (x3:Int):Option (Memo×Bool×Int) := match ZbF (x0.words,x1) with
 | some y1 => bif y1.snd != (0:Int) then some ((x0,false,y1.snd)) else bif y1.fst == x2 then match ZbB x0.words with
  | some y2 => bif decide ((0:Int)<=x1) then bif decide (x1<(↑(List.length y2):Int)) then some (({ x0 with words:=List.set y2 x1.toNat x3 },y1.fst == x2,y1.snd)) else none else none
  | none=>none else some ((x0,y1.fst == x2,y1.snd))
 | none=>none
def ZcP (x:Memo×Int×Int×Int):Option (Memo×Bool×Int):=Zh7 x.1 x.2.1 x.2.2.1 x.2.2.2
def Zfr (x0:Memo) (x1:Int):Option (Int×Int) := match ZbF (x0.words,x1) with
 | some y1 => some (y1)
 | none=>none
def Zcd (x:Memo×Int):Option (Int×Int):=Zfr x.1 x.2
def ZjQ (x0:Turn):Option (Bool) := bif decide ((0:Int)<x0.th.until_) then some (decide (x0.th.until_<=x0.now)) else some (false)
def Zdz (x:Turn):Option (Bool):=ZjQ x
def Zoc (x0:Int):Option (Said) := bif Zaf IntKind.i64 (↑(BitVec.ofInt IntKind.i64.bits x0 &&& BitVec.ofInt IntKind.i64.bits (7:Int)).toNat:Int) == (5:Int) && (Zaf IntKind.i64 (x0.fdiv ((2:Int) ^ min (Int.toNat (3:Int)) IntKind.i64.bits)-(1:Int)) == (-1:Int) && true) then some (Said.mk (Zaf IntKind.i64 (↑(BitVec.ofInt IntKind.i64.bits x0 &&& BitVec.ofInt IntKind.i64.bits (7:Int)).toNat:Int)) (Zaf IntKind.i64 (x0.fdiv ((2:Int) ^ min (Int.toNat (3:Int)) IntKind.i64.bits)-(1:Int)))) else bif decide (Zaf IntKind.i64 (↑(BitVec.ofInt IntKind.i64.bits x0 &&& BitVec.ofInt IntKind.i64.bits (7:Int)).toNat:Int)>=(1:Int)) then bif decide (Zaf IntKind.i64 (↑(BitVec.ofInt IntKind.i64.bits x0 &&& BitVec.ofInt IntKind.i64.bits (7:Int)).toNat:Int)<=(3:Int)) then bif decide (Zaf IntKind.i64 (x0.fdiv ((2:Int) ^ min (Int.toNat (3:Int)) IntKind.i64.bits)-(1:Int))>=(0:Int)) then bif decide (Zaf IntKind.i64 (x0.fdiv ((2:Int) ^ min (Int.toNat (3:Int)) IntKind.i64.bits)-(1:Int))<(16:Int)) then some (Said.mk (Zaf IntKind.i64 (↑(BitVec.ofInt IntKind.i64.bits x0 &&& BitVec.ofInt IntKind.i64.bits (7:Int)).toNat:Int)) (Zaf IntKind.i64 (x0.fdiv ((2:Int) ^ min (Int.toNat (3:Int)) IntKind.i64.bits)-(1:Int)))) else bif Zaf IntKind.i64 (↑(BitVec.ofInt IntKind.i64.bits x0 &&& BitVec.ofInt IntKind.i64.bits (7:Int)).toNat:Int) == (4:Int) then bif decide ((Zaf IntKind.i64 (x0.fdiv ((2:Int) ^ min (Int.toNat (3:Int)) IntKind.i64.bits)-(1:Int))).fdiv ((2:Int) ^ min (Int.toNat (4:Int)) IntKind.i64.bits)>=(0:Int)) then bif decide ((Zaf IntKind.i64 (x0.fdiv ((2:Int) ^ min (Int.toNat (3:Int)) IntKind.i64.bits)-(1:Int))).fdiv ((2:Int) ^ min (Int.toNat (4:Int)) IntKind.i64.bits)<(4:Int)) then bif decide (Zaf IntKind.i64 (↑(BitVec.ofInt IntKind.i64.bits (Zaf IntKind.i64 (x0.fdiv ((2:Int) ^ min (Int.toNat (3:Int)) IntKind.i64.bits)-(1:Int))) &&& BitVec.ofInt IntKind.i64.bits (15:Int)).toNat:Int)>=(1:Int)) then bif decide (Zaf IntKind.i64 (↑(BitVec.ofInt IntKind.i64.bits (Zaf IntKind.i64 (x0.fdiv ((2:Int) ^ min (Int.toNat (3:Int)) IntKind.i64.bits)-(1:Int))) &&& BitVec.ofInt IntKind.i64.bits (15:Int)).toNat:Int)<=(3:Int)) then some (Said.mk (Zaf IntKind.i64 (↑(BitVec.ofInt IntKind.i64.bits x0 &&& BitVec.ofInt IntKind.i64.bits (7:Int)).toNat:Int)) (Zaf IntKind.i64 (x0.fdiv ((2:Int) ^ min (Int.toNat (3:Int)) IntKind.i64.bits)-(1:Int)))) else some (Said.mk (0:Int) (0:Int)) else some (Said.mk (0:Int) (0:Int)) else some (Said.mk (0:Int) (0:Int)) else some (Said.mk (0:Int) (0:Int)) else some (Said.mk (0:Int) (0:Int)) else bif Zaf IntKind.i64 (↑(BitVec.ofInt IntKind.i64.bits x0 &&& BitVec.ofInt IntKind.i64.bits (7:Int)).toNat:Int) == (4:Int) then bif decide ((Zaf IntKind.i64 (x0.fdiv ((2:Int) ^ min (Int.toNat (3:Int)) IntKind.i64.bits)-(1:Int))).fdiv ((2:Int) ^ min (Int.toNat (4:Int)) IntKind.i64.bits)>=(0:Int)) then bif decide ((Zaf IntKind.i64 (x0.fdiv ((2:Int) ^ min (Int.toNat (3:Int)) IntKind.i64.bits)-(1:Int))).fdiv ((2:Int) ^ min (Int.toNat (4:Int)) IntKind.i64.bits)<(4:Int)) then bif decide (Zaf IntKind.i64 (↑(BitVec.ofInt IntKind.i64.bits (Zaf IntKind.i64 (x0.fdiv ((2:Int) ^ min (Int.toNat (3:Int)) IntKind.i64.bits)-(1:Int))) &&& BitVec.ofInt IntKind.i64.bits (15:Int)).toNat:Int)>=(1:Int)) then bif decide (Zaf IntKind.i64 (↑(BitVec.ofInt IntKind.i64.bits (Zaf IntKind.i64 (x0.fdiv ((2:Int) ^ min (Int.toNat (3:Int)) IntKind.i64.bits)-(1:Int))) &&& BitVec.ofInt IntKind.i64.bits (15:Int)).toNat:Int)<=(3:Int)) then some (Said.mk (Zaf IntKind.i64 (↑(BitVec.ofInt IntKind.i64.bits x0 &&& BitVec.ofInt IntKind.i64.bits (7:Int)).toNat:Int)) (Zaf IntKind.i64 (x0.fdiv ((2:Int) ^ min (Int.toNat (3:Int)) IntKind.i64.bits)-(1:Int)))) else some (Said.mk (0:Int) (0:Int)) else some (Said.mk (0:Int) (0:Int)) else some (Said.mk (0:Int) (0:Int)) else some (Said.mk (0:Int) (0:Int)) else some (Said.mk (0:Int) (0:Int)) else bif Zaf IntKind.i64 (↑(BitVec.ofInt IntKind.i64.bits x0 &&& BitVec.ofInt IntKind.i64.bits (7:Int)).toNat:Int) == (4:Int) then bif decide ((Zaf IntKind.i64 (x0.fdiv ((2:Int) ^ min (Int.toNat (3:Int)) IntKind.i64.bits)-(1:Int))).fdiv ((2:Int) ^ min (Int.toNat (4:Int)) IntKind.i64.bits)>=(0:Int)) then bif decide ((Zaf IntKind.i64 (x0.fdiv ((2:Int) ^ min (Int.toNat (3:Int)) IntKind.i64.bits)-(1:Int))).fdiv ((2:Int) ^ min (Int.toNat (4:Int)) IntKind.i64.bits)<(4:Int)) then bif decide (Zaf IntKind.i64 (↑(BitVec.ofInt IntKind.i64.bits (Zaf IntKind.i64 (x0.fdiv ((2:Int) ^ min (Int.toNat (3:Int)) IntKind.i64.bits)-(1:Int))) &&& BitVec.ofInt IntKind.i64.bits (15:Int)).toNat:Int)>=(1:Int)) then bif decide (Zaf IntKind.i64 (↑(BitVec.ofInt IntKind.i64.bits (Zaf IntKind.i64 (x0.fdiv ((2:Int) ^ min (Int.toNat (3:Int)) IntKind.i64.bits)-(1:Int))) &&& BitVec.ofInt IntKind.i64.bits (15:Int)).toNat:Int)<=(3:Int)) then some (Said.mk (Zaf IntKind.i64 (↑(BitVec.ofInt IntKind.i64.bits x0 &&& BitVec.ofInt IntKind.i64.bits (7:Int)).toNat:Int)) (Zaf IntKind.i64 (x0.fdiv ((2:Int) ^ min (Int.toNat (3:Int)) IntKind.i64.bits)-(1:Int)))) else some (Said.mk (0:Int) (0:Int)) else some (Said.mk (0:Int) (0:Int)) else some (Said.mk (0:Int) (0:Int)) else some (Said.mk (0:Int) (0:Int)) else some (Said.mk (0:Int) (0:Int)) else bif Zaf IntKind.i64 (↑(BitVec.ofInt IntKind.i64.bits x0 &&& BitVec.ofInt IntKind.i64.bits (7:Int)).toNat:Int) == (4:Int) then bif decide ((Zaf IntKind.i64 (x0.fdiv ((2:Int) ^ min (Int.toNat (3:Int)) IntKind.i64.bits)-(1:Int))).fdiv ((2:Int) ^ min (Int.toNat (4:Int)) IntKind.i64.bits)>=(0:Int)) then bif decide ((Zaf IntKind.i64 (x0.fdiv ((2:Int) ^ min (Int.toNat (3:Int)) IntKind.i64.bits)-(1:Int))).fdiv ((2:Int) ^ min (Int.toNat (4:Int)) IntKind.i64.bits)<(4:Int)) then bif decide (Zaf IntKind.i64 (↑(BitVec.ofInt IntKind.i64.bits (Zaf IntKind.i64 (x0.fdiv ((2:Int) ^ min (Int.toNat (3:Int)) IntKind.i64.bits)-(1:Int))) &&& BitVec.ofInt IntKind.i64.bits (15:Int)).toNat:Int)>=(1:Int)) then bif decide (Zaf IntKind.i64 (↑(BitVec.ofInt IntKind.i64.bits (Zaf IntKind.i64 (x0.fdiv ((2:Int) ^ min (Int.toNat (3:Int)) IntKind.i64.bits)-(1:Int))) &&& BitVec.ofInt IntKind.i64.bits (15:Int)).toNat:Int)<=(3:Int)) then some (Said.mk (Zaf IntKind.i64 (↑(BitVec.ofInt IntKind.i64.bits x0 &&& BitVec.ofInt IntKind.i64.bits (7:Int)).toNat:Int)) (Zaf IntKind.i64 (x0.fdiv ((2:Int) ^ min (Int.toNat (3:Int)) IntKind.i64.bits)-(1:Int)))) else some (Said.mk (0:Int) (0:Int)) else some (Said.mk (0:Int) (0:Int)) else some (Said.mk (0:Int) (0:Int)) else some (Said.mk (0:Int) (0:Int)) else some (Said.mk (0:Int) (0:Int))
def Zjj (x:Int):Option (Said):=Zoc x
def Zl4 (x0:Int):Option (Int) := match Zjj x0 with
 | some y1 => bif x0 == (0:Int) then some (y1.kind) else bif !(y1.kind == (0:Int) && (y1.n == (0:Int) && true)) then some (y1.kind) else some ((-1:Int))
 | none=>none
def ZgC (x:Int):Option (Int):=Zl4 x
def Zlc (x0:Turn) (x1:Int):Option (Turn) := match ZgC x1 with
 | some y1 => bif y1 == (1:Int) then some ({ x0 with th:={ x0.th with phase:=(6:Int),x:=x1 } }) else bif y1 == (0:Int) then some ({ x0 with th:={ x0.th with phase:=(5:Int) } }) else match Zdz x0 with
  | some y2 => bif y2 then match ZdX x0 with
   | some y3 => some (y3)
   | none=>none else some (x0)
  | none=>none
 | none=>none
def Zkr (x:Turn×Int):Option (Turn):=Zlc x.1 x.2
def ZjM (x0:Int):Option (Int) := match ZbS (Said.mk (2:Int) x0) with
 | some y1 => some (y1)
 | none=>none
def Zjv (x:Int):Option (Int):=ZjM x
def Zi5 (x0:Turn):Option (Turn) := match ZdX { x0 with th:={ x0.th with stop:=x0.th.node } } with
 | some y1 => some (y1)
 | none=>none
def ZiP (x:Turn):Option (Turn):=Zi5 x
def Zk4 (x0:Turn):Option (Turn×Bool) := match ZdZ (x0.c,x0.th.item,x0.th.node) with
 | some y1 => match ZeO x0.t with
  | some y2 => bif x0.th.phase == (4:Int) then match Zcd (x0.m,y1) with
   | some y3 => bif y3.snd != (0:Int) then some ((x0,true)) else match Zkr (x0,y3.fst) with
     | some y4 => some ((y4,true))
     | none=>none
   | none=>none else bif x0.th.phase == (6:Int) then match Zjv x0.t with
    | some y3 => match ZcP (x0.m,y1,x0.th.x,y3) with
     | some y4 => bif y4.snd.snd != (0:Int) then some ((x0,true)) else bif y4.snd.fst then match ZiP { x0 with m:=y4.fst,th:={ x0.th with phase:=(4:Int) } } with
      | some y5 => some ((y5,true))
      | none=>none else some (({ x0 with m:=y4.fst,th:={ x0.th with phase:=(4:Int) } },true))
     | none=>none
    | none=>none else bif x0.th.phase == (5:Int) then match ZcP (x0.m,y1,(0:Int),y2) with
     | some y3 => bif y3.snd.snd != (0:Int) then some ((x0,true)) else bif y3.snd.fst then match ZjA { x0 with m:=y3.fst,th:={ x0.th with phase:=(4:Int) } } with
      | some y4 => some ((y4,true))
      | none=>none else some (({ x0 with m:=y3.fst,th:={ x0.th with phase:=(4:Int) } },true))
     | none=>none else some ((x0,false))
  | none=>none
 | none=>none
def ZkJ (x:Turn):Option (Turn×Bool):=Zk4 x
def ZjX (x0:Turn):Option (Int) := bif decide (x0.th.at_<(0:Int)) then some ((-1:Int)) else bif decide (x0.th.at_>=(↑x0.th.held.length:Int)) then some ((-1:Int)) else bif decide ((0:Int)<=x0.th.at_) then bif decide (x0.th.at_<(↑x0.th.held.length:Int)) then match ZdZ (x0.c,x0.th.item,x0.th.held.getD x0.th.at_.toNat (0:Int)) with
 | some y1 => some (y1)
 | none=>none else none else none
def Zfl (x:Turn):Option (Int):=ZjX x
def ZmY (x0:Int):Option (Int) := match Zjj x0 with
 | some y1 => bif decide (y1.kind>=(1:Int)) then bif decide (y1.kind<=(3:Int)) then some (y1.n) else some ((-1:Int)) else some ((-1:Int))
 | none=>none
def Zm2 (x:Int):Option (Int):=ZmY x
def Znv (x0:Turn):Option (Turn) := match Zfl x0 with
 | some y1 => match Zcd (x0.m,y1) with
  | some y2 => bif y2.snd != (0:Int) then some (x0) else match ZeO x0.t with
   | some y3 => bif y2.fst == y3 then some ({ x0 with th:={ x0.th with phase:=(8:Int) } }) else match ZgC y2.fst with
    | some y4 => bif y4 == (3:Int) then match Zm2 y2.fst with
     | some y5 => some ({ x0 with th:={ x0.th with phase:=(9:Int),who:=y5 } })
     | none=>none else some (x0)
    | none=>none
   | none=>none
  | none=>none
 | none=>none
def Zj0 (x:Turn):Option (Turn):=Znv x
def ZjY (x0:Turn):Option (Turn) := match ZfX { x0 with th:={ x0.th with at_:=Zaf IntKind.i64 (x0.th.at_+(1:Int)) } } with
 | some y1 => some (y1)
 | none=>none
def ZgQ (x:Turn):Option (Turn):=ZjY x
def ZnD (x0:Turn):Option (Turn) := match Zfl x0 with
 | some y1 => match ZeO x0.t with
  | some y2 => match ZcP (x0.m,y1,y2,(0:Int)) with
   | some y3 => bif !y3.snd.fst then bif y3.snd.snd != (0:Int) then some (x0) else some ({ x0 with m:=y3.fst,th:={ x0.th with phase:=(7:Int) } }) else bif y3.snd.snd != (0:Int) then some (x0) else match ZgQ { x0 with m:=y3.fst } with
    | some y4 => some (y4)
    | none=>none
   | none=>none
  | none=>none
 | none=>none
def ZjK (x:Turn):Option (Turn):=ZnD x
def ZcM (x0:List Entry):Option ((List Entry)) := bif fewB ((0:Nat)+x0.length) then some (x0) else none
def Zbs (x:(List Entry)):Option ((List Entry)):=ZcM x
def Zcl (x0:List (List Entry)) (x1:Int):Option ((List Entry)×Int) := bif decide (x1<(0:Int)) then some ((([]:List Entry),(30:Int))) else bif decide (x1>=(↑x0.length:Int)) then some ((([]:List Entry),(30:Int))) else bif decide ((0:Int)<=x1) then bif decide (x1<(↑x0.length:Int)) then some ((x0.getD x1.toNat ([]:List Entry),(0:Int))) else none else none
def Zci (x:(List (List Entry))×Int):Option ((List Entry)×Int):=Zcl x.1 x.2
def Zhu (x0:Memo) (x1:Int):Option ((List Entry)×Int) := match Zci (x0.boxes,x1) with
 | some y1 => match Zbs y1.fst with
  | some y2 => some ((y2,y1.snd))
  | none=>none
 | none=>none
def Zh2 (x:Memo×Int):Option ((List Entry)×Int):=Zhu x.1 x.2
def Zd1 (x0:Unit) (x1:Int):Option ((List Kid)) := bif decide (x1<(0:Int)) then none else bif decide (Zaf IntKind.i64 (x1-Zaf IntKind.i64 ((0:Int)-(0:Int)))>(0:Int)) then bif decide ((0:Int)<=Zaf IntKind.i64 (x1-Zaf IntKind.i64 ((0:Int)-(0:Int)))) then bif decide (Zaf IntKind.i64 (x1-Zaf IntKind.i64 ((0:Int)-(0:Int)))<=ZbA) then some (List.take (Int.toNat (0:Int)) (List.replicate (Zaf IntKind.i64 (x1-Zaf IntKind.i64 ((0:Int)-(0:Int)))).toNat (Kid.mk (0:Int) (0:Int)))) else none else none else some (([]:List Kid))
def Zd0 (x:Unit×Int):Option ((List Kid)):=Zd1 x.1 x.2
def Zct (x0:List Kid) (x1:List (List Kid)) (x2:Int) (x3:Int):Option (((List Kid)×(List (List Kid))×Int×Int)⊕(((List Kid)))) := bif decide (x3<x2) then bif decide ((0:Int)<=x3) then bif decide (x3<(↑x1.length:Int)) then bif fewB (x0.length+List.length (x1.getD x3.toNat ([]:List Kid))) then some (Sum.inl (x0++x1.getD x3.toNat ([]:List Kid),x1,x2,Zaf IntKind.i64 (x3+(1:Int)))) else none else none else none else some (Sum.inr x0)
def ZbM (x:(List Kid)×(List (List Kid))×Int×Int):Option (((List Kid)×(List (List Kid))×Int×Int)⊕(((List Kid)))):=Zct x.1 x.2.1 x.2.2.1 x.2.2.2
def Zc8 (x:(List Kid)×(List (List Kid))×Int×Int):Option (((List Kid))):=Zav ZbM x
def ZcA (x0:List (List Kid)) (x1:Int) (x2:List (List Kid)) (x3:Int) (x4:Int):Option (((List (List Kid))×Int×(List (List Kid))×Int×Int)⊕(((List (List Kid))×Int))) := bif decide (x4<x3) then bif decide ((0:Int)<=x4) then bif decide (x4<(↑x2.length:Int)) then bif decide (Zaf IntKind.i64 (x1+(↑(List.length (x2.getD x4.toNat ([]:List Kid))):Int))<(0:Int)) then none else some (Sum.inl (x0,Zaf IntKind.i64 (x1+(↑(List.length (x2.getD x4.toNat ([]:List Kid))):Int)),x2,x3,Zaf IntKind.i64 (x4+(1:Int)))) else none else none else some (Sum.inr (x0,x1))
def ZbP (x:(List (List Kid))×Int×(List (List Kid))×Int×Int):Option (((List (List Kid))×Int×(List (List Kid))×Int×Int)⊕(((List (List Kid))×Int))):=ZcA x.1 x.2.1 x.2.2.1 x.2.2.2.1 x.2.2.2.2
def Zdg (x:(List (List Kid))×Int×(List (List Kid))×Int×Int):Option (((List (List Kid))×Int)):=Zav ZbP x
def ZdC (x0:List (List Kid)):Option ((List Kid)) := match Zdg (x0,(0:Int),x0,(↑x0.length:Int),(0:Int)) with
 | some y1 => match Zd0 ((),y1.snd) with
  | some y2 => match Zc8 (y2,y1.fst,(↑(List.length y1.fst):Int),(0:Int)) with
   | some y3 => some (y3)
   | none=>none
  | none=>none
 | none=>none
def ZdJ (x:(List (List Kid))):Option ((List Kid)):=ZdC x
def ZdO (x0:Unit) (x1:Int):Option ((List Entry)) := bif decide (x1<(0:Int)) then none else bif decide (Zaf IntKind.i64 (x1-Zaf IntKind.i64 ((0:Int)-(0:Int)))>(0:Int)) then bif decide ((0:Int)<=Zaf IntKind.i64 (x1-Zaf IntKind.i64 ((0:Int)-(0:Int)))) then bif decide (Zaf IntKind.i64 (x1-Zaf IntKind.i64 ((0:Int)-(0:Int)))<=ZbA) then some (List.take (Int.toNat (0:Int)) (List.replicate (Zaf IntKind.i64 (x1-Zaf IntKind.i64 ((0:Int)-(0:Int)))).toNat (Entry.mk (0:Int) (Op.mk (0:Int) (0:Int))))) else none else none else some (([]:List Entry))
def ZdR (x:Unit×Int):Option ((List Entry)):=ZdO x.1 x.2
def Zcp (x0:List Entry) (x1:List (List Entry)) (x2:Int) (x3:Int):Option (((List Entry)×(List (List Entry))×Int×Int)⊕(((List Entry)))) := bif decide (x3<x2) then bif decide ((0:Int)<=x3) then bif decide (x3<(↑x1.length:Int)) then bif fewB (x0.length+List.length (x1.getD x3.toNat ([]:List Entry))) then some (Sum.inl (x0++x1.getD x3.toNat ([]:List Entry),x1,x2,Zaf IntKind.i64 (x3+(1:Int)))) else none else none else none else some (Sum.inr x0)
def ZbE (x:(List Entry)×(List (List Entry))×Int×Int):Option (((List Entry)×(List (List Entry))×Int×Int)⊕(((List Entry)))):=Zcp x.1 x.2.1 x.2.2.1 x.2.2.2
def Zc1 (x:(List Entry)×(List (List Entry))×Int×Int):Option (((List Entry))):=Zav ZbE x
def Zcr (x0:List (List Entry)) (x1:Int) (x2:List (List Entry)) (x3:Int) (x4:Int):Option (((List (List Entry))×Int×(List (List Entry))×Int×Int)⊕(((List (List Entry))×Int))) := bif decide (x4<x3) then bif decide ((0:Int)<=x4) then bif decide (x4<(↑x2.length:Int)) then bif decide (Zaf IntKind.i64 (x1+(↑(List.length (x2.getD x4.toNat ([]:List Entry))):Int))<(0:Int)) then none else some (Sum.inl (x0,Zaf IntKind.i64 (x1+(↑(List.length (x2.getD x4.toNat ([]:List Entry))):Int)),x2,x3,Zaf IntKind.i64 (x4+(1:Int)))) else none else none else some (Sum.inr (x0,x1))
def ZbL (x:(List (List Entry))×Int×(List (List Entry))×Int×Int):Option (((List (List Entry))×Int×(List (List Entry))×Int×Int)⊕(((List (List Entry))×Int))):=Zcr x.1 x.2.1 x.2.2.1 x.2.2.2.1 x.2.2.2.2
def Zc9 (x:(List (List Entry))×Int×(List (List Entry))×Int×Int):Option (((List (List Entry))×Int)):=Zav ZbL x
def Zdr (x0:List (List Entry)):Option ((List Entry)) := match Zc9 (x0,(0:Int),x0,(↑x0.length:Int),(0:Int)) with
 | some y1 => match ZdR ((),y1.snd) with
  | some y2 => match Zc1 (y2,y1.fst,(↑(List.length y1.fst):Int),(0:Int)) with
   | some y3 => some (y3)
   | none=>none
  | none=>none
 | none=>none
def Zdk (x:(List (List Entry))):Option ((List Entry)):=Zdr x
def ZnW (x0:List (List Entry)):Option ((List Entry)) := match Zdk x0 with
 | some y1 => some (y1)
 | none=>none
def Zlh (x:(List (List Entry))):Option ((List Entry)):=ZnW x
def Zj6 (x0:Turn) (x1:Int) (x2:List Entry):Option (Turn) := match ZdJ (x0.th.kids::(Kid.mk x1 (↑x0.th.batch.length:Int)::([]:List Kid))::([]:List (List Kid))) with
 | some y1 => match Zlh (x0.th.batch::x2::([]:List (List Entry))) with
  | some y2 => some ({ x0 with th:={ x0.th with batch:=y2,kids:=y1 } })
  | none=>none
 | none=>none
def Zfq (x:Turn×Int×(List Entry)):Option (Turn):=Zj6 x.1 x.2.1 x.2.2
def ZkR (x0:Turn):Option (Turn) := match Zh2 (x0.m,x0.th.who) with
 | some y1 => bif y1.snd != (0:Int) then some (x0) else match Zfq (x0,x0.th.who,y1.fst) with
  | some y2 => some ({ y2 with th:={ y2.th with phase:=(10:Int) } })
  | none=>none
 | none=>none
def Zhf (x:Turn):Option (Turn):=ZkR x
def Znp (x0:Turn):Option (Turn) := match Zfl x0 with
 | some y1 => match Zb9 (x0.m,y1,(0:Int)) with
  | some y2 => bif y2.snd != (0:Int) then some (x0) else match ZgQ { x0 with m:=y2.fst } with
   | some y3 => some (y3)
   | none=>none
  | none=>none
 | none=>none
def ZjW (x:Turn):Option (Turn):=Znp x
def Zds (x0:List (List Entry)):Option ((List (List Entry))) := bif fewB ((0:Nat)+x0.length) then some (x0) else none
def Zdl (x:(List (List Entry))):Option ((List (List Entry))):=Zds x
def Zm6 (x0:Memo) (x1:Int) (x2:List Entry):Option (Memo×Int) := match Zci (x0.boxes,x1) with
 | some y1 => bif y1.snd != (0:Int) then some ((x0,y1.snd)) else match Zdl x0.boxes with
  | some y2 => match Zbs x2 with
   | some y3 => bif decide ((0:Int)<=x1) then bif decide (x1<(↑(List.length y2):Int)) then some (({ x0 with boxes:=List.set y2 x1.toNat y3 },(0:Int))) else none else none
   | none=>none
  | none=>none
 | none=>none
def ZhG (x:Memo×Int×(List Entry)):Option (Memo×Int):=Zm6 x.1 x.2.1 x.2.2
def Zla (x0:Turn):Option (Turn) := match ZhG (x0.m,x0.t,x0.th.batch) with
 | some y1 => bif y1.snd != (0:Int) then some (x0) else some ({ x0 with m:=y1.fst,th:={ x0.th with phase:=(12:Int) } })
 | none=>none
def ZgZ (x:Turn):Option (Turn):=Zla x
def ZgW (x0:Int):Option (Int) := match ZbS (Said.mk (3:Int) x0) with
 | some y1 => some (y1)
 | none=>none
def Zha (x:Int):Option (Int):=ZgW x
def Zk2 (x0:Turn):Option (Turn) := match ZdZ (x0.c,x0.th.item,x0.th.stop) with
 | some y1 => match Zha x0.t with
  | some y2 => match Zb9 (x0.m,y1,y2) with
   | some y3 => bif y3.snd != (0:Int) then some (x0) else some ({ x0 with m:=y3.fst,th:={ x0.th with phase:=(13:Int) } })
   | none=>none
  | none=>none
 | none=>none
def Zhd (x:Turn):Option (Turn):=Zk2 x
def ZjJ (x0:Turn):Option (Turn×Bool) := bif x0.th.phase == (7:Int) then match Zj0 x0 with
 | some y1 => some ((y1,true))
 | none=>none else bif x0.th.phase == (8:Int) then match ZjK x0 with
  | some y1 => some ((y1,true))
  | none=>none else bif x0.th.phase == (9:Int) then match Zhf x0 with
   | some y1 => some ((y1,true))
   | none=>none else bif x0.th.phase == (10:Int) then match ZjW x0 with
    | some y1 => some ((y1,true))
    | none=>none else bif x0.th.phase == (11:Int) then match ZgZ x0 with
     | some y1 => some ((y1,true))
     | none=>none else bif x0.th.phase == (12:Int) then match Zhd x0 with
      | some y1 => some ((y1,true))
      | none=>none else some ((x0,false))
def ZjS (x:Turn):Option (Turn×Bool):=ZjJ x
def Zqb (x0:Config) (x1:Int×Int×Int×Int×Int×Int×Int×Int×Int×Int×Int×Int×Int×Int×Int×Int×Int×Int×Int×Int×Int×Int×Int×Int) (x2:Int):Option ((Config×(Int×Int×Int×Int×Int×Int×Int×Int×Int×Int×Int×Int×Int×Int×Int×Int×Int×Int×Int×Int×Int×Int×Int×Int)×Int)⊕((Config)⊕(Int))) := bif decide (x2<(8:Int)) then bif decide ((0:Int)<=x2) then bif decide (x2<(↑(8:Nat):Int)) then bif decide (x2=(↑(0:Nat):Int)) then bif decide (x1.fst<x1.snd.fst) then some (Sum.inr (Sum.inr (Zaf IntKind.i64 ((50:Int)+x2)))) else bif decide (x1.fst>x1.snd.snd.fst) then some (Sum.inr (Sum.inr (Zaf IntKind.i64 ((50:Int)+x2)))) else some (Sum.inl (x0,x1,Zaf IntKind.i64 (x2+(1:Int)))) else bif decide (x2=(↑((0:Nat)+(1:Nat)):Int)) then bif decide (x1.snd.snd.snd.fst<x1.snd.snd.snd.snd.fst) then some (Sum.inr (Sum.inr (Zaf IntKind.i64 ((50:Int)+x2)))) else bif decide (x1.snd.snd.snd.fst>x1.snd.snd.snd.snd.snd.fst) then some (Sum.inr (Sum.inr (Zaf IntKind.i64 ((50:Int)+x2)))) else some (Sum.inl (x0,x1,Zaf IntKind.i64 (x2+(1:Int)))) else bif decide (x2=(↑((0:Nat)+(1:Nat)+(1:Nat)):Int)) then bif decide (x1.snd.snd.snd.snd.snd.snd.fst<x1.snd.snd.snd.snd.snd.snd.snd.fst) then some (Sum.inr (Sum.inr (Zaf IntKind.i64 ((50:Int)+x2)))) else bif decide (x1.snd.snd.snd.snd.snd.snd.fst>x1.snd.snd.snd.snd.snd.snd.snd.snd.fst) then some (Sum.inr (Sum.inr (Zaf IntKind.i64 ((50:Int)+x2)))) else some (Sum.inl (x0,x1,Zaf IntKind.i64 (x2+(1:Int)))) else bif decide (x2=(↑((0:Nat)+(1:Nat)+(1:Nat)+(1:Nat)):Int)) then bif decide (x1.snd.snd.snd.snd.snd.snd.snd.snd.snd.fst<x1.snd.snd.snd.snd.snd.snd.snd.snd.snd.snd.fst) then some (Sum.inr (Sum.inr (Zaf IntKind.i64 ((50:Int)+x2)))) else bif decide (x1.snd.snd.snd.snd.snd.snd.snd.snd.snd.fst>x1.snd.snd.snd.snd.snd.snd.snd.snd.snd.snd.snd.fst) then some (Sum.inr (Sum.inr (Zaf IntKind.i64 ((50:Int)+x2)))) else some (Sum.inl (x0,x1,Zaf IntKind.i64 (x2+(1:Int)))) else bif decide (x2=(↑((0:Nat)+(1:Nat)+(1:Nat)+(1:Nat)+(1:Nat)):Int)) then bif decide (x1.snd.snd.snd.snd.snd.snd.snd.snd.snd.snd.snd.snd.fst<x1.snd.snd.snd.snd.snd.snd.snd.snd.snd.snd.snd.snd.snd.fst) then some (Sum.inr (Sum.inr (Zaf IntKind.i64 ((50:Int)+x2)))) else bif decide (x1.snd.snd.snd.snd.snd.snd.snd.snd.snd.snd.snd.snd.fst>x1.snd.snd.snd.snd.snd.snd.snd.snd.snd.snd.snd.snd.snd.snd.fst) then some (Sum.inr (Sum.inr (Zaf IntKind.i64 ((50:Int)+x2)))) else some (Sum.inl (x0,x1,Zaf IntKind.i64 (x2+(1:Int)))) else bif decide (x2=(↑((0:Nat)+(1:Nat)+(1:Nat)+(1:Nat)+(1:Nat)+(1:Nat)):Int)) then bif decide (x1.snd.snd.snd.snd.snd.snd.snd.snd.snd.snd.snd.snd.snd.snd.snd.fst<x1.snd.snd.snd.snd.snd.snd.snd.snd.snd.snd.snd.snd.snd.snd.snd.snd.fst) then some (Sum.inr (Sum.inr (Zaf IntKind.i64 ((50:Int)+x2)))) else bif decide (x1.snd.snd.snd.snd.snd.snd.snd.snd.snd.snd.snd.snd.snd.snd.snd.fst>x1.snd.snd.snd.snd.snd.snd.snd.snd.snd.snd.snd.snd.snd.snd.snd.snd.snd.fst) then some (Sum.inr (Sum.inr (Zaf IntKind.i64 ((50:Int)+x2)))) else some (Sum.inl (x0,x1,Zaf IntKind.i64 (x2+(1:Int)))) else bif decide (x2=(↑((0:Nat)+(1:Nat)+(1:Nat)+(1:Nat)+(1:Nat)+(1:Nat)+(1:Nat)):Int)) then bif decide (x1.snd.snd.snd.snd.snd.snd.snd.snd.snd.snd.snd.snd.snd.snd.snd.snd.snd.snd.fst<x1.snd.snd.snd.snd.snd.snd.snd.snd.snd.snd.snd.snd.snd.snd.snd.snd.snd.snd.snd.fst) then some (Sum.inr (Sum.inr (Zaf IntKind.i64 ((50:Int)+x2)))) else bif decide (x1.snd.snd.snd.snd.snd.snd.snd.snd.snd.snd.snd.snd.snd.snd.snd.snd.snd.snd.fst>x1.snd.snd.snd.snd.snd.snd.snd.snd.snd.snd.snd.snd.snd.snd.snd.snd.snd.snd.snd.snd.fst) then some (Sum.inr (Sum.inr (Zaf IntKind.i64 ((50:Int)+x2)))) else some (Sum.inl (x0,x1,Zaf IntKind.i64 (x2+(1:Int)))) else bif decide (x2=(↑((0:Nat)+(1:Nat)+(1:Nat)+(1:Nat)+(1:Nat)+(1:Nat)+(1:Nat)+(1:Nat)):Int)) then bif decide (x1.snd.snd.snd.snd.snd.snd.snd.snd.snd.snd.snd.snd.snd.snd.snd.snd.snd.snd.snd.snd.snd.fst<x1.snd.snd.snd.snd.snd.snd.snd.snd.snd.snd.snd.snd.snd.snd.snd.snd.snd.snd.snd.snd.snd.snd.fst) then some (Sum.inr (Sum.inr (Zaf IntKind.i64 ((50:Int)+x2)))) else bif decide (x1.snd.snd.snd.snd.snd.snd.snd.snd.snd.snd.snd.snd.snd.snd.snd.snd.snd.snd.snd.snd.snd.fst>x1.snd.snd.snd.snd.snd.snd.snd.snd.snd.snd.snd.snd.snd.snd.snd.snd.snd.snd.snd.snd.snd.snd.snd) then some (Sum.inr (Sum.inr (Zaf IntKind.i64 ((50:Int)+x2)))) else some (Sum.inl (x0,x1,Zaf IntKind.i64 (x2+(1:Int)))) else none else none else none else some (Sum.inr (Sum.inl x0))
def Zd5 (x:Config×(Int×Int×Int×Int×Int×Int×Int×Int×Int×Int×Int×Int×Int×Int×Int×Int×Int×Int×Int×Int×Int×Int×Int×Int)×Int):Option ((Config×(Int×Int×Int×Int×Int×Int×Int×Int×Int×Int×Int×Int×Int×Int×Int×Int×Int×Int×Int×Int×Int×Int×Int×Int)×Int)⊕((Config)⊕(Int))):=Zqb x.1 x.2.1 x.2.2
def ZcS (x:Config×(Int×Int×Int×Int×Int×Int×Int×Int×Int×Int×Int×Int×Int×Int×Int×Int×Int×Int×Int×Int×Int×Int×Int×Int)×Int):Option ((Config)⊕(Int)):=Zav Zd5 x
def ZiA (x0:Config):Option (Int) := match ZcS (x0,(x0.threads,(1:Int),(16:Int),x0.items,(1:Int),(4:Int),x0.backend,(1:Int),(3:Int),x0.depth,(0:Int),(4:Int),x0.layers,(0:Int),(3:Int),x0.width,(1:Int),(8:Int),x0.spin,(0:Int),(20:Int),x0.wait,(0:Int),(1000:Int)),(0:Int)) with
 | some (.inl y1) => bif y1.bounded then bif decide (y1.init<y1.lo) then some ((58:Int)) else bif decide (y1.hi<y1.init) then some ((58:Int)) else some ((0:Int)) else some ((0:Int))
 | some (.inr y2) => some (y2)
 | none=>none
def Ze0 (x:Config):Option (Int):=ZiA x
def ZhH (x0:Int) (x1:Int):Option (Bool) := bif decide ((0:Int)<=x0) then some (decide (x0<x1)) else some (false)
def Zdt (x:Int×Int):Option (Bool):=ZhH x.1 x.2
def Zn8 (x0:Int):Option (Bool) := bif decide ((1:Int)<=x0) then some (decide (x0<=(9:Int))) else some (false)
def Zk9 (x:Int):Option (Bool):=Zn8 x
def Znf (x0:Op) (x1:Bool):Option (Bool) := bif !x1 then match Zk9 x0.tag with
 | some y1 => bif y1 then some (decide (x0.tag<(8:Int))) else some (false)
 | none=>none else bif x0.tag == (9:Int) then some (decide (x0.v>=(0:Int))) else some (x0.tag == (8:Int))
def Zkd (x:Op×Bool):Option (Bool):=Znf x.1 x.2
def ZiB (x0:Config) (x1:SEntry):Option (Int) := bif x1.kind == (1:Int) then bif x1.kind == (1:Int) then match Zdt (x1.t,x0.threads) with
 | some y1 => bif !y1 then some ((91:Int)) else bif x1.kind == (2:Int) then some ((0:Int)) else match Zdt (x1.item,x0.items) with
  | some y2 => bif !y2 then some ((92:Int)) else match Zkd (x1.op,x0.bounded) with
   | some y3 => bif !y3 then some ((93:Int)) else some ((0:Int))
   | none=>none
  | none=>none
 | none=>none else bif x1.kind == (3:Int) then some ((0:Int)) else some ((90:Int)) else bif x1.kind == (2:Int) then match Zdt (x1.t,x0.threads) with
 | some y1 => bif !y1 then some ((91:Int)) else bif x1.kind == (2:Int) then some ((0:Int)) else match Zdt (x1.item,x0.items) with
  | some y2 => bif !y2 then some ((92:Int)) else match Zkd (x1.op,x0.bounded) with
   | some y3 => bif !y3 then some ((93:Int)) else some ((0:Int))
   | none=>none
  | none=>none
 | none=>none else bif x1.kind == (3:Int) then some ((0:Int)) else some ((90:Int))
def ZeQ (x:Config×SEntry):Option (Int):=ZiB x.1 x.2
def ZeF (x0:Config) (x1:List SEntry) (x2:Int) (x3:Int):Option ((Config×(List SEntry)×Int×Int)⊕((Unit)⊕(Int×Int))) := bif decide (x3<x2) then bif decide ((0:Int)<=x3) then bif decide (x3<(↑x1.length:Int)) then match ZeQ (x0,x1.getD x3.toNat Zbq) with
 | some y1 => bif y1 != (0:Int) then some (Sum.inr (Sum.inr (x3,y1))) else some (Sum.inl (x0,x1,x2,Zaf IntKind.i64 (x3+(1:Int))))
 | none=>none else none else none else some (Sum.inr (Sum.inl ()))
def Zgl (x:Config×(List SEntry)×Int×Int):Option ((Config×(List SEntry)×Int×Int)⊕((Unit)⊕(Int×Int))):=ZeF x.1 x.2.1 x.2.2.1 x.2.2.2
def ZiN (x:Config×(List SEntry)×Int×Int):Option ((Unit)⊕(Int×Int)):=Zav Zgl x
def ZkZ (x0:Config) (x1:List SEntry):Option (Int×Int) := match Ze0 x0 with
 | some y1 => bif y1 != (0:Int) then some (((0:Int),y1)) else bif decide ((↑x1.length:Int)>(65536:Int)) then some (((0:Int),(2:Int))) else match ZiN (x0,x1,(↑x1.length:Int),(0:Int)) with
  | some (.inl y2) => some (((0:Int),(0:Int)))
  | some (.inr y3) => some (y3)
  | none=>none
 | none=>none
def ZhP (x:Config×(List SEntry)):Option (Int×Int):=ZkZ x.1 x.2
def Zia (x0:Turn):Option (Turn) := bif decide (x0.th.layer<x0.c.layers) then match Zdz { x0 with th:={ x0.th with phase:=(2:Int) } } with
 | some y1 => bif !y1 then some ({ x0 with th:={ x0.th with phase:=(17:Int),layer:=Zaf IntKind.i64 (x0.th.layer+(1:Int)) } }) else some ({ x0 with th:={ x0.th with phase:=(2:Int) } })
 | none=>none else some ({ x0 with th:={ x0.th with phase:=(2:Int) } })
def Zcn (x:Turn):Option (Turn):=Zia x
def Zjc (x0:Int) (x1:Int):Option (Int) := match ZbS (Said.mk (4:Int) (Zaf IntKind.i64 (Zaf IntKind.i64 (x0*(2:Int) ^ min (Int.toNat (4:Int)) IntKind.i64.bits)+x1))) with
 | some y1 => some (y1)
 | none=>none
def Zjg (x:Int×Int):Option (Int):=Zjc x.1 x.2
def Zh1 (x0:Turn×Int) (x1:Int):Option (Int) := match Zc4 (x0.fst.c,x1) with
 | some y1 => some (y1)
 | none=>none
def Zb1 (x:(Turn×Int)×Int):Option (Int):=Zh1 x.1 x.2
def Zpd (x0:Int) (x1:Int):Option (Int×Int) :=
 some ((Zaf IntKind.u64 (Zaf IntKind.u64 (Zaf IntKind.u64 (x0.fdiv ((2:Int) ^ min (Int.toNat (32:Int)) IntKind.u64.bits)*x1.fdiv ((2:Int) ^ min (Int.toNat (32:Int)) IntKind.u64.bits))+(Zaf IntKind.u64 (Zaf IntKind.u64 (x0.fdiv ((2:Int) ^ min (Int.toNat (32:Int)) IntKind.u64.bits)*Zaf IntKind.u64 (↑(BitVec.ofInt IntKind.u64.bits x1 &&& BitVec.ofInt IntKind.u64.bits (4294967295:Int)).toNat:Int))+(Zaf IntKind.u64 (Zaf IntKind.u64 (↑(BitVec.ofInt IntKind.u64.bits x0 &&& BitVec.ofInt IntKind.u64.bits (4294967295:Int)).toNat:Int)*Zaf IntKind.u64 (↑(BitVec.ofInt IntKind.u64.bits x1 &&& BitVec.ofInt IntKind.u64.bits (4294967295:Int)).toNat:Int))).fdiv ((2:Int) ^ min (Int.toNat (32:Int)) IntKind.u64.bits))).fdiv ((2:Int) ^ min (Int.toNat (32:Int)) IntKind.u64.bits))+(Zaf IntKind.u64 (Zaf IntKind.u64 (↑(BitVec.ofInt IntKind.u64.bits (Zaf IntKind.u64 (Zaf IntKind.u64 (x0.fdiv ((2:Int) ^ min (Int.toNat (32:Int)) IntKind.u64.bits)*Zaf IntKind.u64 (↑(BitVec.ofInt IntKind.u64.bits x1 &&& BitVec.ofInt IntKind.u64.bits (4294967295:Int)).toNat:Int))+(Zaf IntKind.u64 (Zaf IntKind.u64 (↑(BitVec.ofInt IntKind.u64.bits x0 &&& BitVec.ofInt IntKind.u64.bits (4294967295:Int)).toNat:Int)*Zaf IntKind.u64 (↑(BitVec.ofInt IntKind.u64.bits x1 &&& BitVec.ofInt IntKind.u64.bits (4294967295:Int)).toNat:Int))).fdiv ((2:Int) ^ min (Int.toNat (32:Int)) IntKind.u64.bits))) &&& BitVec.ofInt IntKind.u64.bits (4294967295:Int)).toNat:Int)+Zaf IntKind.u64 (Zaf IntKind.u64 (↑(BitVec.ofInt IntKind.u64.bits x0 &&& BitVec.ofInt IntKind.u64.bits (4294967295:Int)).toNat:Int)*x1.fdiv ((2:Int) ^ min (Int.toNat (32:Int)) IntKind.u64.bits)))).fdiv ((2:Int) ^ min (Int.toNat (32:Int)) IntKind.u64.bits)),Zaf IntKind.u64 (x0*x1)))
def Zj9 (x:Int×Int):Option (Int×Int):=Zpd x.1 x.2
def ZqV (x0:Int) (x1:Int):Option (Int×Int) := match Zj9 (x0,x1) with
 | some y1 => some (y1)
 | none=>none
def Zdu (x:Int×Int):Option (Int×Int):=ZqV x.1 x.2
def ZeY (x0:List Thread):Option ((List Thread)) := bif fewB ((0:Nat)+x0.length) then some (x0) else none
def ZcC (x:(List Thread)):Option ((List Thread)):=ZeY x
def Zfh (x0:List Mark):Option ((List Mark)) := bif fewB ((0:Nat)+x0.length) then some (x0) else none
def ZcR (x:(List Mark)):Option ((List Mark)):=Zfh x
def Zfc (x0:List Event):Option ((List Event)) := bif fewB ((0:Nat)+x0.length) then some (x0) else none
def ZcQ (x:(List Event)):Option ((List Event)):=Zfc x
def ZpD:Option (Int) := match ZbS (Said.mk (5:Int) (-1:Int)) with
 | some y1 => some (y1)
 | none=>none
def ZgL (x:Unit):Option (Int):=ZpD
def Zi4 (x0:Config) (x1:Int):Option (Int) := bif decide (x1<(0:Int)) then some ((-1:Int)) else bif decide (x1>=x0.threads) then some ((-1:Int)) else match Zco x0 with
 | some y1 => some (Zaf IntKind.i64 (Zaf IntKind.i64 (y1.lines+Zaf IntKind.i64 ((2:Int)*x1))+(1:Int)))
 | none=>none
def ZeU (x:Config×Int):Option (Int):=Zi4 x.1 x.2
def Zi0 (x0:Turn):Option (Turn) := bif decide (x0.th.at_<(0:Int)) then some ({ x0 with th:={ x0.th with phase:=(0:Int) },done:=true }) else bif decide (x0.th.at_>=(↑x0.th.kids.length:Int)) then some ({ x0 with th:={ x0.th with phase:=(0:Int) },done:=true }) else bif decide ((0:Int)<=x0.th.at_) then bif decide (x0.th.at_<(↑x0.th.kids.length:Int)) then some ({ x0 with th:={ x0.th with phase:=(15:Int) } }) else none else none
def Zdc (x:Turn):Option (Turn):=Zi0 x
def ZkF (x0:List Entry) (x1:Int):Option ((List Entry)) := bif decide ((0:Int)<=if (if (↑x0.length:Int)<x1 then (↑x0.length:Int) else x1)>(0:Int) then if (↑x0.length:Int)<x1 then (↑x0.length:Int) else x1 else (0:Int)) then bif decide ((if (if (↑x0.length:Int)<x1 then (↑x0.length:Int) else x1)>(0:Int) then if (↑x0.length:Int)<x1 then (↑x0.length:Int) else x1 else (0:Int))<=(↑x0.length:Int)) then match Zbs (List.drop (Int.toNat (0:Int)) (List.take (if (if (↑x0.length:Int)<x1 then (↑x0.length:Int) else x1)>(0:Int) then if (↑x0.length:Int)<x1 then (↑x0.length:Int) else x1 else (0:Int)).toNat x0)) with
 | some y1 => some (y1)
 | none=>none else none else none
def Zkx (x:(List Entry)×Int):Option ((List Entry)):=ZkF x.1 x.2
def ZnF (x0:Int) (x1:Int) (x2:Int) (x3:Int):Option (Bool) := bif decide (x1>=(0:Int)) then bif decide (Zaf IntKind.i64 (x0+x1)>=x0) then bif decide (Zaf IntKind.i64 (x0+x1)<x2) then some (true) else some (decide (Zaf IntKind.i64 (x0+x1)>x3)) else bif decide (x1<(0:Int)) then bif decide (Zaf IntKind.i64 (x0+x1)<x0) then bif decide (Zaf IntKind.i64 (x0+x1)<x2) then some (true) else some (decide (Zaf IntKind.i64 (x0+x1)>x3)) else some (true) else some (true) else bif decide (x1<(0:Int)) then bif decide (Zaf IntKind.i64 (x0+x1)<x0) then bif decide (Zaf IntKind.i64 (x0+x1)<x2) then some (true) else some (decide (Zaf IntKind.i64 (x0+x1)>x3)) else some (true) else some (true)
def ZjR (x:Int×Int×Int×Int):Option (Bool):=ZnF x.1 x.2.1 x.2.2.1 x.2.2.2
def Zii (x0:Op) (x1:Int) (x2:Int) (x3:Int):Option (Int×Bool) := bif x0.tag == (2:Int) then some ((Zaf IntKind.i64 (x1+Zaf IntKind.i64 ((0:Int)-x0.v)),true)) else bif x0.tag == (1:Int) then some ((Zaf IntKind.i64 (x1+x0.v),true)) else bif x0.tag == (3:Int) then some ((Zaf IntKind.i64 (↑(BitVec.ofInt IntKind.i64.bits x1 ||| BitVec.ofInt IntKind.i64.bits x0.v).toNat:Int),true)) else bif x0.tag == (4:Int) then some ((Zaf IntKind.i64 (↑(BitVec.ofInt IntKind.i64.bits x1 &&& BitVec.ofInt IntKind.i64.bits x0.v).toNat:Int),true)) else bif x0.tag == (5:Int) then some ((if x1>x0.v then x1 else x0.v,true)) else bif x0.tag == (6:Int) then some ((if x1<x0.v then x1 else x0.v,true)) else bif x0.tag == (7:Int) then some ((x0.v,true)) else bif x0.tag == (9:Int) then bif decide (x0.v<(0:Int)) then some ((x1,false)) else bif decide (x1<x2) then some ((x1,false)) else bif decide (Zaf IntKind.i64 (x1-x0.v)<=x1) then bif decide (Zaf IntKind.i64 (x1-x0.v)>=x2) then some ((Zaf IntKind.i64 (x1-x0.v),true)) else some ((x2,true)) else some ((x2,true)) else bif x0.tag == (8:Int) then match ZjR (x1,x0.v,x2,x3) with
 | some y1 => bif !y1 then some ((Zaf IntKind.i64 (x1+x0.v),true)) else some ((x1,false))
 | none=>none else some ((x1,false))
def Zd7 (x:Op×Int×Int×Int):Option (Int×Bool):=Zii x.1 x.2.1 x.2.2.1 x.2.2.2
def ZgD (x0:Memo) (x1:Int) (x2:Int):Option (Memo×Int×Int) := match ZbF (x0.words,x1) with
 | some y1 => bif y1.snd != (0:Int) then some ((x0,(0:Int),y1.snd)) else match ZbB x0.words with
  | some y2 => bif decide ((0:Int)<=x1) then bif decide (x1<(↑(List.length y2):Int)) then some (({ x0 with words:=List.set y2 x1.toNat x2 },y1)) else none else none
  | none=>none
 | none=>none
def Zl7 (x:Memo×Int×Int):Option (Memo×Int×Int):=ZgD x.1 x.2.1 x.2.2
def Zle (x0:Config) (x1:Int) (x2:Int) (x3:Int):Option (Int) := bif decide (x1<(0:Int)) then some ((-1:Int)) else bif decide (x1>=x0.items) then some ((-1:Int)) else bif decide (x2<(1:Int)) then some ((-1:Int)) else bif decide (x2>=Zaf IntKind.i64 ((1:Int)+x0.layers)) then some ((-1:Int)) else bif decide (x3<(0:Int)) then some ((-1:Int)) else bif decide (x3>=x0.width) then some ((-1:Int)) else match Zco x0 with
 | some y1 => match Zco x0 with
  | some y2 => some (Zaf IntKind.i64 (Zaf IntKind.i64 (Zaf IntKind.i64 (Zaf IntKind.i64 (x1*y1.block)+y2.slots)+Zaf IntKind.i64 (Zaf IntKind.i64 (x2-(1:Int))*x0.width))+x3))
  | none=>none
 | none=>none
def Zln (x:Config×Int×Int×Int):Option (Int):=Zle x.1 x.2.1 x.2.2.1 x.2.2.2
def ZgI (x0:Tape):Option (Int) := bif decide (x0.at_<(0:Int)) then some ((0:Int)) else some (if Zaf IntKind.i64 ((↑x0.l.length:Int)-x0.at_)>(0:Int) then Zaf IntKind.i64 ((↑x0.l.length:Int)-x0.at_) else (0:Int))
def Zft (x:Tape):Option (Int):=ZgI x
end Go.Proofs.Mill
