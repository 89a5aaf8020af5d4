/- What the functions compute. -/
import Derived.Test.YtecgogmolkjhjaaGreatMillAll3
set_option linter.all false
noncomputable section
namespace Go.Proofs.Mill
def Ztj (x0:Turn) (x1:Int):Option ((Turn×Int)⊕((Turn)⊕(Bool))) := bif decide (x1<(↑x0.m.boxes.length:Int)) then bif decide (x1<(20:Int)) then bif decide ((0:Int)<=x1) then bif decide (x1<(↑x0.m.boxes.length:Int)) then bif decide ((↑(List.length (x0.m.boxes.getD x1.toNat ([]:List Entry))):Int)>(20:Int)) then some (Sum.inr (Sum.inr true)) else some (Sum.inl (x0,Zaf IntKind.i64 (x1+(1:Int)))) else none else none else some (Sum.inr (Sum.inl x0)) else some (Sum.inr (Sum.inl x0))
def Zjz (x:Turn×Int):Option ((Turn×Int)⊕((Turn)⊕(Bool))):=Ztj x.1 x.2
def Ztf (x:Turn×Int):Option ((Turn)⊕(Bool)):=Zav Zjz x
def Zwo (x0:Turn):Option (Bool) := match Ztf (x0,(0:Int)) with
 | some (.inl y1) => bif decide ((↑y1.m.words.length:Int)>(400:Int)) then some (true) else bif decide ((↑y1.m.boxes.length:Int)>(16:Int)) then some (true) else bif decide ((↑y1.th.batch.length:Int)>(20:Int)) then some (true) else bif decide ((↑y1.th.kids.length:Int)>(20:Int)) then some (true) else bif decide ((↑y1.th.held.length:Int)>(20:Int)) then some (true) else bif decide ((↑y1.tape.l.length:Int)>(100:Int)) then some (true) else some (decide ((↑y1.log.length:Int)>(50:Int)))
 | some (.inr y2) => some (y2)
 | none=>none
def Zma (x:Turn):Option (Bool):=Zwo x
def Zdy (x0:Config):Option (Int) := bif decide (x0.threads<(1:Int)) then some ((50:Int)) else bif decide (x0.threads>(16:Int)) then some ((50:Int)) else bif decide (x0.items<(1:Int)) then some ((51:Int)) else bif decide (x0.items>(4:Int)) then some ((51:Int)) else bif decide (x0.backend<(1:Int)) then some ((52:Int)) else bif decide (x0.backend>(3:Int)) then some ((52:Int)) else bif decide (x0.depth<(0:Int)) then some ((53:Int)) else bif decide (x0.depth>(4:Int)) then some ((53:Int)) else bif decide (x0.layers<(0:Int)) then some ((54:Int)) else bif decide (x0.layers>(3:Int)) then some ((54:Int)) else bif decide (x0.width<(1:Int)) then some ((55:Int)) else bif decide (x0.width>(8:Int)) then some ((55:Int)) else bif decide (x0.spin<(0:Int)) then some ((56:Int)) else bif decide (x0.spin>(20:Int)) then some ((56:Int)) else bif decide (x0.wait<(0:Int)) then some ((57:Int)) else bif decide (x0.wait>(1000:Int)) then some ((57:Int)) else bif x0.bounded then bif decide (x0.lo>x0.init) then some ((58:Int)) else bif decide (x0.init>x0.hi) then some ((58:Int)) else some ((0:Int)) else some ((0:Int))
def Zej (x:Config):Option (Int):=Zdy x
def Zqx (x0:Config) (x1:Int) (x2:Int):Option ((Config×Int×Int)⊕((Int))) := bif decide (x2<x0.depth) then some (Sum.inl (x0,Zaf IntKind.i64 ((2:Int)*x1),Zaf IntKind.i64 (x2+(1:Int)))) else some (Sum.inr x1)
def ZhX (x:Config×Int×Int):Option ((Config×Int×Int)⊕((Int))):=Zqx x.1 x.2.1 x.2.2
def Zqm (x:Config×Int×Int):Option ((Int)):=Zav ZhX x
def Ztq (x0:Config):Option (Int) := match Zqm (x0,(1:Int),(0:Int)) with
 | some y1 => some (Zaf IntKind.i64 (y1-(1:Int)))
 | none=>none
def Zff (x:Config):Option (Int):=Ztq x
def ZtG (x0:Config):Option (Int) := match Zff x0 with
 | some y1 => some (Zaf IntKind.i64 (Zaf IntKind.i64 ((1:Int)+y1)+Zaf IntKind.i64 (x0.layers*x0.width)))
 | none=>none
def ZdG (x:Config):Option (Int):=ZtG x
def ZvG (x0:Config):Option (Int) := match ZdG x0 with
 | some y1 => some (Zaf IntKind.i64 (Zaf IntKind.i64 (x0.items*y1)+Zaf IntKind.i64 ((2:Int)*x0.threads)))
 | none=>none
def ZfS (x:Config):Option (Int):=ZvG x
def Zwe (x0:Turn):Option (Bool) := match Zej x0.c with
 | some y1 => bif y1 == (0:Int) then bif decide (x0.t>=(0:Int)) then bif decide (x0.t<x0.c.threads) then match ZfS x0.c with
  | some y2 => bif (↑x0.m.words.length:Int) == y2 then bif (↑x0.m.boxes.length:Int) == x0.c.threads then bif decide (x0.th.item>=(0:Int)) then some (decide (x0.th.item<x0.c.items)) else some (false) else some (false) else some (false)
  | none=>none else some (false) else some (false) else some (false)
 | none=>none
def Zl8 (x:Turn):Option (Bool):=Zwe x
def Ziy (x0:List Entry) (x1:List Entry) (x2:Int):Option (((List Entry)×(List Entry)×Int)⊕((Unit)⊕(Bool))) := bif decide (x2<(↑x0.length:Int)) then bif decide ((0:Int)<=x2) then bif decide (x2<(↑x0.length:Int)) then bif decide ((0:Int)<=x2) then bif decide (x2<(↑x1.length:Int)) then bif !((x0.getD x2.toNat Zcg).t == (x1.getD x2.toNat Zcg).t && ((x0.getD x2.toNat Zcg).op.tag == (x1.getD x2.toNat Zcg).op.tag && ((x0.getD x2.toNat Zcg).op.v == (x1.getD x2.toNat Zcg).op.v && true) && true)) then some (Sum.inr (Sum.inr false)) else some (Sum.inl (x0,x1,Zaf IntKind.i64 (x2+(1:Int)))) else none else none else none else none else some (Sum.inr (Sum.inl ()))
def ZeF (x:(List Entry)×(List Entry)×Int):Option (((List Entry)×(List Entry)×Int)⊕((Unit)⊕(Bool))):=Ziy x.1 x.2.1 x.2.2
def Zmn (x:(List Entry)×(List Entry)×Int):Option ((Unit)⊕(Bool)):=Zav ZeF x
def Zhj (x0:List Entry) (x1:List Entry):Option (Bool) := bif (↑x0.length:Int) != (↑x1.length:Int) then some (false) else match Zmn (x0,x1,(0:Int)) with
 | some (.inl y1) => some (true)
 | some (.inr y2) => some (y2)
 | none=>none
def ZfQ (x:(List Entry)×(List Entry)):Option (Bool):=Zhj x.1 x.2
def Zim (x0:List Int) (x1:List Int) (x2:Int):Option (((List Int)×(List Int)×Int)⊕((Unit)⊕(Bool))) := bif decide (x2<(↑x0.length:Int)) then bif decide ((0:Int)<=x2) then bif decide (x2<(↑x0.length:Int)) then bif decide ((0:Int)<=x2) then bif decide (x2<(↑x1.length:Int)) then bif x0.getD x2.toNat (0:Int) != x1.getD x2.toNat (0:Int) then some (Sum.inr (Sum.inr false)) else some (Sum.inl (x0,x1,Zaf IntKind.i64 (x2+(1:Int)))) else none else none else none else none else some (Sum.inr (Sum.inl ()))
def ZeI (x:(List Int)×(List Int)×Int):Option (((List Int)×(List Int)×Int)⊕((Unit)⊕(Bool))):=Zim x.1 x.2.1 x.2.2
def ZmC (x:(List Int)×(List Int)×Int):Option ((Unit)⊕(Bool)):=Zav ZeI x
def Zle (x0:List Int) (x1:List Int):Option (Bool) := bif (↑x0.length:Int) != (↑x1.length:Int) then some (false) else match ZmC (x0,x1,(0:Int)) with
 | some (.inl y1) => some (true)
 | some (.inr y2) => some (y2)
 | none=>none
def ZfK (x:(List Int)×(List Int)):Option (Bool):=Zle x.1 x.2
def ZiU (x0:Memo) (x1:Memo) (x2:Int):Option ((Memo×Memo×Int)⊕((Unit)⊕(Bool))) := bif decide (x2<(↑x0.boxes.length:Int)) then bif decide ((0:Int)<=x2) then bif decide (x2<(↑x0.boxes.length:Int)) then bif decide ((0:Int)<=x2) then bif decide (x2<(↑x1.boxes.length:Int)) then match ZfQ (x0.boxes.getD x2.toNat ([]:List Entry),x1.boxes.getD x2.toNat ([]:List Entry)) with
 | some y1 => bif !y1 then some (Sum.inr (Sum.inr false)) else some (Sum.inl (x0,x1,Zaf IntKind.i64 (x2+(1:Int))))
 | none=>none else none else none else none else none else some (Sum.inr (Sum.inl ()))
def ZeH (x:Memo×Memo×Int):Option ((Memo×Memo×Int)⊕((Unit)⊕(Bool))):=ZiU x.1 x.2.1 x.2.2
def Zmu (x:Memo×Memo×Int):Option ((Unit)⊕(Bool)):=Zav ZeH x
def ZkS (x0:Memo) (x1:Memo):Option (Bool) := match ZfK (x0.words,x1.words) with
 | some y1 => bif !y1 then some (false) else bif (↑x0.boxes.length:Int) != (↑x1.boxes.length:Int) then some (false) else match Zmu (x0,x1,(0:Int)) with
  | some (.inl y2) => some (true)
  | some (.inr y3) => some (y3)
  | none=>none
 | none=>none
def Zhy (x:Memo×Memo):Option (Bool):=ZkS x.1 x.2
def Zit (x0:Thread) (x1:Thread) (x2:Int):Option ((Thread×Thread×Int)⊕((Thread×Thread)⊕(Bool))) := bif decide (x2<(↑x0.kids.length:Int)) then bif decide ((0:Int)<=x2) then bif decide (x2<(↑x0.kids.length:Int)) then bif decide ((0:Int)<=x2) then bif decide (x2<(↑x1.kids.length:Int)) then bif !((x0.kids.getD x2.toNat dKid).t == (x1.kids.getD x2.toNat dKid).t && ((x0.kids.getD x2.toNat dKid).ahead == (x1.kids.getD x2.toNat dKid).ahead && true)) then some (Sum.inr (Sum.inr false)) else some (Sum.inl (x0,x1,Zaf IntKind.i64 (x2+(1:Int)))) else none else none else none else none else some (Sum.inr (Sum.inl (x0,x1)))
def ZeE (x:Thread×Thread×Int):Option ((Thread×Thread×Int)⊕((Thread×Thread)⊕(Bool))):=Zit x.1 x.2.1 x.2.2
def Zmk (x:Thread×Thread×Int):Option ((Thread×Thread)⊕(Bool)):=Zav ZeE x
def ZkY (x0:Thread) (x1:Thread):Option (Bool) := match ZfQ (x0.batch,x1.batch) with
 | some y1 => bif !y1 then some (false) else match ZfK (x0.held,x1.held) with
  | some y2 => bif !y2 then some (false) else bif (↑x0.kids.length:Int) != (↑x1.kids.length:Int) then some (false) else match Zmk (x0,x1,(0:Int)) with
   | some (.inl y3) => bif y3.fst.phase == y3.snd.phase then bif y3.fst.item == y3.snd.item then bif y3.fst.op.tag == y3.snd.op.tag && (y3.fst.op.v == y3.snd.op.v && true) then bif y3.fst.stop == y3.snd.stop then bif y3.fst.node == y3.snd.node then bif y3.fst.at_ == y3.snd.at_ then bif y3.fst.layer == y3.snd.layer then bif y3.fst.left == y3.snd.left then bif y3.fst.width == y3.snd.width then bif y3.fst.who == y3.snd.who then bif y3.fst.x == y3.snd.x then bif y3.fst.y == y3.snd.y then some (y3.fst.until_ == y3.snd.until_) else some (false) else some (false) else some (false) else some (false) else some (false) else some (false) else some (false) else some (false) else some (false) else some (false) else some (false) else some (false)
   | some (.inr y4) => some (y4)
   | none=>none
  | none=>none
 | none=>none
def Zib (x:Thread×Thread):Option (Bool):=ZkY x.1 x.2
def Zip (x0:Tape) (x1:Tape) (x2:Int):Option ((Tape×Tape×Int)⊕((Unit)⊕(Bool))) := bif decide (x2<(↑x0.l.length:Int)) then bif decide ((0:Int)<=x2) then bif decide (x2<(↑x0.l.length:Int)) then bif decide ((0:Int)<=x2) then bif decide (x2<(↑x1.l.length:Int)) then bif x0.l.getD x2.toNat (0:Int) != x1.l.getD x2.toNat (0:Int) then some (Sum.inr (Sum.inr false)) else some (Sum.inl (x0,x1,Zaf IntKind.i64 (x2+(1:Int)))) else none else none else none else none else some (Sum.inr (Sum.inl ()))
def ZeX (x:Tape×Tape×Int):Option ((Tape×Tape×Int)⊕((Unit)⊕(Bool))):=Zip x.1 x.2.1 x.2.2
def Zmo (x:Tape×Tape×Int):Option ((Unit)⊕(Bool)):=Zav ZeX x
def ZkC (x0:Tape) (x1:Tape):Option (Bool) := bif x0.at_ != x1.at_ then some (false) else bif (↑x0.l.length:Int) != (↑x1.l.length:Int) then some (false) else match Zmo (x0,x1,(0:Int)) with
 | some (.inl y1) => some (true)
 | some (.inr y2) => some (y2)
 | none=>none
def Zh7 (x:Tape×Tape):Option (Bool):=ZkC x.1 x.2
def ZhU (x0:List Mark) (x1:List Mark) (x2:Int):Option (((List Mark)×(List Mark)×Int)⊕((Unit)⊕(Bool))) := bif decide (x2<(↑x0.length:Int)) then bif decide ((0:Int)<=x2) then bif decide (x2<(↑x0.length:Int)) then bif decide ((0:Int)<=x2) then bif decide (x2<(↑x1.length:Int)) then bif !((x0.getD x2.toNat ZaZ).t == (x1.getD x2.toNat ZaZ).t && ((x0.getD x2.toNat ZaZ).item == (x1.getD x2.toNat ZaZ).item && ((x0.getD x2.toNat ZaZ).op.tag == (x1.getD x2.toNat ZaZ).op.tag && ((x0.getD x2.toNat ZaZ).op.v == (x1.getD x2.toNat ZaZ).op.v && true) && ((x0.getD x2.toNat ZaZ).prior == (x1.getD x2.toNat ZaZ).prior && ((x0.getD x2.toNat ZaZ).step == (x1.getD x2.toNat ZaZ).step && true))))) then some (Sum.inr (Sum.inr false)) else some (Sum.inl (x0,x1,Zaf IntKind.i64 (x2+(1:Int)))) else none else none else none else none else some (Sum.inr (Sum.inl ()))
def Zex (x:(List Mark)×(List Mark)×Int):Option (((List Mark)×(List Mark)×Int)⊕((Unit)⊕(Bool))):=ZhU x.1 x.2.1 x.2.2
def ZlQ (x:(List Mark)×(List Mark)×Int):Option ((Unit)⊕(Bool)):=Zav Zex x
def ZjQ (x0:List Mark) (x1:List Mark):Option (Bool) := bif (↑x0.length:Int) != (↑x1.length:Int) then some (false) else match ZlQ (x0,x1,(0:Int)) with
 | some (.inl y1) => some (true)
 | some (.inr y2) => some (y2)
 | none=>none
def ZgQ (x:(List Mark)×(List Mark)):Option (Bool):=ZjQ x.1 x.2
def Ztw (x0:Turn) (x1:Turn):Option (Bool) := bif x0.c.threads == x1.c.threads && (x0.c.items == x1.c.items && (x0.c.backend == x1.c.backend && (x0.c.depth == x1.c.depth && (x0.c.layers == x1.c.layers && (x0.c.width == x1.c.width && (x0.c.spin == x1.c.spin && (x0.c.wait == x1.c.wait && (x0.c.bounded == x1.c.bounded && (x0.c.lo == x1.c.lo && (x0.c.hi == x1.c.hi && (x0.c.init == x1.c.init && true))))))))))) then bif x0.t == x1.t then bif x0.now == x1.now then match Zhy (x0.m,x1.m) with
 | some y1 => bif y1 then match Zib (x0.th,x1.th) with
  | some y2 => bif y2 then match Zh7 (x0.tape,x1.tape) with
   | some y3 => bif y3 then match ZgQ (x0.log,x1.log) with
    | some y4 => bif y4 then some (x0.done == x1.done) else some (false)
    | none=>none else some (false)
   | none=>none else some (false)
  | none=>none else some (false)
 | none=>none else some (false) else some (false) else some (false)
def Zj4 (x:Turn×Turn):Option (Bool):=Ztw x.1 x.2
def Zpd (x0:List Entry) (x1:List Entry) (x2:Int):Option (((List Entry)×(List Entry)×Int)⊕(((List Entry)))) := bif decide (x2<(↑x0.length:Int)) then bif decide ((0:Int)<=x2) then bif decide (x2<(↑x0.length:Int)) then bif decide ((0:Int)<=x2) then bif decide (x2<(↑x0.length:Int)) then bif fewB (x1.length+(x0.getD x2.toNat Zcg::([]:List Entry)).length) then some (Sum.inl (x0,x1++x0.getD x2.toNat Zcg::([]:List Entry),Zaf IntKind.i64 (x2+(1:Int)))) else none else none else none else none else none else some (Sum.inr x1)
def Zgq (x:(List Entry)×(List Entry)×Int):Option (((List Entry)×(List Entry)×Int)⊕(((List Entry)))):=Zpd x.1 x.2.1 x.2.2
def Zo9 (x:(List Entry)×(List Entry)×Int):Option (((List Entry))):=Zav Zgq x
def ZqO (x0:List Entry):Option ((List Entry)) := match Zo9 (x0,([]:List Entry),(0:Int)) with
 | some y1 => some (y1)
 | none=>none
def Zhx (x:(List Entry)):Option ((List Entry)):=ZqO x
def Zp7 (x0:Memo) (x1:Memo) (x2:Memo) (x3:Int):Option ((Memo×Memo×Memo×Int)⊕((Memo×Memo))) := bif decide (x3<(↑x0.boxes.length:Int)) then bif decide ((0:Int)<=x3) then bif decide (x3<(↑x0.boxes.length:Int)) then match Zhx (x0.boxes.getD x3.toNat ([]:List Entry)) with
 | some y1 => bif fewB (x2.boxes.length+(y1::([]:List (List Entry))).length) then some (Sum.inl (x0,x1,{ x2 with boxes:=x2.boxes++y1::([]:List (List Entry)) },Zaf IntKind.i64 (x3+(1:Int)))) else none
 | none=>none else none else none else some (Sum.inr (x1,x2))
def Zha (x:Memo×Memo×Memo×Int):Option ((Memo×Memo×Memo×Int)⊕((Memo×Memo))):=Zp7 x.1 x.2.1 x.2.2.1 x.2.2.2
def ZpL (x:Memo×Memo×Memo×Int):Option ((Memo×Memo)):=Zav Zha x
def Zr0 (x0:Memo):Option (Memo) := match ZpL (x0,Memo.mk ([]:List Int) ([]:List (List Entry)),{ x0 with boxes:=([]:List (List Entry)) },(0:Int)) with
 | some y1 => some (y1.snd)
 | none=>none
def Zmr (x:Memo):Option (Memo):=Zr0 x
def Zq2 (x0:Thread) (x1:Thread) (x2:Thread) (x3:Int):Option ((Thread×Thread×Thread×Int)⊕((Thread×Thread))) := bif decide (x3<(↑x0.kids.length:Int)) then bif decide ((0:Int)<=x3) then bif decide (x3<(↑x0.kids.length:Int)) then bif fewB (x2.kids.length+(x0.kids.getD x3.toNat dKid::([]:List Kid)).length) then some (Sum.inl (x0,x1,{ x2 with kids:=x2.kids++x0.kids.getD x3.toNat dKid::([]:List Kid) },Zaf IntKind.i64 (x3+(1:Int)))) else none else none else none else some (Sum.inr (x1,x2))
def ZhI (x:Thread×Thread×Thread×Int):Option ((Thread×Thread×Thread×Int)⊕((Thread×Thread))):=Zq2 x.1 x.2.1 x.2.2.1 x.2.2.2
def Zrt (x:Thread×Thread×Thread×Int):Option ((Thread×Thread)):=Zav ZhI x
def Ztb (x0:Thread):Option (Thread) := match Zhx x0.batch with
 | some y1 => match Zrt (x0,Thread.mk (0:Int) (0:Int) (Op.mk (0:Int) (0:Int)) ([]:List Entry) ([]:List Kid) ([]:List Int) (0:Int) (0:Int) (0:Int) (0:Int) (0:Int) (0:Int) (0:Int) (0:Int) (0:Int) (0:Int),{ x0 with batch:=y1,kids:=([]:List Kid) },(0:Int)) with
  | some y2 => some (y2.snd)
  | none=>none
 | none=>none
def ZnK (x:Thread):Option (Thread):=Ztb x
def Zrw (x0:List Mark) (x1:List Mark) (x2:Int):Option (((List Mark)×(List Mark)×Int)⊕(((List Mark)))) := bif decide (x2<(↑x0.length:Int)) then bif decide ((0:Int)<=x2) then bif decide (x2<(↑x0.length:Int)) then bif decide ((0:Int)<=x2) then bif decide (x2<(↑x0.length:Int)) then bif decide ((0:Int)<=x2) then bif decide (x2<(↑x0.length:Int)) then bif decide ((0:Int)<=x2) then bif decide (x2<(↑x0.length:Int)) then bif decide ((0:Int)<=x2) then bif decide (x2<(↑x0.length:Int)) then bif fewB (x1.length+(x0.getD x2.toNat ZaZ::([]:List Mark)).length) then some (Sum.inl (x0,x1++x0.getD x2.toNat ZaZ::([]:List Mark),Zaf IntKind.i64 (x2+(1:Int)))) else none else none else none else none else none else none else none else none else none else none else none else some (Sum.inr x1)
def Zhq (x:(List Mark)×(List Mark)×Int):Option (((List Mark)×(List Mark)×Int)⊕(((List Mark)))):=Zrw x.1 x.2.1 x.2.2
def Zq9 (x:(List Mark)×(List Mark)×Int):Option (((List Mark))):=Zav Zhq x
def Ztx (x0:List Mark):Option ((List Mark)) := match Zq9 (x0,([]:List Mark),(0:Int)) with
 | some y1 => some (y1)
 | none=>none
def ZnI (x:(List Mark)):Option ((List Mark)):=Ztx x
def Zwv (x0:Turn):Option (Turn) := match Zmr x0.m with
 | some y1 => match ZnK x0.th with
  | some y2 => match ZnI x0.log with
   | some y3 => some ({ x0 with m:=y1,th:=y2,log:=y3 })
   | none=>none
  | none=>none
 | none=>none
def ZgL (x:Turn):Option (Turn):=Zwv x
def ZgH (x0:Int) (x1:Int):Option (Int×Bool) :=
 some ((Zaf IntKind.i64 (x0+x1),decide (x1>=(0:Int)) == decide (Zaf IntKind.i64 (x0+x1)>=x0)))
def Zfr (x:Int×Int):Option (Int×Bool):=ZgH x.1 x.2
def ZcN (x0:Op) (x1:Int) (x2:Int) (x3:Int):Option (Int×Bool) := bif x0.tag == (1:Int) then some ((Zaf IntKind.i64 (x1+x0.v),true)) else bif x0.tag == (2:Int) then some ((Zaf IntKind.i64 (x1-x0.v),true)) else bif x0.tag == (3:Int) then some ((Zaf IntKind.i64 (↑(BitVec.ofInt IntKind.i64.bits x1 ||| BitVec.ofInt IntKind.i64.bits x0.v).toNat:Int),true)) else bif x0.tag == (4:Int) then some ((Zaf IntKind.i64 (↑(BitVec.ofInt IntKind.i64.bits x1 &&& BitVec.ofInt IntKind.i64.bits x0.v).toNat:Int),true)) else bif x0.tag == (5:Int) then some ((if x0.v>x1 then x0.v else x1,true)) else bif x0.tag == (6:Int) then some ((if x0.v<x1 then x0.v else x1,true)) else bif x0.tag == (7:Int) then some ((x0.v,true)) else bif x0.tag == (8:Int) then match Zfr (x1,x0.v) with
 | some y1 => bif !y1.snd then some ((x1,false)) else bif decide (y1.fst<x2) then some ((x1,false)) else bif decide (y1.fst>x3) then some ((x1,false)) else some ((y1.fst,true))
 | none=>none else bif x0.tag == (9:Int) then bif decide (x0.v<(0:Int)) then some ((x1,false)) else bif decide (x1<x2) then some ((x1,false)) else bif decide (IntKind.u64.wrap x0.v>=Zaf IntKind.u64 (IntKind.u64.wrap x1-IntKind.u64.wrap x2)) then some ((x2,true)) else some ((Zaf IntKind.i64 (x1-x0.v),true)) else some ((x1,false))
def Zc5 (x:Op×Int×Int×Int):Option (Int×Bool):=ZcN x.1 x.2.1 x.2.2.1 x.2.2.2
def ZlD (x0:Int):Option ((List Int)) := bif decide (x0<(1:Int)) then some (([]:List Int)) else bif decide (x0>(10000:Int)) then some (([]:List Int)) else bif x0 == x0 then bif decide ((0:Int)<=x0) then bif decide (x0<=ZbC) then some (List.replicate x0.toNat (0:Int)) else none else none else none
def ZhT (x:Int):Option ((List Int)):=ZlD x
def Zf5 (x0:Int):Option ((List (List Entry))) := bif decide (x0<(1:Int)) then some (([]:List (List Entry))) else bif decide (x0>(10000:Int)) then some (([]:List (List Entry))) else bif x0 == x0 then bif decide ((0:Int)<=x0) then bif decide (x0<=ZbC) then some (List.replicate x0.toNat ([]:List Entry)) else none else none else none
def Zd1 (x:Int):Option ((List (List Entry))):=Zf5 x
def Znh (x0:Int) (x1:Int):Option (Memo) := match ZhT x0 with
 | some y1 => match Zd1 x1 with
  | some y2 => some (Memo.mk y1 y2)
  | none=>none
 | none=>none
def Zni (x:Int×Int):Option (Memo):=Znh x.1 x.2
def Zjx (x0:Config):Option (Int) := bif decide (x0.depth<(0:Int)) then none else some (Zaf IntKind.i64 (Zaf IntKind.i64 ((1:Int)*(2:Int) ^ min x0.depth.toNat IntKind.i64.bits)-(1:Int)))
def Zfm (x:Config):Option (Int):=Zjx x
def ZmQ (x0:Config):Option (Plan) := match Zfm x0 with
 | some y1 => some (Plan.mk (1:Int) (Zaf IntKind.i64 ((1:Int)+y1)) (Zaf IntKind.i64 (Zaf IntKind.i64 ((1:Int)+y1)+Zaf IntKind.i64 (x0.layers*x0.width))) (Zaf IntKind.i64 (x0.items*Zaf IntKind.i64 (Zaf IntKind.i64 ((1:Int)+y1)+Zaf IntKind.i64 (x0.layers*x0.width)))))
 | none=>none
def Zcp (x:Config):Option (Plan):=ZmQ x
def Zk3 (x0:Config):Option (Int) := match Zcp x0 with
 | some y1 => some (Zaf IntKind.i64 (y1.lines+Zaf IntKind.i64 ((2:Int)*x0.threads)))
 | none=>none
def Zlc (x:Config):Option (Int):=Zk3 x
def Zh0 (x0:Config) (x1:Int):Option (Int) := bif decide (x1<(0:Int)) then some ((-1:Int)) else bif decide (x1>=x0.items) then some ((-1:Int)) else match Zcp x0 with
 | some y1 => some (Zaf IntKind.i64 (x1*y1.block))
 | none=>none
def Zdk (x:Config×Int):Option (Int):=Zh0 x.1 x.2
def Zet (x0:Config) (x1:Memo) (x2:Memo) (x3:Int) (x4:Int):Option ((Config×Memo×Memo×Int×Int)⊕((Memo×Memo))) := bif decide (x4<x3) then match Zdk (x0,x4) with
 | some y1 => bif decide ((0:Int)<=y1) then bif decide (y1<(↑x2.words.length:Int)) then some (Sum.inl (x0,x1,{ x2 with words:=x2.words.set (Int.toNat y1) x0.init },x3,Zaf IntKind.i64 (x4+(1:Int)))) else none else none
 | none=>none else some (Sum.inr (x1,x2))
def ZfC (x:Config×Memo×Memo×Int×Int):Option ((Config×Memo×Memo×Int×Int)⊕((Memo×Memo))):=Zet x.1 x.2.1 x.2.2.1 x.2.2.2.1 x.2.2.2.2
def ZlT (x:Config×Memo×Memo×Int×Int):Option ((Memo×Memo)):=Zav ZfC x
def ZjS (x0:Config):Option (Memo) := match Zlc x0 with
 | some y1 => match Zni (y1,x0.threads) with
  | some y2 => match ZlT (x0,Memo.mk ([]:List Int) ([]:List (List Entry)),y2,x0.items,(0:Int)) with
   | some y3 => some (y3.snd)
   | none=>none
  | none=>none
 | none=>none
def ZdA (x:Config):Option (Memo):=ZjS x
def Ze0 (x0:Int) (x1:Int):Option (Int) := bif decide (x0<(1:Int)) then some ((0:Int)) else bif decide (Zaf IntKind.i64 (x0-(1:Int))<(0:Int)) then none else some (Zaf IntKind.i64 (↑(BitVec.ofInt IntKind.i64.bits (Zaf IntKind.i64 ((1:Int)*(2:Int) ^ min (Zaf IntKind.i64 (x0-(1:Int))).toNat IntKind.i64.bits)) ||| BitVec.ofInt IntKind.i64.bits (Zaf IntKind.i64 (↑(BitVec.ofInt IntKind.i64.bits (x1.fdiv ((2:Int) ^ min (Int.toNat (1:Int)) IntKind.i64.bits)) &&& BitVec.ofInt IntKind.i64.bits (Zaf IntKind.i64 (Zaf IntKind.i64 ((1:Int)*(2:Int) ^ min (Zaf IntKind.i64 (x0-(1:Int))).toNat IntKind.i64.bits)-(1:Int)))).toNat:Int))).toNat:Int))
def Zks (x:Int×Int):Option (Int):=Ze0 x.1 x.2
def Zio (x0:Config) (x1:Int) (x2:Thread) (x3:Int) (x4:Op) (x5:Int):Option (Thread) := match Zks (x0.depth,x1) with
 | some y1 => bif decide (x0.wait>(0:Int)) then some (Thread.mk (1:Int) x3 x4 (Entry.mk x1 x4::([]:List Entry)) ([]:List Kid) ([]:List Int) (0:Int) y1 (0:Int) (0:Int) (0:Int) x2.width (0:Int) (0:Int) (0:Int) (Zaf IntKind.i64 (x5+x0.wait))) else some (Thread.mk (1:Int) x3 x4 (Entry.mk x1 x4::([]:List Entry)) ([]:List Kid) ([]:List Int) (0:Int) y1 (0:Int) (0:Int) (0:Int) x2.width (0:Int) (0:Int) (0:Int) (0:Int))
 | none=>none
def ZcA (x:Config×Int×Thread×Int×Op×Int):Option (Thread):=Zio x.1 x.2.1 x.2.2.1 x.2.2.2.1 x.2.2.2.2.1 x.2.2.2.2.2
def Zvt:Option (Thread) :=
 some (Thread.mk (0:Int) (0:Int) (Op.mk (0:Int) (0:Int)) ([]:List Entry) ([]:List Kid) ([]:List Int) (0:Int) (0:Int) (0:Int) (0:Int) (0:Int) (1:Int) (0:Int) (0:Int) (0:Int) (0:Int))
def ZdX (x:Unit):Option (Thread):=Zvt
def ZqJ (x0:Turn):Option (Bool) := match Zl8 x0 with
 | some y1 => bif y1 then bif decide (x0.th.phase<(17:Int)) then some (true) else bif decide (x0.th.layer>=(1:Int)) then some (decide (x0.th.layer<=(3:Int))) else some (false) else some (false)
 | none=>none
def ZlO (x:Turn):Option (Bool):=ZqJ x
def Zl3 (x0:Op) (x1:Bool):Option (Bool) := bif x1 then bif x0.tag == (8:Int) then some (true) else bif x0.tag == (9:Int) then some (decide (x0.v>=(0:Int))) else some (false) else bif decide (x0.tag>=(1:Int)) then some (decide (x0.tag<=(7:Int))) else some (false)
def Zja (x:Op×Bool):Option (Bool):=Zl3 x.1 x.2
def Zr6 (x0:Config):Option (Int) :=
 some (Zaf IntKind.i64 (Zaf IntKind.i64 ((20:Int)+Zaf IntKind.i64 ((8:Int)*x0.depth))+Zaf IntKind.i64 (x0.layers*Zaf IntKind.i64 ((20:Int)+Zaf IntKind.i64 ((2:Int)*x0.spin)))))
def Zmq (x:Config):Option (Int):=Zr6 x
def Zee (x0:Thread):Option (Bool) :=
 some (x0.phase != (0:Int))
def Zbz (x:Thread):Option (Bool):=Zee x
def Zt6 (x0:Config) (x1:Int):Option (Int) := bif decide (x1<(0:Int)) then some ((-1:Int)) else bif decide (x1>=x0.items) then some ((-1:Int)) else match ZdG x0 with
 | some y1 => some (Zaf IntKind.i64 (x1*y1))
 | none=>none
def ZeU (x:Config×Int):Option (Int):=Zt6 x.1 x.2
def Zur (x0:Config) (x1:Int) (x2:Int):Option (Int) := bif decide (x1<(0:Int)) then some ((-1:Int)) else bif decide (x1>=x0.items) then some ((-1:Int)) else bif decide (x2<(1:Int)) then some ((-1:Int)) else match Zff x0 with
 | some y1 => bif decide (x2>y1) then some ((-1:Int)) else match ZdG x0 with
  | some y2 => some (Zaf IntKind.i64 (Zaf IntKind.i64 (x1*y2)+x2))
  | none=>none
 | none=>none
def ZfM (x:Config×Int×Int):Option (Int):=Zur x.1 x.2.1 x.2.2
def Zt7 (x0:Config) (x1:Int):Option (Int) := bif decide (x1<(0:Int)) then some ((-1:Int)) else bif decide (x1>=x0.threads) then some ((-1:Int)) else match ZdG x0 with
 | some y1 => some (Zaf IntKind.i64 (Zaf IntKind.i64 (x0.items*y1)+Zaf IntKind.i64 ((2:Int)*x1)))
 | none=>none
def Zdq (x:Config×Int):Option (Int):=Zt7 x.1 x.2
def Zk2 (x0:List SEntry) (x1:List Int):Option (Bool) := bif decide ((↑x0.length:Int)>(400:Int)) then some (true) else some (decide ((↑x1.length:Int)>(200:Int)))
def Zlg (x:(List SEntry)×(List Int)):Option (Bool):=Zk2 x.1 x.2
def Zth (x0:Int) (x1:Memo) (x2:Memo) (x3:Int):Option ((Int×Memo×Memo×Int)⊕((Memo×Memo))) := bif decide (x3<x0) then bif decide (x0<=(10000:Int)) then bif fewB (x2.boxes.length+(([]:List Entry)::([]:List (List Entry))).length) then some (Sum.inl (x0,x1,{ x2 with boxes:=x2.boxes++([]:List Entry)::([]:List (List Entry)) },Zaf IntKind.i64 (x3+(1:Int)))) else none else some (Sum.inr (x1,x2)) else some (Sum.inr (x1,x2))
def ZjN (x:Int×Memo×Memo×Int):Option ((Int×Memo×Memo×Int)⊕((Memo×Memo))):=Zth x.1 x.2.1 x.2.2.1 x.2.2.2
def ZtK (x:Int×Memo×Memo×Int):Option ((Memo×Memo)):=Zav ZjN x
def Zti (x0:Int) (x1:Int) (x2:Memo) (x3:Memo) (x4:Int):Option ((Int×Int×Memo×Memo×Int)⊕((Int×Memo×Memo))) := bif decide (x4<x0) then bif decide (x0<=(10000:Int)) then bif fewB (x3.words.length+((0:Int)::([]:List Int)).length) then some (Sum.inl (x0,x1,x2,{ x3 with words:=x3.words++(0:Int)::([]:List Int) },Zaf IntKind.i64 (x4+(1:Int)))) else none else some (Sum.inr (x1,x2,x3)) else some (Sum.inr (x1,x2,x3))
def ZjM (x:Int×Int×Memo×Memo×Int):Option ((Int×Int×Memo×Memo×Int)⊕((Int×Memo×Memo))):=Zti x.1 x.2.1 x.2.2.1 x.2.2.2.1 x.2.2.2.2
def Zty (x:Int×Int×Memo×Memo×Int):Option ((Int×Memo×Memo)):=Zav ZjM x
def Zwg (x0:Int) (x1:Int):Option (Memo) := match Zty (x0,x1,Memo.mk ([]:List Int) ([]:List (List Entry)),Memo.mk ([]:List Int) ([]:List (List Entry)),(0:Int)) with
 | some y1 => match ZtK (y1.fst,y1.snd.fst,y1.snd.snd,(0:Int)) with
  | some y2 => some (y2.snd)
  | none=>none
 | none=>none
def ZpA (x:Int×Int):Option (Memo):=Zwg x.1 x.2
def ZtJ (x0:Memo) (x1:Int) (x2:Int):Option (Memo×Int) := bif decide (x1<(0:Int)) then some ((x0,(30:Int))) else bif decide (x1>=(↑x0.words.length:Int)) then some ((x0,(30:Int))) else bif fewB ((0:Nat)+x0.words.length) then bif decide ((0:Int)<=x1) then bif decide (x1<(↑x0.words.length:Int)) then some (({ x0 with words:=x0.words.set x1.toNat x2 },(0:Int))) else none else none else none
def Zcx (x:Memo×Int×Int):Option (Memo×Int):=ZtJ x.1 x.2.1 x.2.2
def ZqC (x0:Config) (x1:Memo) (x2:Memo) (x3:Int):Option ((Config×Memo×Memo×Int)⊕((Memo×Memo))) := bif decide (x3<x0.items) then match ZeU (x0,x3) with
 | some y1 => match Zcx (x2,y1,x0.init) with
  | some y2 => some (Sum.inl (x0,x1,y2.fst,Zaf IntKind.i64 (x3+(1:Int))))
  | none=>none
 | none=>none else some (Sum.inr (x1,x2))
def Zij (x:Config×Memo×Memo×Int):Option ((Config×Memo×Memo×Int)⊕((Memo×Memo))):=ZqC x.1 x.2.1 x.2.2.1 x.2.2.2
def Zqw (x:Config×Memo×Memo×Int):Option ((Memo×Memo)):=Zav Zij x
def Ztu (x0:Config):Option (Memo) := match ZfS x0 with
 | some y1 => match ZpA (y1,x0.threads) with
  | some y2 => match Zqw (x0,Memo.mk ([]:List Int) ([]:List (List Entry)),y2,(0:Int)) with
   | some y3 => some (y3.snd)
   | none=>none
  | none=>none
 | none=>none
def Znv (x:Config):Option (Memo):=Ztu x
def ZwD:Option (Thread) :=
 some (Thread.mk (0:Int) (0:Int) (Op.mk (0:Int) (0:Int)) ([]:List Entry) ([]:List Kid) ([]:List Int) (0:Int) (0:Int) (0:Int) (0:Int) (0:Int) (1:Int) (0:Int) (0:Int) (0:Int) (0:Int))
def ZpF (x:Unit):Option (Thread):=ZwD
def ZtF (x0:Config) (x1:Wld) (x2:Wld) (x3:Int):Option ((Config×Wld×Wld×Int)⊕((Wld×Wld))) := bif decide (x3<x0.threads) then match ZpF () with
 | some y1 => bif fewB (x2.t.length+(y1::([]:List Thread)).length) then some (Sum.inl (x0,x1,{ x2 with t:=x2.t++y1::([]:List Thread) },Zaf IntKind.i64 (x3+(1:Int)))) else none
 | none=>none else some (Sum.inr (x1,x2))
def Zjw (x:Config×Wld×Wld×Int):Option ((Config×Wld×Wld×Int)⊕((Wld×Wld))):=ZtF x.1 x.2.1 x.2.2.1 x.2.2.2
def Zs7 (x:Config×Wld×Wld×Int):Option ((Wld×Wld)):=Zav Zjw x
def Zwq (x0:Config) (x1:List Int):Option (Wld×Int) := match Zej x0 with
 | some y1 => bif y1 != (0:Int) then some ((Wld.mk (Config.mk (0:Int) (0:Int) (0:Int) (0:Int) (0:Int) (0:Int) (0:Int) (0:Int) false (0:Int) (0:Int) (0:Int)) (Memo.mk ([]:List Int) ([]:List (List Entry))) ([]:List Thread) (0:Int) (0:Int) (Tape.mk ([]:List Int) (0:Int)) ([]:List Mark) ([]:List Event),y1)) else match Znv x0 with
  | some y2 => bif fewB ((0:Nat)+x1.length) then match Zs7 (x0,Wld.mk (Config.mk (0:Int) (0:Int) (0:Int) (0:Int) (0:Int) (0:Int) (0:Int) (0:Int) false (0:Int) (0:Int) (0:Int)) (Memo.mk ([]:List Int) ([]:List (List Entry))) ([]:List Thread) (0:Int) (0:Int) (Tape.mk ([]:List Int) (0:Int)) ([]:List Mark) ([]:List Event),Wld.mk x0 y2 ([]:List Thread) (0:Int) (0:Int) (Tape.mk x1 (0:Int)) ([]:List Mark) ([]:List Event),(0:Int)) with
   | some y3 => some ((y3.snd,(0:Int)))
   | none=>none else none
  | none=>none
 | none=>none
def Zpk (x:Config×(List Int)):Option (Wld×Int):=Zwq x.1 x.2
def ZjA (x0:Config) (x1:SEntry):Option (Int) := bif decide (x1.kind<(1:Int)) then some ((90:Int)) else bif decide (x1.kind>(3:Int)) then some ((90:Int)) else bif x1.kind == (3:Int) then some ((0:Int)) else bif decide (x1.t<(0:Int)) then some ((91:Int)) else bif decide (x1.t>=x0.threads) then some ((91:Int)) else bif x1.kind == (2:Int) then some ((0:Int)) else bif decide (x1.item<(0:Int)) then some ((92:Int)) else bif decide (x1.item>=x0.items) then some ((92:Int)) else match Zja (x1.op,x0.bounded) with
 | some y1 => bif !y1 then some ((93:Int)) else some ((0:Int))
 | none=>none
def Zfc (x:Config×SEntry):Option (Int):=ZjA x.1 x.2
def Zuu (x0:Thread):Option (Bool) :=
 some (x0.phase != (0:Int))
def ZhD (x:Thread):Option (Bool):=Zuu x
def ZvP (x0:Wld) (x1:Event):Option (Wld) := bif fewB ((0:Nat)+x0.hist.length) then bif fewB (x0.hist.length+({ x1 with step:=x0.steps }::([]:List Event)).length) then some ({ x0 with hist:=x0.hist++{ x1 with step:=x0.steps }::([]:List Event) }) else none else none
def ZhH (x:Wld×Event):Option (Wld):=ZvP x.1 x.2
def Zr1 (x0:Wld) (x1:Int) (x2:Thread):Option (Wld) := bif fewB ((0:Nat)+x0.t.length) then bif decide ((0:Int)<=x1) then bif decide (x1<(↑x0.t.length:Int)) then some ({ x0 with t:=x0.t.set x1.toNat x2 }) else none else none else none
def ZiY (x:Wld×Int×Thread):Option (Wld):=Zr1 x.1 x.2.1 x.2.2
def ZrN (x0:Int) (x1:Int) (x2:Int) (x3:Int):Option ((Int×Int×Int×Int)⊕((Int×Int))) := bif decide (x3<x0) then some (Sum.inl (x0,x1,Zaf IntKind.i64 ((2:Int)*x2),Zaf IntKind.i64 (x3+(1:Int)))) else some (Sum.inr (x1,x2))
def Zil (x:Int×Int×Int×Int):Option ((Int×Int×Int×Int)⊕((Int×Int))):=ZrN x.1 x.2.1 x.2.2.1 x.2.2.2
def Zsa (x:Int×Int×Int×Int):Option ((Int×Int)):=Zav Zil x
def Zue (x0:Int) (x1:Int):Option (Int) := bif decide (x0<(1:Int)) then some ((0:Int)) else match Zsa (x0,x1,(1:Int),(1:Int)) with
 | some y1 => bif decide (y1.snd=(0:Int)) then none else some (Zaf IntKind.i64 (y1.snd+(Zaf IntKind.i64 (Int.tdiv y1.fst (2:Int))).tmod y1.snd))
 | none=>none
def ZoL (x:Int×Int):Option (Int):=Zue x.1 x.2
def Ztv (x0:Config) (x1:Int) (x2:Thread) (x3:Int) (x4:Op) (x5:Int):Option (Thread) := match ZoL (x0.depth,x1) with
 | some y1 => bif decide (x0.wait>(0:Int)) then some (Thread.mk (1:Int) x3 x4 (Entry.mk x1 x4::([]:List Entry)) ([]:List Kid) ([]:List Int) (0:Int) y1 (0:Int) (0:Int) (0:Int) x2.width (0:Int) (0:Int) (0:Int) (Zaf IntKind.i64 (x5+x0.wait))) else some (Thread.mk (1:Int) x3 x4 (Entry.mk x1 x4::([]:List Entry)) ([]:List Kid) ([]:List Int) (0:Int) y1 (0:Int) (0:Int) (0:Int) x2.width (0:Int) (0:Int) (0:Int) (0:Int))
 | none=>none
def ZnF (x:Config×Int×Thread×Int×Op×Int):Option (Thread):=Ztv x.1 x.2.1 x.2.2.1 x.2.2.2.1 x.2.2.2.2.1 x.2.2.2.2.2
def Ztk (x0:Turn):Option (Turn) := bif x0.c.backend == (2:Int) then bif decide (x0.c.depth>(0:Int)) then bif x0.c.backend == (3:Int) then bif decide (x0.c.layers>(0:Int)) then some ({ x0 with th:={ x0.th with phase:=(17:Int),layer:=(1:Int) } }) else some ({ x0 with th:={ x0.th with phase:=(4:Int) } }) else some ({ x0 with th:={ x0.th with phase:=(4:Int) } }) else bif x0.c.backend == (3:Int) then bif decide (x0.c.layers>(0:Int)) then some ({ x0 with th:={ x0.th with phase:=(17:Int),layer:=(1:Int) } }) else some ({ x0 with th:={ x0.th with phase:=(2:Int) } }) else some ({ x0 with th:={ x0.th with phase:=(2:Int) } }) else bif x0.c.backend == (3:Int) then bif decide (x0.c.layers>(0:Int)) then some ({ x0 with th:={ x0.th with phase:=(17:Int),layer:=(1:Int) } }) else some ({ x0 with th:={ x0.th with phase:=(2:Int) } }) else some ({ x0 with th:={ x0.th with phase:=(2:Int) } })
def Znz (x:Turn):Option (Turn):=Ztk x
def ZuO (x0:Memo) (x1:Int):Option (Int×Int) := bif decide (x1<(0:Int)) then some (((0:Int),(30:Int))) else bif decide (x1>=(↑x0.words.length:Int)) then some (((0:Int),(30:Int))) else bif decide ((0:Int)<=x1) then bif decide (x1<(↑x0.words.length:Int)) then some ((x0.words.getD x1.toNat (0:Int),(0:Int))) else none else none
def ZcM (x:Memo×Int):Option (Int×Int):=ZuO x.1 x.2
def ZuY:Option (Int) :=
 some ((5:Int))
def Zh2 (x:Unit):Option (Int):=ZuY
def ZrK (x0:Config) (x1:Int):Option (Int) := bif decide (x1<(0:Int)) then some ((-1:Int)) else bif decide (x1>=x0.threads) then some ((-1:Int)) else match ZdG x0 with
 | some y1 => some (Zaf IntKind.i64 (Zaf IntKind.i64 (Zaf IntKind.i64 (x0.items*y1)+Zaf IntKind.i64 ((2:Int)*x1))+(1:Int)))
 | none=>none
def ZiB (x:Config×Int):Option (Int):=ZrK x.1 x.2
def ZrL (x0:Turn):Option (Turn) := bif decide (x0.th.at_>=(0:Int)) then bif decide (x0.th.at_<(↑x0.th.kids.length:Int)) then some ({ x0 with th:={ x0.th with phase:=(15:Int) } }) else some ({ x0 with th:={ x0.th with phase:=(0:Int) },done:=true }) else some ({ x0 with th:={ x0.th with phase:=(0:Int) },done:=true })
def Zf9 (x:Turn):Option (Turn):=ZrL x
def ZtB (x0:List Entry) (x1:Int) (x2:Int) (x3:Int) (x4:Int):Option (((List Entry)×Int×Int×Int×Int)⊕((Int))) := bif decide (x4<(↑x0.length:Int)) then bif decide ((0:Int)<=x4) then bif decide (x4<(↑x0.length:Int)) then match Zc5 ((x0.getD x4.toNat Zcg).op,x1,x2,x3) with
 | some y1 => some (Sum.inl (x0,y1.fst,x2,x3,Zaf IntKind.i64 (x4+(1:Int))))
 | none=>none else none else none else some (Sum.inr x1)
def ZjP (x:(List Entry)×Int×Int×Int×Int):Option (((List Entry)×Int×Int×Int×Int)⊕((Int))):=ZtB x.1 x.2.1 x.2.2.1 x.2.2.2.1 x.2.2.2.2
def ZtI (x:(List Entry)×Int×Int×Int×Int):Option ((Int)):=Zav ZjP x
def Zwl (x0:List Entry) (x1:Int) (x2:Int) (x3:Int):Option (Int) := match ZtI (x0,x1,x2,x3,(0:Int)) with
 | some y1 => some (y1)
 | none=>none
def ZgB (x:(List Entry)×Int×Int×Int):Option (Int):=Zwl x.1 x.2.1 x.2.2.1 x.2.2.2
def Zry (x0:List Entry) (x1:Int) (x2:List Entry) (x3:Int):Option (((List Entry)×Int×(List Entry)×Int)⊕(((List Entry)))) := bif decide (x3<(↑x0.length:Int)) then bif decide (x3<x1) then bif decide ((0:Int)<=x3) then bif decide (x3<(↑x0.length:Int)) then bif fewB (x2.length+(x0.getD x3.toNat Zcg::([]:List Entry)).length) then some (Sum.inl (x0,x1,x2++x0.getD x3.toNat Zcg::([]:List Entry),Zaf IntKind.i64 (x3+(1:Int)))) else none else none else none else some (Sum.inr x2) else some (Sum.inr x2)
def Zi4 (x:(List Entry)×Int×(List Entry)×Int):Option (((List Entry)×Int×(List Entry)×Int)⊕(((List Entry)))):=Zry x.1 x.2.1 x.2.2.1 x.2.2.2
def Zse (x:(List Entry)×Int×(List Entry)×Int):Option (((List Entry))):=Zav Zi4 x
def Zuw (x0:List Entry) (x1:Int):Option ((List Entry)) := match Zse (x0,x1,([]:List Entry),(0:Int)) with
 | some y1 => some (y1)
 | none=>none
def Zkt (x:(List Entry)×Int):Option ((List Entry)):=Zuw x.1 x.2
def ZvQ (x0:Turn):Option (Turn) := bif decide ((0:Int)<=x0.th.at_) then bif decide (x0.th.at_<(↑x0.th.kids.length:Int)) then bif x0.th.phase == (15:Int) then match ZiB (x0.c,(x0.th.kids.getD x0.th.at_.toNat dKid).t) with
 | some y1 => match Zkt (x0.th.batch,(x0.th.kids.getD x0.th.at_.toNat dKid).ahead) with
  | some y2 => match ZgB (y2,x0.th.x,x0.c.lo,x0.c.hi) with
   | some y3 => match Zcx (x0.m,y1,y3) with
    | some y4 => bif y4.snd == (0:Int) then some ({ x0 with m:=y4.fst,th:={ x0.th with phase:=(16:Int) } }) else some (x0)
    | none=>none
   | none=>none
  | none=>none
 | none=>none else match Zdq (x0.c,(x0.th.kids.getD x0.th.at_.toNat dKid).t) with
 | some y1 => match Zh2 () with
  | some y2 => match Zcx (x0.m,y1,y2) with
   | some y3 => bif y3.snd != (0:Int) then some (x0) else match Zf9 { x0 with m:=y3.fst,th:={ x0.th with at_:=Zaf IntKind.i64 (x0.th.at_+(1:Int)) } } with
     | some y4 => some (y4)
     | none=>none
   | none=>none
  | none=>none
 | none=>none else none else none
def ZkX (x:Turn):Option (Turn):=ZvQ x
def ZuH (x0:Turn):Option (Turn×Bool) := bif x0.th.phase == (13:Int) then match Zdq (x0.c,x0.t) with
 | some y1 => match ZcM (x0.m,y1) with
  | some y2 => bif y2.snd == (0:Int) then match Zh2 () with
    | some y3 => bif y2.fst == y3 then some (({ x0 with th:={ x0.th with phase:=(14:Int) } },true)) else some ((x0,true))
    | none=>none else some ((x0,true))
  | none=>none
 | none=>none else bif x0.th.phase == (14:Int) then match ZiB (x0.c,x0.t) with
  | some y1 => match ZcM (x0.m,y1) with
   | some y2 => bif y2.snd != (0:Int) then some ((x0,true)) else match Zf9 { x0 with th:={ x0.th with at_:=(0:Int),x:=y2.fst } } with
     | some y3 => some ((y3,true))
     | none=>none
   | none=>none
  | none=>none else bif x0.th.phase == (15:Int) then bif x0.th.phase == (15:Int) then bif decide (x0.th.at_<(0:Int)) then some ((x0,true)) else bif decide (x0.th.at_>=(↑x0.th.kids.length:Int)) then some ((x0,true)) else match ZkX x0 with
      | some y1 => some ((y1,true))
      | none=>none else some ((x0,false)) else bif x0.th.phase == (16:Int) then bif decide (x0.th.at_<(0:Int)) then some ((x0,true)) else bif decide (x0.th.at_>=(↑x0.th.kids.length:Int)) then some ((x0,true)) else match ZkX x0 with
      | some y1 => some ((y1,true))
      | none=>none else some ((x0,false))
def ZoH (x:Turn):Option (Turn×Bool):=ZuH x
def Zp9 (x0:List Entry) (x1:Int) (x2:Int) (x3:Int) (x4:List Int) (x5:Int):Option (((List Entry)×Int×Int×Int×(List Int)×Int)⊕(((List Int)))) := bif decide (x5<(↑x0.length:Int)) then match Zkt (x0,x5) with
 | some y1 => match ZgB (y1,x1,x2,x3) with
  | some y2 => bif fewB (x4.length+(y2::([]:List Int)).length) then some (Sum.inl (x0,x1,x2,x3,x4++y2::([]:List Int),Zaf IntKind.i64 (x5+(1:Int)))) else none
  | none=>none
 | none=>none else some (Sum.inr x4)
def ZgW (x:(List Entry)×Int×Int×Int×(List Int)×Int):Option (((List Entry)×Int×Int×Int×(List Int)×Int)⊕(((List Int)))):=Zp9 x.1 x.2.1 x.2.2.1 x.2.2.2.1 x.2.2.2.2.1 x.2.2.2.2.2
def Zqa (x:(List Entry)×Int×Int×Int×(List Int)×Int):Option (((List Int))):=Zav ZgW x
def ZrD (x0:List Entry) (x1:Int) (x2:Int) (x3:Int):Option ((List Int)) := match Zqa (x0,x1,x2,x3,([]:List Int),(0:Int)) with
 | some y1 => some (y1)
 | none=>none
def Zmj (x:(List Entry)×Int×Int×Int):Option ((List Int)):=ZrD x.1 x.2.1 x.2.2.1 x.2.2.2
def ZpO (x0:Int) (x1:Turn) (x2:Turn) (x3:List Int) (x4:List Mark) (x5:Int):Option ((Int×Turn×Turn×(List Int)×(List Mark)×Int)⊕((Int×Turn×Turn×(List Mark)))) := bif decide (x5<(↑x1.th.batch.length:Int)) then bif decide ((0:Int)<=x5) then bif decide (x5<(↑x1.th.batch.length:Int)) then bif decide ((0:Int)<=x5) then bif decide (x5<(↑x1.th.batch.length:Int)) then bif decide ((0:Int)<=x5) then bif decide (x5<(↑x3.length:Int)) then bif fewB (x4.length+(Mark.mk (x1.th.batch.getD x5.toNat Zcg).t x1.th.item (x1.th.batch.getD x5.toNat Zcg).op (x3.getD x5.toNat (0:Int)) (0:Int)::([]:List Mark)).length) then some (Sum.inl (x0,x1,x2,x3,x4++Mark.mk (x1.th.batch.getD x5.toNat Zcg).t x1.th.item (x1.th.batch.getD x5.toNat Zcg).op (x3.getD x5.toNat (0:Int)) (0:Int)::([]:List Mark),Zaf IntKind.i64 (x5+(1:Int)))) else none else none else none else none else none else none else none else some (Sum.inr (x0,x1,x2,x4))
def Zg5 (x:Int×Turn×Turn×(List Int)×(List Mark)×Int):Option ((Int×Turn×Turn×(List Int)×(List Mark)×Int)⊕((Int×Turn×Turn×(List Mark)))):=ZpO x.1 x.2.1 x.2.2.1 x.2.2.2.1 x.2.2.2.2.1 x.2.2.2.2.2
def ZpM (x:Int×Turn×Turn×(List Int)×(List Mark)×Int):Option ((Int×Turn×Turn×(List Mark))):=Zav Zg5 x
def Zsd (x0:Turn) (x1:Int):Option (Turn) := match Zmj (x0.th.batch,x1,x0.c.lo,x0.c.hi) with
 | some y1 => bif fewB ((0:Nat)+x0.log.length) then match ZpM (x1,x0,Turn.mk (Config.mk (0:Int) (0:Int) (0:Int) (0:Int) (0:Int) (0:Int) (0:Int) (0:Int) false (0:Int) (0:Int) (0:Int)) (0:Int) (0:Int) (Memo.mk ([]:List Int) ([]:List (List Entry))) (Thread.mk (0:Int) (0:Int) (Op.mk (0:Int) (0:Int)) ([]:List Entry) ([]:List Kid) ([]:List Int) (0:Int) (0:Int) (0:Int) (0:Int) (0:Int) (0:Int) (0:Int) (0:Int) (0:Int) (0:Int)) (Tape.mk ([]:List Int) (0:Int)) ([]:List Mark) false,y1,x0.log,(0:Int)) with
  | some y2 => match Zf9 { y2.snd.fst with th:={ y2.snd.fst.th with at_:=(0:Int),x:=y2.fst },log:=y2.snd.snd.snd } with
   | some y3 => some (y3)
   | none=>none
  | none=>none else none
 | none=>none
def ZeV (x:Turn×Int):Option (Turn):=Zsd x.1 x.2
def ZuU (x0:Turn):Option (Bool) := bif decide (x0.th.until_>(0:Int)) then some (decide (x0.now>=x0.th.until_)) else some (false)
def Zhn (x:Turn):Option (Bool):=ZuU x
def ZrO (x0:Turn):Option (Turn) := bif decide (x0.th.layer<x0.c.layers) then match Zhn x0 with
 | some y1 => bif !y1 then some ({ x0 with th:={ x0.th with phase:=(17:Int),layer:=Zaf IntKind.i64 (x0.th.layer+(1:Int)) } }) else some ({ x0 with th:={ x0.th with phase:=(2:Int) } })
 | none=>none else some ({ x0 with th:={ x0.th with phase:=(2:Int) } })
def Zgm (x:Turn):Option (Turn):=ZrO x
def ZwI (x0:Memo) (x1:Int) (x2:Int) (x3:Int):Option (Memo×Bool×Int) := match ZcM (x0,x1) with
 | some y1 => bif y1.snd != (0:Int) then some ((x0,false,y1.snd)) else bif y1.fst != x2 then some ((x0,false,y1.snd)) else match Zcx (x0,x1,x3) with
  | some y2 => some ((y2.fst,true,(0:Int)))
  | none=>none
 | none=>none
def Zez (x:Memo×Int×Int×Int):Option (Memo×Bool×Int):=ZwI x.1 x.2.1 x.2.2.1 x.2.2.2
def ZtD (x0:Int) (x1:Int):Option (Int) := bif decide (x0>x1) then some (x1) else some (if x1<Zaf IntKind.i64 ((2:Int)*x0) then x1 else Zaf IntKind.i64 ((2:Int)*x0))
def Zj6 (x:Int×Int):Option (Int):=ZtD x.1 x.2
def ZuD (x0:Turn):Option (Turn×Bool) := match ZeU (x0.c,x0.th.item) with
 | some y1 => bif x0.th.phase == (2:Int) then bif x0.th.phase == (2:Int) then match ZcM (x0.m,y1) with
  | some y2 => bif y2.snd != (0:Int) then some ((x0,true)) else match ZgB (x0.th.batch,y2.fst,x0.c.lo,x0.c.hi) with
    | some y3 => bif y3 == y2.fst then match ZeV (x0,y2.fst) with
     | some y4 => some ((y4,true))
     | none=>none else bif x0.th.phase == (25:Int) then match Zgm x0 with
      | some y4 => some ((y4,true))
      | none=>none else some (({ x0 with th:={ x0.th with phase:=(3:Int),x:=y2.fst,y:=y3 } },true))
    | none=>none
  | none=>none else bif x0.th.phase == (3:Int) then match Zez (x0.m,y1,x0.th.x,x0.th.y) with
   | some y2 => bif y2.snd.snd != (0:Int) then some ((x0,true)) else bif y2.snd.fst then match ZeV ({ x0 with m:=y2.fst },x0.th.x) with
     | some y3 => some ((y3,true))
     | none=>none else match Zj6 (x0.th.width,x0.c.width) with
     | some y3 => some (({ x0 with m:=y2.fst,th:={ x0.th with phase:=(2:Int),width:=y3 } },true))
     | none=>none
   | none=>none else some ((x0,false)) else bif x0.th.phase == (25:Int) then match ZcM (x0.m,y1) with
  | some y2 => bif y2.snd != (0:Int) then some ((x0,true)) else match ZgB (x0.th.batch,y2.fst,x0.c.lo,x0.c.hi) with
    | some y3 => bif y3 == y2.fst then match ZeV (x0,y2.fst) with
     | some y4 => some ((y4,true))
     | none=>none else bif x0.th.phase == (25:Int) then match Zgm x0 with
      | some y4 => some ((y4,true))
      | none=>none else some (({ x0 with th:={ x0.th with phase:=(3:Int),x:=y2.fst,y:=y3 } },true))
    | none=>none
  | none=>none else bif x0.th.phase == (3:Int) then match Zez (x0.m,y1,x0.th.x,x0.th.y) with
   | some y2 => bif y2.snd.snd != (0:Int) then some ((x0,true)) else bif y2.snd.fst then match ZeV ({ x0 with m:=y2.fst },x0.th.x) with
     | some y3 => some ((y3,true))
     | none=>none else match Zj6 (x0.th.width,x0.c.width) with
     | some y3 => some (({ x0 with m:=y2.fst,th:={ x0.th with phase:=(2:Int),width:=y3 } },true))
     | none=>none
   | none=>none else some ((x0,false))
 | none=>none
def ZoF (x:Turn):Option (Turn×Bool):=ZuD x
def Zs9 (x0:Int):Option (Int) :=
 some (Zaf IntKind.i64 (Zaf IntKind.i64 ((8:Int)*Zaf IntKind.i64 (x0+(1:Int)))+(1:Int)))
def Zfi (x:Int):Option (Int):=Zs9 x
def ZrE (x0:Int):Option (Int) :=
 some (Zaf IntKind.i64 (Zaf IntKind.i64 ((8:Int)*Zaf IntKind.i64 (x0+(1:Int)))+(2:Int)))
def ZiQ (x:Int):Option (Int):=ZrE x
def Zpf (x0:Int):Option (Int) :=
 some (Zaf IntKind.i64 (Zaf IntKind.i64 ((8:Int)*Zaf IntKind.i64 (x0+(1:Int)))+(3:Int)))
def Zgr (x:Int):Option (Int):=Zpf x
def Zt0 (x0:Int) (x1:Int):Option (Int) :=
 some (Zaf IntKind.i64 (Zaf IntKind.i64 ((8:Int)*Zaf IntKind.i64 (Zaf IntKind.i64 (Zaf IntKind.i64 ((16:Int)*x0)+x1)+(1:Int)))+(4:Int)))
def Zf1 (x:Int×Int):Option (Int):=Zt0 x.1 x.2
def Zqg (x0:Int) (x1:Int) (x2:Int):Option ((Int×Int×Int)⊕((Int×Int)⊕(Int))) := bif decide (x2<=(3:Int)) then match Zf1 (x1,x2) with
 | some y1 => bif x0 == y1 then some (Sum.inr (Sum.inr (4:Int))) else some (Sum.inl (x0,x1,Zaf IntKind.i64 (x2+(1:Int))))
 | none=>none else some (Sum.inr (Sum.inl (x0,x1)))
def Zhr (x:Int×Int×Int):Option ((Int×Int×Int)⊕((Int×Int)⊕(Int))):=Zqg x.1 x.2.1 x.2.2
def ZqV (x:Int×Int×Int):Option ((Int×Int)⊕(Int)):=Zav Zhr x
def Zql (x0:Int) (x1:Int):Option ((Int×Int)⊕((Unit)⊕(Int))) := bif decide (x1<(4:Int)) then match ZqV (x0,x1,(1:Int)) with
 | some (.inl y1) => some (Sum.inl (y1.fst,Zaf IntKind.i64 (y1.snd+(1:Int))))
 | some (.inr y2) => some (Sum.inr (Sum.inr y2))
 | none=>none else some (Sum.inr (Sum.inl ()))
def Zh5 (x:Int×Int):Option ((Int×Int)⊕((Unit)⊕(Int))):=Zql x.1 x.2
def Zq8 (x:Int×Int):Option ((Unit)⊕(Int)):=Zav Zh5 x
def ZrS (x0:Int) (x1:Int):Option ((Int×Int)⊕((Int)⊕(Int))) := bif decide (x1<(16:Int)) then match Zfi x1 with
 | some y1 => bif x0 == y1 then some (Sum.inr (Sum.inr (1:Int))) else match ZiQ x1 with
  | some y2 => bif x0 == y2 then some (Sum.inr (Sum.inr (2:Int))) else match Zgr x1 with
   | some y3 => bif x0 == y3 then some (Sum.inr (Sum.inr (3:Int))) else some (Sum.inl (x0,Zaf IntKind.i64 (x1+(1:Int))))
   | none=>none
  | none=>none
 | none=>none else some (Sum.inr (Sum.inl x0))
def ZiN (x:Int×Int):Option ((Int×Int)⊕((Int)⊕(Int))):=ZrS x.1 x.2
def Zsf (x:Int×Int):Option ((Int)⊕(Int)):=Zav ZiN x
def Zvn (x0:Int):Option (Int) := bif x0 == (0:Int) then some ((0:Int)) else match Zh2 () with
 | some y1 => bif x0 == y1 then some ((5:Int)) else match Zsf (x0,(0:Int)) with
  | some (.inl y2) => match Zq8 (y2,(0:Int)) with
   | some (.inl y3) => some ((-1:Int))
   | some (.inr y4) => some (y4)
   | none=>none
  | some (.inr y3) => some (y3)
  | none=>none
 | none=>none
def ZfY (x:Int):Option (Int):=Zvn x
def ZuF (x0:Turn):Option (Turn) := bif decide (x0.th.at_>=(0:Int)) then bif decide (x0.th.at_<(↑x0.th.held.length:Int)) then some ({ x0 with th:={ x0.th with phase:=(7:Int) } }) else bif decide (x0.th.stop>(0:Int)) then some ({ x0 with th:={ x0.th with phase:=(11:Int) } }) else some ({ x0 with th:={ x0.th with phase:=(2:Int) } }) else bif decide (x0.th.stop>(0:Int)) then some ({ x0 with th:={ x0.th with phase:=(11:Int) } }) else some ({ x0 with th:={ x0.th with phase:=(2:Int) } })
def Zlo (x:Turn):Option (Turn):=ZuF x
def Zvi (x0:Turn):Option (Turn) := match Zlo { x0 with th:={ x0.th with at_:=(0:Int) } } with
 | some y1 => some (y1)
 | none=>none
def Zih (x:Turn):Option (Turn):=Zvi x
def Zsj (x0:Int):Option (Int) := bif decide (x0<(2:Int)) then some ((0:Int)) else some (Zaf IntKind.i64 (x0.tdiv (2:Int)))
def ZmH (x:Int):Option (Int):=Zsj x
def ZvC (x0:Turn):Option (Turn×Bool) := match ZfM (x0.c,x0.th.item,x0.th.node) with
 | some y1 => bif x0.th.phase == (4:Int) then match ZcM (x0.m,y1) with
  | some y2 => bif y2.snd != (0:Int) then some ((x0,true)) else match ZfY y2.fst with
    | some y3 => bif y3 == (0:Int) then some (({ x0 with th:={ x0.th with phase:=(5:Int) } },true)) else match ZfY y2.fst with
      | some y4 => bif y4 == (1:Int) then some (({ x0 with th:={ x0.th with phase:=(6:Int),x:=y2.fst } },true)) else match Zhn x0 with
       | some y5 => bif y5 then match Zih x0 with
         | some y6 => some ((y6,true))
         | none=>none else some ((x0,true))
       | none=>none
      | none=>none
    | none=>none
  | none=>none else bif x0.th.phase == (5:Int) then match Zfi x0.t with
   | some y2 => match Zez (x0.m,y1,(0:Int),y2) with
    | some y3 => bif y3.snd.snd != (0:Int) then some ((x0,true)) else bif !y3.snd.fst then some (({ x0 with th:={ x0.th with phase:=(4:Int) } },true)) else bif fewB ((0:Nat)+x0.th.held.length) then bif fewB (x0.th.held.length+(x0.th.node::([]:List Int)).length) then match ZmH x0.th.node with
        | some y4 => bif y4 == (0:Int) then match Zih { x0 with m:=y3.fst,th:={ x0.th with phase:=(4:Int),held:=x0.th.held++x0.th.node::([]:List Int),node:=y4 } } with
          | some y5 => some ((y5,true))
          | none=>none else some (({ x0 with m:=y3.fst,th:={ x0.th with phase:=(4:Int),held:=x0.th.held++x0.th.node::([]:List Int),node:=y4 } },true))
        | none=>none else none else none
    | none=>none
   | none=>none else bif x0.th.phase == (6:Int) then match ZiQ x0.t with
    | some y2 => match Zez (x0.m,y1,x0.th.x,y2) with
     | some y3 => bif y3.snd.snd != (0:Int) then some ((x0,true)) else bif !y3.snd.fst then some (({ x0 with th:={ x0.th with phase:=(4:Int) } },true)) else match Zih { x0 with m:=y3.fst,th:={ x0.th with phase:=(4:Int),stop:=x0.th.node } } with
       | some y4 => some ((y4,true))
       | none=>none
     | none=>none
    | none=>none else some ((x0,false))
 | none=>none
def Zlp (x:Turn):Option (Turn×Bool):=ZvC x
def Zuj (x0:Turn):Option (Int) := bif decide (x0.th.at_<(0:Int)) then some ((-1:Int)) else bif decide (x0.th.at_>=(↑x0.th.held.length:Int)) then some ((-1:Int)) else bif decide ((0:Int)<=x0.th.at_) then bif decide (x0.th.at_<(↑x0.th.held.length:Int)) then match ZfM (x0.c,x0.th.item,x0.th.held.getD x0.th.at_.toNat (0:Int)) with
 | some y1 => some (y1)
 | none=>none else none else none
def Zn7 (x:Turn):Option (Int):=Zuj x
def ZvW (x0:Int):Option (Int) := match ZfY x0 with
 | some y1 => bif decide (y1<(1:Int)) then some ((-1:Int)) else bif decide (y1>(3:Int)) then some ((-1:Int)) else some (Zaf IntKind.i64 (Zaf IntKind.i64 (x0.tdiv (8:Int))-(1:Int)))
 | none=>none
def Zpu (x:Int):Option (Int):=ZvW x
def Zvs (x0:Turn):Option (Turn) := match Zlo { x0 with th:={ x0.th with at_:=Zaf IntKind.i64 (x0.th.at_+(1:Int)) } } with
 | some y1 => some (y1)
 | none=>none
def Zkx (x:Turn):Option (Turn):=Zvs x
def ZwC (x0:Memo) (x1:Int):Option ((List Entry)×Int) := bif decide (x1<(0:Int)) then some ((([]:List Entry),(30:Int))) else bif decide (x1>=(↑x0.boxes.length:Int)) then some ((([]:List Entry),(30:Int))) else bif decide ((0:Int)<=x1) then bif decide (x1<(↑x0.boxes.length:Int)) then bif fewB ((0:Nat)+List.length (x0.boxes.getD x1.toNat ([]:List Entry))) then some ((x0.boxes.getD x1.toNat ([]:List Entry),(0:Int))) else none else none else none
def Zl5 (x:Memo×Int):Option ((List Entry)×Int):=ZwC x.1 x.2
def ZrG (x0:List (List Entry)) (x1:List Entry) (x2:Int):Option (((List (List Entry))×(List Entry)×Int)⊕(((List Entry)))) := bif decide (x2<(↑x0.length:Int)) then bif decide ((0:Int)<=x2) then bif decide (x2<(↑x0.length:Int)) then bif fewB (x1.length+List.length (x0.getD x2.toNat ([]:List Entry))) then some (Sum.inl (x0,x1++x0.getD x2.toNat ([]:List Entry),Zaf IntKind.i64 (x2+(1:Int)))) else none else none else none else some (Sum.inr x1)
def Zi1 (x:(List (List Entry))×(List Entry)×Int):Option (((List (List Entry))×(List Entry)×Int)⊕(((List Entry)))):=ZrG x.1 x.2.1 x.2.2
def Zsg (x:(List (List Entry))×(List Entry)×Int):Option (((List Entry))):=Zav Zi1 x
def ZvR (x0:List (List Entry)):Option ((List Entry)) := match Zsg (x0,([]:List Entry),(0:Int)) with
 | some y1 => some (y1)
 | none=>none
def Zon (x:(List (List Entry))):Option ((List Entry)):=ZvR x
def ZuR (x0:Turn) (x1:Int) (x2:List Entry):Option (Turn) := bif fewB ((0:Nat)+x0.th.kids.length) then bif fewB (x0.th.kids.length+(Kid.mk x1 (↑x0.th.batch.length:Int)::([]:List Kid)).length) then match Zon (x0.th.batch::x2::([]:List (List Entry))) with
 | some y1 => some ({ x0 with th:={ x0.th with batch:=y1,kids:=x0.th.kids++Kid.mk x1 (↑x0.th.batch.length:Int)::([]:List Kid) } })
 | none=>none else none else none
def Zk5 (x:Turn×Int×(List Entry)):Option (Turn):=ZuR x.1 x.2.1 x.2.2
def Zv4 (x0:Memo) (x1:Int) (x2:List Entry):Option (Memo×Int) := bif decide (x1<(0:Int)) then some ((x0,(30:Int))) else bif decide (x1>=(↑x0.boxes.length:Int)) then some ((x0,(30:Int))) else bif fewB ((0:Nat)+x0.boxes.length) then bif fewB ((0:Nat)+x2.length) then bif decide ((0:Int)<=x1) then bif decide (x1<(↑x0.boxes.length:Int)) then some (({ x0 with boxes:=x0.boxes.set x1.toNat x2 },(0:Int))) else none else none else none else none
def Zmd (x:Memo×Int×(List Entry)):Option (Memo×Int):=Zv4 x.1 x.2.1 x.2.2
def Zub (x0:Turn):Option (Turn×Bool) := match Zn7 x0 with
 | some y1 => bif x0.th.phase == (7:Int) then match ZcM (x0.m,y1) with
  | some y2 => bif y2.snd != (0:Int) then some ((x0,true)) else match Zfi x0.t with
    | some y3 => bif y2.fst == y3 then some (({ x0 with th:={ x0.th with phase:=(8:Int) } },true)) else match ZfY y2.fst with
      | some y4 => bif y4 == (3:Int) then match Zpu y2.fst with
        | some y5 => some (({ x0 with th:={ x0.th with phase:=(9:Int),who:=y5 } },true))
        | none=>none else some ((x0,true))
      | none=>none
    | none=>none
  | none=>none else bif x0.th.phase == (8:Int) then match Zfi x0.t with
   | some y2 => match Zez (x0.m,y1,y2,(0:Int)) with
    | some y3 => bif y3.snd.snd != (0:Int) then some ((x0,true)) else bif y3.snd.fst then match Zkx { x0 with m:=y3.fst } with
       | some y4 => some ((y4,true))
       | none=>none else some (({ x0 with m:=y3.fst,th:={ x0.th with phase:=(7:Int) } },true))
    | none=>none
   | none=>none else bif x0.th.phase == (9:Int) then match Zl5 (x0.m,x0.th.who) with
    | some y2 => bif y2.snd != (0:Int) then some ((x0,true)) else match Zk5 (x0,x0.th.who,y2.fst) with
      | some y3 => some (({ y3 with th:={ y3.th with phase:=(10:Int) } },true))
      | none=>none
    | none=>none else bif x0.th.phase == (10:Int) then match Zcx (x0.m,y1,(0:Int)) with
     | some y2 => bif y2.snd != (0:Int) then some ((x0,true)) else match Zkx { x0 with m:=y2.fst } with
       | some y3 => some ((y3,true))
       | none=>none
     | none=>none else bif x0.th.phase == (11:Int) then match Zmd (x0.m,x0.t,x0.th.batch) with
      | some y2 => bif y2.snd != (0:Int) then some ((x0,true)) else some (({ x0 with m:=y2.fst,th:={ x0.th with phase:=(12:Int) } },true))
      | none=>none else bif x0.th.phase == (12:Int) then match ZfM (x0.c,x0.th.item,x0.th.stop) with
       | some y2 => match Zgr x0.t with
        | some y3 => match Zcx (x0.m,y2,y3) with
         | some y4 => bif y4.snd != (0:Int) then some ((x0,true)) else some (({ x0 with m:=y4.fst,th:={ x0.th with phase:=(13:Int) } },true))
         | none=>none
        | none=>none
       | none=>none else some ((x0,false))
 | none=>none
def ZfV (x:Turn):Option (Turn×Bool):=Zub x
def Zr3 (x0:Turn) (x1:Int):Option (Turn) := match Zdq (x0.c,x0.t) with
 | some y1 => match Zf1 (x0.th.item,x0.th.layer) with
  | some y2 => match Zcx (x0.m,y1,y2) with
   | some y3 => bif y3.snd != (0:Int) then some (x0) else bif x1 == (23:Int) then some ({ x0 with m:=y3.fst,th:={ x0.th with phase:=x1,left:=x0.c.spin } }) else some ({ x0 with m:=y3.fst,th:={ x0.th with phase:=x1 } })
   | none=>none
  | none=>none
 | none=>none
def Zis (x:Turn×Int):Option (Turn):=Zr3 x.1 x.2
def Zuh (x0:Tape):Option (Int×Tape) := bif decide (x0.at_<(0:Int)) then some (((0:Int),x0)) else bif decide (x0.at_>=(↑x0.l.length:Int)) then some (((0:Int),x0)) else bif decide ((0:Int)<=x0.at_) then bif decide (x0.at_<(↑x0.l.length:Int)) then some ((x0.l.getD x0.at_.toNat (0:Int),{ x0 with at_:=Zaf IntKind.i64 (x0.at_+(1:Int)) })) else none else none
def Zoz (x:Tape):Option (Int×Tape):=Zuh x
def Zs4 (x0:Tape) (x1:Int):Option (Int×Tape) := bif decide (x1<(1:Int)) then some (((0:Int),x0)) else match Zoz x0 with
 | some y1 => bif decide (x1=(0:Int)) then none else bif decide (Int.tmod y1.fst x1<(0:Int)) then some ((Zaf IntKind.i64 (Int.tmod y1.fst x1+x1),y1.snd)) else some ((Int.tmod y1.fst x1,y1.snd))
 | none=>none
def Zny (x:Tape×Int):Option (Int×Tape):=Zs4 x.1 x.2
def ZtZ (x0:Memo) (x1:Int) (x2:Int):Option (Memo×Int×Int) := match ZcM (x0,x1) with
 | some y1 => match Zcx (x0,x1,x2) with
  | some y2 => some ((y2.fst,y1))
  | none=>none
 | none=>none
def ZoJ (x:Memo×Int×Int):Option (Memo×Int×Int):=ZtZ x.1 x.2.1 x.2.2
def ZuK (x0:Config) (x1:Int) (x2:Int) (x3:Int):Option (Int) := bif decide (x1<(0:Int)) then some ((-1:Int)) else bif decide (x1>=x0.items) then some ((-1:Int)) else bif decide (x2<(1:Int)) then some ((-1:Int)) else bif decide (x2>x0.layers) then some ((-1:Int)) else bif decide (x3<(0:Int)) then some ((-1:Int)) else bif decide (x3>=x0.width) then some ((-1:Int)) else match ZdG x0 with
 | some y1 => match Zff x0 with
  | some y2 => some (Zaf IntKind.i64 (Zaf IntKind.i64 (Zaf IntKind.i64 (Zaf IntKind.i64 (Zaf IntKind.i64 (x1*y1)+(1:Int))+y2)+Zaf IntKind.i64 (Zaf IntKind.i64 (x2-(1:Int))*x0.width))+x3))
  | none=>none
 | none=>none
def ZnV (x:Config×Int×Int×Int):Option (Int):=ZuK x.1 x.2.1 x.2.2.1 x.2.2.2
def Zt8 (x0:Turn):Option (Turn) := match Zny (x0.tape,x0.th.width) with
 | some y1 => match ZnV (x0.c,x0.th.item,x0.th.layer,y1.fst) with
  | some y2 => match ZoJ (x0.m,y2,Zaf IntKind.i64 (x0.t+(1:Int))) with
   | some y3 => bif y3.snd.snd != (0:Int) then some (x0) else bif decide (y3.snd.fst>=(1:Int)) then bif decide (y3.snd.fst<=x0.c.threads) then bif y3.snd.fst != Zaf IntKind.i64 (x0.t+(1:Int)) then some ({ x0 with m:=y3.fst,th:={ x0.th with phase:=(20:Int),who:=Zaf IntKind.i64 (y3.snd.fst-(1:Int)) },tape:=y1.snd }) else some ({ x0 with m:=y3.fst,th:={ x0.th with phase:=(23:Int),left:=x0.c.spin },tape:=y1.snd }) else some ({ x0 with m:=y3.fst,th:={ x0.th with phase:=(23:Int),left:=x0.c.spin },tape:=y1.snd }) else some ({ x0 with m:=y3.fst,th:={ x0.th with phase:=(23:Int),left:=x0.c.spin },tape:=y1.snd })
   | none=>none
  | none=>none
 | none=>none
def Zot (x:Turn):Option (Turn):=Zt8 x
def Zp4 (x0:Turn) (x1:Int) (x2:Int) (x3:Int):Option (Turn) := match Zdq (x0.c,x1) with
 | some y1 => match Zf1 (x0.th.item,x0.th.layer) with
  | some y2 => match Zez (x0.m,y1,y2,(0:Int)) with
   | some y3 => bif y3.snd.snd != (0:Int) then some (x0) else bif y3.snd.fst then some ({ x0 with m:=y3.fst,th:={ x0.th with phase:=x2 } }) else some ({ x0 with m:=y3.fst,th:={ x0.th with phase:=x3 } })
   | none=>none
  | none=>none
 | none=>none
def Ze8 (x:Turn×Int×Int×Int):Option (Turn):=Zp4 x.1 x.2.1 x.2.2.1 x.2.2.2
def Zvy (x0:Turn):Option (Turn) := match Zdq (x0.c,x0.t) with
 | some y1 => match ZcM (x0.m,y1) with
  | some y2 => bif y2.snd != (0:Int) then some (x0) else match Zf1 (x0.th.item,x0.th.layer) with
   | some y3 => bif y2.fst != y3 then some ({ x0 with th:={ x0.th with phase:=(13:Int) } }) else bif decide (x0.th.left<(1:Int)) then some ({ x0 with th:={ x0.th with phase:=(26:Int) } }) else match Zhn x0 with
    | some y4 => bif y4 then some ({ x0 with th:={ x0.th with phase:=(26:Int) } }) else some ({ x0 with th:={ x0.th with left:=Zaf IntKind.i64 (x0.th.left-(1:Int)) } })
    | none=>none
   | none=>none
  | none=>none
 | none=>none
def ZnX (x:Turn):Option (Turn):=Zvy x
def ZtV (x0:Int):Option (Int) := bif decide (x0<(0:Int)) then some ((-1:Int)) else some (Zaf IntKind.i64 (x0.tdiv (2:Int)))
def Zog (x:Int):Option (Int):=ZtV x
def Zun (x0:Turn):Option (Turn×Bool) := bif x0.th.phase == (17:Int) then match Zmd (x0.m,x0.t,x0.th.batch) with
 | some y1 => bif y1.snd == (0:Int) then some (({ x0 with m:=y1.fst,th:={ x0.th with phase:=(18:Int) } },true)) else some ((x0,true))
 | none=>none else bif x0.th.phase == (18:Int) then match Zis (x0,(19:Int)) with
  | some y1 => some ((y1,true))
  | none=>none else bif x0.th.phase == (19:Int) then match Zot x0 with
   | some y1 => some ((y1,true))
   | none=>none else bif x0.th.phase == (20:Int) then match Ze8 (x0,x0.t,(21:Int),(13:Int)) with
    | some y1 => some ((y1,true))
    | none=>none else bif x0.th.phase == (21:Int) then match Ze8 (x0,x0.th.who,(22:Int),(24:Int)) with
     | some y1 => some ((y1,true))
     | none=>none else bif x0.th.phase == (22:Int) then match Zl5 (x0.m,x0.th.who) with
      | some y1 => bif y1.snd == (0:Int) then match Zk5 (x0,x0.th.who,y1.fst) with
        | some y2 => some (({ y2 with th:={ y2.th with phase:=(25:Int) } },true))
        | none=>none else some ((x0,true))
      | none=>none else bif x0.th.phase == (23:Int) then match ZnX x0 with
       | some y1 => some ((y1,true))
       | none=>none else bif x0.th.phase == (24:Int) then match Zis (x0,(23:Int)) with
        | some y1 => some ((y1,true))
        | none=>none else bif x0.th.phase == (26:Int) then match Ze8 (x0,x0.t,(2:Int),(13:Int)) with
         | some y1 => bif y1.th.phase == (2:Int) then match Zog y1.th.width with
          | some y2 => match Zgm { y1 with th:={ y1.th with width:=if y2>(1:Int) then y2 else (1:Int) } } with
           | some y3 => some ((y3,true))
           | none=>none
          | none=>none else some ((y1,true))
         | none=>none else some ((x0,false))
def ZcZ (x:Turn):Option (Turn×Bool):=Zun x
def Zu8 (x0:Turn):Option (Turn) := bif x0.th.phase == (0:Int) then some (x0) else bif x0.th.phase == (1:Int) then match Zdq (x0.c,x0.t) with
 | some y1 => match Zcx (x0.m,y1,(0:Int)) with
  | some y2 => bif y2.snd != (0:Int) then some ({ x0 with log:=([]:List Mark),done:=false }) else match Znz { x0 with m:=y2.fst,log:=([]:List Mark),done:=false } with
    | some y3 => some (y3)
    | none=>none
  | none=>none
 | none=>none else match ZoH { x0 with log:=([]:List Mark),done:=false } with
 | some y1 => bif !y1.snd then match ZoF { x0 with log:=([]:List Mark),done:=false } with
   | some y2 => bif !y2.snd then match Zlp { x0 with log:=([]:List Mark),done:=false } with
     | some y3 => bif !y3.snd then match ZfV { x0 with log:=([]:List Mark),done:=false } with
       | some y4 => bif !y4.snd then match ZcZ { x0 with log:=([]:List Mark),done:=false } with
         | some y5 => some (y5.fst)
         | none=>none else some (y4.fst)
       | none=>none else bif !y3.snd then match ZcZ { x0 with log:=([]:List Mark),done:=false } with
        | some y4 => some (y4.fst)
        | none=>none else some (y3.fst)
     | none=>none else bif !y2.snd then match ZfV { x0 with log:=([]:List Mark),done:=false } with
      | some y3 => bif !y3.snd then match ZcZ { x0 with log:=([]:List Mark),done:=false } with
        | some y4 => some (y4.fst)
        | none=>none else some (y3.fst)
      | none=>none else bif !y2.snd then match ZcZ { x0 with log:=([]:List Mark),done:=false } with
       | some y3 => some (y3.fst)
       | none=>none else some (y2.fst)
   | none=>none else bif !y1.snd then match Zlp { x0 with log:=([]:List Mark),done:=false } with
    | some y2 => bif !y2.snd then match ZfV { x0 with log:=([]:List Mark),done:=false } with
      | some y3 => bif !y3.snd then match ZcZ { x0 with log:=([]:List Mark),done:=false } with
        | some y4 => some (y4.fst)
        | none=>none else some (y3.fst)
      | none=>none else bif !y2.snd then match ZcZ { x0 with log:=([]:List Mark),done:=false } with
       | some y3 => some (y3.fst)
       | none=>none else some (y2.fst)
    | none=>none else bif !y1.snd then match ZfV { x0 with log:=([]:List Mark),done:=false } with
     | some y2 => bif !y2.snd then match ZcZ { x0 with log:=([]:List Mark),done:=false } with
       | some y3 => some (y3.fst)
       | none=>none else some (y2.fst)
     | none=>none else bif !y1.snd then match ZcZ { x0 with log:=([]:List Mark),done:=false } with
      | some y2 => some (y2.fst)
      | none=>none else some (y1.fst)
 | none=>none
def ZnT (x:Turn):Option (Turn):=Zu8 x
def ZrU (x0:Int) (x1:Wld) (x2:Wld) (x3:Turn) (x4:List Mark) (x5:Int):Option ((Int×Wld×Wld×Turn×(List Mark)×Int)⊕((Int×Wld×Wld×Turn×(List Mark)))) := bif decide (x5<(↑x3.log.length:Int)) then bif decide ((0:Int)<=x5) then bif decide (x5<(↑x3.log.length:Int)) then bif fewB (x4.length+({ x3.log.getD x5.toNat ZaZ with step:=x1.steps }::([]:List Mark)).length) then some (Sum.inl (x0,x1,x2,x3,x4++{ x3.log.getD x5.toNat ZaZ with step:=x1.steps }::([]:List Mark),Zaf IntKind.i64 (x5+(1:Int)))) else none else none else none else some (Sum.inr (x0,x1,x2,x3,x4))
def Zi5 (x:Int×Wld×Wld×Turn×(List Mark)×Int):Option ((Int×Wld×Wld×Turn×(List Mark)×Int)⊕((Int×Wld×Wld×Turn×(List Mark)))):=ZrU x.1 x.2.1 x.2.2.1 x.2.2.2.1 x.2.2.2.2.1 x.2.2.2.2.2
def Zr5 (x:Int×Wld×Wld×Turn×(List Mark)×Int):Option ((Int×Wld×Wld×Turn×(List Mark))):=Zav Zi5 x
def Zui (x0:Wld) (x1:Int):Option (Wld) := bif decide ((0:Int)<=x1) then bif decide (x1<(↑x0.t.length:Int)) then match ZnT (Turn.mk x0.c x1 x0.now x0.m (x0.t.getD x1.toNat Zax) x0.tape ([]:List Mark) false) with
 | some y1 => match ZiY ({ x0 with steps:=Zaf IntKind.i64 (x0.steps+(1:Int)) },x1,y1.th) with
  | some y2 => bif fewB ((0:Nat)+y2.log.length) then match Zr5 (x1,{ y2 with m:=y1.m,tape:=y1.tape },Wld.mk (Config.mk (0:Int) (0:Int) (0:Int) (0:Int) (0:Int) (0:Int) (0:Int) (0:Int) false (0:Int) (0:Int) (0:Int)) (Memo.mk ([]:List Int) ([]:List (List Entry))) ([]:List Thread) (0:Int) (0:Int) (Tape.mk ([]:List Int) (0:Int)) ([]:List Mark) ([]:List Event),y1,y2.log,(0:Int)) with
   | some y3 => bif !y3.snd.snd.snd.fst.done then some ({ y3.snd.fst with log:=y3.snd.snd.snd.snd }) else match Zc5 (y3.snd.snd.snd.fst.th.op,y3.snd.snd.snd.fst.th.x,y3.snd.fst.c.lo,y3.snd.fst.c.hi) with
    | some y4 => match ZhH ({ y3.snd.fst with log:=y3.snd.snd.snd.snd },Event.mk (2:Int) y3.fst y3.snd.snd.snd.fst.th.item y3.snd.snd.snd.fst.th.op y3.snd.snd.snd.fst.th.x y4.snd (0:Int)) with
     | some y5 => some (y5)
     | none=>none
    | none=>none
   | none=>none else none
  | none=>none
 | none=>none else none else none
def Zoh (x:Wld×Int):Option (Wld):=Zui x.1 x.2
def Zvx (x0:Wld) (x1:SEntry):Option (Wld×Int) := match Zfc (x0.c,x1) with
 | some y1 => bif y1 != (0:Int) then some ((x0,y1)) else bif x1.kind == (3:Int) then some (({ x0 with now:=Zaf IntKind.i64 (x0.now+(1:Int)) },(0:Int))) else bif decide ((0:Int)<=x1.t) then bif decide (x1.t<(↑x0.t.length:Int)) then bif x1.kind == (1:Int) then match ZhD (x0.t.getD x1.t.toNat Zax) with
  | some y2 => bif y2 then match ZhH (x0,Event.mk (3:Int) x1.t x1.item x1.op (0:Int) false (0:Int)) with
   | some y3 => some ((y3,(170:Int)))
   | none=>none else match ZnF (x0.c,x1.t,x0.t.getD x1.t.toNat Zax,x1.item,x1.op,x0.now) with
   | some y3 => match ZiY (x0,x1.t,y3) with
    | some y4 => match ZhH (y4,Event.mk (1:Int) x1.t x1.item x1.op (0:Int) false (0:Int)) with
     | some y5 => some ((y5,(0:Int)))
     | none=>none
    | none=>none
   | none=>none
  | none=>none else match ZhD (x0.t.getD x1.t.toNat Zax) with
  | some y2 => bif !y2 then some ((x0,(0:Int))) else match Zoh (x0,x1.t) with
   | some y3 => some ((y3,(0:Int)))
   | none=>none
  | none=>none else none else none
 | none=>none
def ZnU (x:Wld×SEntry):Option (Wld×Int):=Zvx x.1 x.2
def Ztz (x0:List SEntry) (x1:Config) (x2:Int):Option (((List SEntry)×Config×Int)⊕((Unit)⊕(Int×Int))) := bif decide (x2<(↑x0.length:Int)) then bif decide ((0:Int)<=x2) then bif decide (x2<(↑x0.length:Int)) then match Zfc (x1,x0.getD x2.toNat Zbo) with
 | some y1 => bif y1 != (0:Int) then some (Sum.inr (Sum.inr (x2,y1))) else some (Sum.inl (x0,x1,Zaf IntKind.i64 (x2+(1:Int))))
 | none=>none else none else none else some (Sum.inr (Sum.inl ()))
def ZjW (x:(List SEntry)×Config×Int):Option (((List SEntry)×Config×Int)⊕((Unit)⊕(Int×Int))):=Ztz x.1 x.2.1 x.2.2
def ZtA (x:(List SEntry)×Config×Int):Option ((Unit)⊕(Int×Int)):=Zav ZjW x
def Zv5 (x0:Config) (x1:List SEntry):Option (Int×Int) := match Zej x0 with
 | some y1 => bif y1 != (0:Int) then some (((0:Int),y1)) else bif decide ((↑x1.length:Int)>(65536:Int)) then some (((0:Int),(2:Int))) else match ZtA (x1,x0,(0:Int)) with
  | some (.inl y2) => some (((0:Int),(0:Int)))
  | some (.inr y3) => some (y3)
  | none=>none
 | none=>none
def Zpq (x:Config×(List SEntry)):Option (Int×Int):=Zv5 x.1 x.2
def Ztc (x0:List SEntry) (x1:Wld) (x2:Wld) (x3:Int):Option (((List SEntry)×Wld×Wld×Int)⊕((Wld×Wld))) := bif decide (x3<(↑x0.length:Int)) then bif decide ((0:Int)<=x3) then bif decide (x3<(↑x0.length:Int)) then match ZnU (x2,x0.getD x3.toNat Zbo) with
 | some y1 => some (Sum.inl (x0,x1,y1.fst,Zaf IntKind.i64 (x3+(1:Int))))
 | none=>none else none else none else some (Sum.inr (x1,x2))
def ZjH (x:(List SEntry)×Wld×Wld×Int):Option (((List SEntry)×Wld×Wld×Int)⊕((Wld×Wld))):=Ztc x.1 x.2.1 x.2.2.1 x.2.2.2
def ZtE (x:(List SEntry)×Wld×Wld×Int):Option ((Wld×Wld)):=Zav ZjH x
def Zwf (x0:Config) (x1:List SEntry) (x2:List Int):Option (Wld×Int×Int) := match Zpq (x0,x1) with
 | some y1 => bif y1.snd != (0:Int) then some ((Wld.mk (Config.mk (0:Int) (0:Int) (0:Int) (0:Int) (0:Int) (0:Int) (0:Int) (0:Int) false (0:Int) (0:Int) (0:Int)) (Memo.mk ([]:List Int) ([]:List (List Entry))) ([]:List Thread) (0:Int) (0:Int) (Tape.mk ([]:List Int) (0:Int)) ([]:List Mark) ([]:List Event),y1)) else match Zpk (x0,x2) with
  | some y2 => match ZtE (x1,Wld.mk (Config.mk (0:Int) (0:Int) (0:Int) (0:Int) (0:Int) (0:Int) (0:Int) (0:Int) false (0:Int) (0:Int) (0:Int)) (Memo.mk ([]:List Int) ([]:List (List Entry))) ([]:List Thread) (0:Int) (0:Int) (Tape.mk ([]:List Int) (0:Int)) ([]:List Mark) ([]:List Event),y2.fst,(0:Int)) with
   | some y3 => some ((y3.snd,(0:Int),(0:Int)))
   | none=>none
  | none=>none
 | none=>none
def Zwk (x:Config×(List SEntry)×(List Int)):Option (Wld×Int×Int):=Zwf x.1 x.2.1 x.2.2
def ZhW (x0:List SEntry) (x1:List SEntry) (x2:Int):Option (((List SEntry)×(List SEntry)×Int)⊕(((List SEntry)))) := bif decide (x2<(↑x0.length:Int)) then bif decide ((0:Int)<=x2) then bif decide (x2<(↑x0.length:Int)) then bif decide ((0:Int)<=x2) then bif decide (x2<(↑x0.length:Int)) then bif decide ((0:Int)<=x2) then bif decide (x2<(↑x0.length:Int)) then bif decide ((0:Int)<=x2) then bif decide (x2<(↑x0.length:Int)) then bif fewB (x1.length+(x0.getD x2.toNat Zbo::([]:List SEntry)).length) then some (Sum.inl (x0,x1++x0.getD x2.toNat Zbo::([]:List SEntry),Zaf IntKind.i64 (x2+(1:Int)))) else none else none else none else none else none else none else none else none else none else some (Sum.inr x1)
def Zen (x:(List SEntry)×(List SEntry)×Int):Option (((List SEntry)×(List SEntry)×Int)⊕(((List SEntry)))):=ZhW x.1 x.2.1 x.2.2
def ZlJ (x:(List SEntry)×(List SEntry)×Int):Option (((List SEntry))):=Zav Zen x
def ZjY (x0:List SEntry):Option ((List SEntry)) := match ZlJ (x0,([]:List SEntry),(0:Int)) with
 | some y1 => some (y1)
 | none=>none
def ZjX (x:(List SEntry)):Option ((List SEntry)):=ZjY x
def Zg1 (x0:List Event) (x1:List Event) (x2:Int):Option (((List Event)×(List Event)×Int)⊕((Unit)⊕(Bool))) := bif decide (x2<(↑x0.length:Int)) then bif decide ((0:Int)<=x2) then bif decide (x2<(↑x0.length:Int)) then bif decide ((0:Int)<=x2) then bif decide (x2<(↑x1.length:Int)) then bif !((x0.getD x2.toNat Zbp).kind == (x1.getD x2.toNat Zbp).kind && ((x0.getD x2.toNat Zbp).t == (x1.getD x2.toNat Zbp).t && ((x0.getD x2.toNat Zbp).item == (x1.getD x2.toNat Zbp).item && ((x0.getD x2.toNat Zbp).op.tag == (x1.getD x2.toNat Zbp).op.tag && ((x0.getD x2.toNat Zbp).op.v == (x1.getD x2.toNat Zbp).op.v && true) && ((x0.getD x2.toNat Zbp).prior == (x1.getD x2.toNat Zbp).prior && ((x0.getD x2.toNat Zbp).did == (x1.getD x2.toNat Zbp).did && ((x0.getD x2.toNat Zbp).step == (x1.getD x2.toNat Zbp).step && true))))))) then some (Sum.inr (Sum.inr false)) else some (Sum.inl (x0,x1,Zaf IntKind.i64 (x2+(1:Int)))) else none else none else none else none else some (Sum.inr (Sum.inl ()))
def Zd5 (x:(List Event)×(List Event)×Int):Option (((List Event)×(List Event)×Int)⊕((Unit)⊕(Bool))):=Zg1 x.1 x.2.1 x.2.2
def Zk8 (x:(List Event)×(List Event)×Int):Option ((Unit)⊕(Bool)):=Zav Zd5 x
def ZiI (x0:List Event) (x1:List Event):Option (Bool) := bif (↑x0.length:Int) != (↑x1.length:Int) then some (false) else match Zk8 (x0,x1,(0:Int)) with
 | some (.inl y1) => some (true)
 | some (.inr y2) => some (y2)
 | none=>none
def ZiV (x:(List Event)×(List Event)):Option (Bool):=ZiI x.1 x.2
def ZiM (x0:Wld) (x1:Wld) (x2:Int):Option ((Wld×Wld×Int)⊕((Unit)⊕(Bool))) := bif decide (x2<(↑x0.t.length:Int)) then bif decide ((0:Int)<=x2) then bif decide (x2<(↑x0.t.length:Int)) then bif decide ((0:Int)<=x2) then bif decide (x2<(↑x1.t.length:Int)) then match Zib (x0.t.getD x2.toNat Zax,x1.t.getD x2.toNat Zax) with
 | some y1 => bif !y1 then some (Sum.inr (Sum.inr false)) else some (Sum.inl (x0,x1,Zaf IntKind.i64 (x2+(1:Int))))
 | none=>none else none else none else none else none else some (Sum.inr (Sum.inl ()))
def ZeZ (x:Wld×Wld×Int):Option ((Wld×Wld×Int)⊕((Unit)⊕(Bool))):=ZiM x.1 x.2.1 x.2.2
def Zmp (x:Wld×Wld×Int):Option ((Unit)⊕(Bool)):=Zav ZeZ x
def ZkE (x0:Wld) (x1:Wld):Option (Bool) := bif !(x0.c.threads == x1.c.threads && (x0.c.items == x1.c.items && (x0.c.backend == x1.c.backend && (x0.c.depth == x1.c.depth && (x0.c.layers == x1.c.layers && (x0.c.width == x1.c.width && (x0.c.spin == x1.c.spin && (x0.c.wait == x1.c.wait && (x0.c.bounded == x1.c.bounded && (x0.c.lo == x1.c.lo && (x0.c.hi == x1.c.hi && (x0.c.init == x1.c.init && true)))))))))))) then some (false) else bif x0.now != x1.now then some (false) else bif x0.steps != x1.steps then some (false) else bif (↑x0.t.length:Int) != (↑x1.t.length:Int) then some (false) else match Zhy (x0.m,x1.m) with
 | some y1 => bif !y1 then some (false) else match Zh7 (x0.tape,x1.tape) with
  | some y2 => bif !y2 then some (false) else match ZgQ (x0.log,x1.log) with
   | some y3 => bif !y3 then some (false) else match ZiV (x0.hist,x1.hist) with
    | some y4 => bif !y4 then some (false) else match Zmp (x0,x1,(0:Int)) with
     | some (.inl y5) => some (true)
     | some (.inr y6) => some (y6)
     | none=>none
    | none=>none
   | none=>none
  | none=>none
 | none=>none
def ZkO (x:Wld×Wld):Option (Bool):=ZkE x.1 x.2
def Zgs (x0:List Entry) (x1:List Entry) (x2:Int):Option (((List Entry)×(List Entry)×Int)⊕(((List Entry)))) := bif decide (x2<(↑x0.length:Int)) then bif decide ((0:Int)<=x2) then bif decide (x2<(↑x0.length:Int)) then bif decide ((0:Int)<=x2) then bif decide (x2<(↑x0.length:Int)) then bif fewB (x1.length+(x0.getD x2.toNat Zcg::([]:List Entry)).length) then some (Sum.inl (x0,x1++x0.getD x2.toNat Zcg::([]:List Entry),Zaf IntKind.i64 (x2+(1:Int)))) else none else none else none else none else none else some (Sum.inr x1)
def ZdL (x:(List Entry)×(List Entry)×Int):Option (((List Entry)×(List Entry)×Int)⊕(((List Entry)))):=Zgs x.1 x.2.1 x.2.2
def Zj9 (x:(List Entry)×(List Entry)×Int):Option (((List Entry))):=Zav ZdL x
def ZfB (x0:List Entry):Option ((List Entry)) := match Zj9 (x0,([]:List Entry),(0:Int)) with
 | some y1 => some (y1)
 | none=>none
def Zer (x:(List Entry)):Option ((List Entry)):=ZfB x
def ZgY (x0:Memo) (x1:Memo) (x2:Memo) (x3:Int):Option ((Memo×Memo×Memo×Int)⊕((Memo×Memo))) := bif decide (x3<(↑x0.boxes.length:Int)) then bif decide ((0:Int)<=x3) then bif decide (x3<(↑x0.boxes.length:Int)) then match Zer (x0.boxes.getD x3.toNat ([]:List Entry)) with
 | some y1 => bif fewB (x2.boxes.length+(y1::([]:List (List Entry))).length) then some (Sum.inl (x0,x1,{ x2 with boxes:=x2.boxes++y1::([]:List (List Entry)) },Zaf IntKind.i64 (x3+(1:Int)))) else none
 | none=>none else none else none else some (Sum.inr (x1,x2))
def Zd0 (x:Memo×Memo×Memo×Int):Option ((Memo×Memo×Memo×Int)⊕((Memo×Memo))):=ZgY x.1 x.2.1 x.2.2.1 x.2.2.2
def Zlb (x:Memo×Memo×Memo×Int):Option ((Memo×Memo)):=Zav Zd0 x
def ZiE (x0:Memo):Option (Memo) := match Zlb (x0,Memo.mk ([]:List Int) ([]:List (List Entry)),{ x0 with boxes:=([]:List (List Entry)) },(0:Int)) with
 | some y1 => some (y1.snd)
 | none=>none
def Ziq (x:Memo):Option (Memo):=ZiE x
def Zig (x0:List Mark) (x1:List Mark) (x2:Int):Option (((List Mark)×(List Mark)×Int)⊕(((List Mark)))) := bif decide (x2<(↑x0.length:Int)) then bif decide ((0:Int)<=x2) then bif decide (x2<(↑x0.length:Int)) then bif decide ((0:Int)<=x2) then bif decide (x2<(↑x0.length:Int)) then bif decide ((0:Int)<=x2) then bif decide (x2<(↑x0.length:Int)) then bif decide ((0:Int)<=x2) then bif decide (x2<(↑x0.length:Int)) then bif decide ((0:Int)<=x2) then bif decide (x2<(↑x0.length:Int)) then bif fewB (x1.length+(x0.getD x2.toNat ZaZ::([]:List Mark)).length) then some (Sum.inl (x0,x1++x0.getD x2.toNat ZaZ::([]:List Mark),Zaf IntKind.i64 (x2+(1:Int)))) else none else none else none else none else none else none else none else none else none else none else none else some (Sum.inr x1)
def Zeo (x:(List Mark)×(List Mark)×Int):Option (((List Mark)×(List Mark)×Int)⊕(((List Mark)))):=Zig x.1 x.2.1 x.2.2
def ZlF (x:(List Mark)×(List Mark)×Int):Option (((List Mark))):=Zav Zeo x
def ZjL (x0:List Mark):Option ((List Mark)) := match ZlF (x0,([]:List Mark),(0:Int)) with
 | some y1 => some (y1)
 | none=>none
def Zjv (x:(List Mark)):Option ((List Mark)):=ZjL x
def ZhR (x0:Thread) (x1:Thread) (x2:Thread) (x3:Int):Option ((Thread×Thread×Thread×Int)⊕((Thread×Thread))) := bif decide (x3<(↑x0.kids.length:Int)) then bif decide ((0:Int)<=x3) then bif decide (x3<(↑x0.kids.length:Int)) then bif fewB (x2.kids.length+(x0.kids.getD x3.toNat dKid::([]:List Kid)).length) then some (Sum.inl (x0,x1,{ x2 with kids:=x2.kids++x0.kids.getD x3.toNat dKid::([]:List Kid) },Zaf IntKind.i64 (x3+(1:Int)))) else none else none else none else some (Sum.inr (x1,x2))
def Zep (x:Thread×Thread×Thread×Int):Option ((Thread×Thread×Thread×Int)⊕((Thread×Thread))):=ZhR x.1 x.2.1 x.2.2.1 x.2.2.2
def ZlG (x:Thread×Thread×Thread×Int):Option ((Thread×Thread)):=Zav Zep x
def Zj0 (x0:Thread):Option (Thread) := match Zer x0.batch with
 | some y1 => match ZlG (x0,Thread.mk (0:Int) (0:Int) (Op.mk (0:Int) (0:Int)) ([]:List Entry) ([]:List Kid) ([]:List Int) (0:Int) (0:Int) (0:Int) (0:Int) (0:Int) (0:Int) (0:Int) (0:Int) (0:Int) (0:Int),{ x0 with batch:=y1,kids:=([]:List Kid) },(0:Int)) with
  | some y2 => some (y2.snd)
  | none=>none
 | none=>none
def ZjI (x:Thread):Option (Thread):=Zj0 x
def Zhe (x0:Wld) (x1:Wld) (x2:Wld) (x3:Int):Option ((Wld×Wld×Wld×Int)⊕((Wld×Wld))) := bif decide (x3<(↑x0.hist.length:Int)) then bif decide ((0:Int)<=x3) then bif decide (x3<(↑x0.hist.length:Int)) then bif fewB (x2.hist.length+(x0.hist.getD x3.toNat Zbp::([]:List Event)).length) then some (Sum.inl (x0,x1,{ x2 with hist:=x2.hist++x0.hist.getD x3.toNat Zbp::([]:List Event) },Zaf IntKind.i64 (x3+(1:Int)))) else none else none else none else some (Sum.inr (x1,x2))
def ZdW (x:Wld×Wld×Wld×Int):Option ((Wld×Wld×Wld×Int)⊕((Wld×Wld))):=Zhe x.1 x.2.1 x.2.2.1 x.2.2.2
def Zk1 (x:Wld×Wld×Wld×Int):Option ((Wld×Wld)):=Zav ZdW x
def Zhc (x0:Wld) (x1:Wld) (x2:Wld) (x3:Int):Option ((Wld×Wld×Wld×Int)⊕((Wld×Wld×Wld))) := bif decide (x3<(↑x0.t.length:Int)) then bif decide ((0:Int)<=x3) then bif decide (x3<(↑x0.t.length:Int)) then match ZjI (x0.t.getD x3.toNat Zax) with
 | some y1 => bif fewB (x2.t.length+(y1::([]:List Thread)).length) then some (Sum.inl (x0,x1,{ x2 with t:=x2.t++y1::([]:List Thread) },Zaf IntKind.i64 (x3+(1:Int)))) else none
 | none=>none else none else none else some (Sum.inr (x0,x1,x2))
def ZdZ (x:Wld×Wld×Wld×Int):Option ((Wld×Wld×Wld×Int)⊕((Wld×Wld×Wld))):=Zhc x.1 x.2.1 x.2.2.1 x.2.2.2
def ZkG (x:Wld×Wld×Wld×Int):Option ((Wld×Wld×Wld)):=Zav ZdZ x
def ZiK (x0:Wld):Option (Wld) := match Ziq x0.m with
 | some y1 => match Zjv x0.log with
  | some y2 => match ZkG (x0,Wld.mk (Config.mk (0:Int) (0:Int) (0:Int) (0:Int) (0:Int) (0:Int) (0:Int) (0:Int) false (0:Int) (0:Int) (0:Int)) (Memo.mk ([]:List Int) ([]:List (List Entry))) ([]:List Thread) (0:Int) (0:Int) (Tape.mk ([]:List Int) (0:Int)) ([]:List Mark) ([]:List Event),{ x0 with m:=y1,t:=([]:List Thread),log:=y2,hist:=([]:List Event) },(0:Int)) with
   | some y3 => match Zk1 (y3.fst,y3.snd.fst,y3.snd.snd,(0:Int)) with
    | some y4 => some (y4.snd)
    | none=>none
   | none=>none
  | none=>none
 | none=>none
def Zgj (x:Wld):Option (Wld):=ZiK x
def Zr9 (x0:Int) (x1:List Thread) (x2:Int) (x3:Int):Option ((Int×(List Thread)×Int×Int)⊕((Int))) := bif decide (x3<x2) then bif decide ((0:Int)<=x3) then bif decide (x3<(↑x1.length:Int)) then match Zbz (x1.getD x3.toNat Zax) with
 | some y1 => bif y1 then some (Sum.inl (Zaf IntKind.i64 (x0+(1:Int)),x1,x2,Zaf IntKind.i64 (x3+(1:Int)))) else some (Sum.inl (x0,x1,x2,Zaf IntKind.i64 (x3+(1:Int))))
 | none=>none else none else none else some (Sum.inr x0)
def ZiX (x:Int×(List Thread)×Int×Int):Option ((Int×(List Thread)×Int×Int)⊕((Int))):=Zr9 x.1 x.2.1 x.2.2.1 x.2.2.2
def Zsh (x:Int×(List Thread)×Int×Int):Option ((Int)):=Zav ZiX x
def Zvu (x0:Wld):Option (Int) := match Zsh ((0:Int),x0.t,(↑x0.t.length:Int),(0:Int)) with
 | some y1 => some (y1)
 | none=>none
def ZvK (x:Wld):Option (Int):=Zvu x
def Zr8 (x0:Wld) (x1:Int) (x2:Int):Option ((Wld×Int×Int)⊕((Int))) := bif decide (x2<(↑x0.t.length:Int)) then bif decide ((0:Int)<=x2) then bif decide (x2<(↑x0.t.length:Int)) then match ZhD (x0.t.getD x2.toNat Zax) with
 | some y1 => bif y1 then some (Sum.inl (x0,Zaf IntKind.i64 (x1+(1:Int)),Zaf IntKind.i64 (x2+(1:Int)))) else some (Sum.inl (x0,x1,Zaf IntKind.i64 (x2+(1:Int))))
 | none=>none else none else none else some (Sum.inr x1)
def ZiA (x:Wld×Int×Int):Option ((Wld×Int×Int)⊕((Int))):=Zr8 x.1 x.2.1 x.2.2
def ZrV (x:Wld×Int×Int):Option ((Int)):=Zav ZiA x
def ZuX (x0:Wld):Option (Int) := match ZrV (x0,(0:Int),(0:Int)) with
 | some y1 => some (y1)
 | none=>none
def ZvL (x:Wld):Option (Int):=ZuX x
def Zrs (x0:Config) (x1:Wld) (x2:Config) (x3:Int) (x4:Int) (x5:Int):Option ((Config×Wld×Config×Int×Int×Int)⊕((Config×Wld×Config×Int×Int)⊕(Bool))) := bif decide (x5<(↑x1.log.length:Int)) then bif decide ((0:Int)<=x5) then bif decide (x5<(↑x1.log.length:Int)) then bif (x1.log.getD x5.toNat ZaZ).item != x3 then some (Sum.inl (x0,x1,x2,x3,x4,Zaf IntKind.i64 (x5+(1:Int)))) else bif (x1.log.getD x5.toNat ZaZ).prior != x4 then some (Sum.inr (Sum.inr false)) else bif decide (x5>(0:Int)) then bif decide ((0:Int)<=Zaf IntKind.i64 (x5-(1:Int))) then bif decide (Zaf IntKind.i64 (x5-(1:Int))<(↑x1.log.length:Int)) then bif decide ((x1.log.getD x5.toNat ZaZ).step<(x1.log.getD (Zaf IntKind.i64 (x5-(1:Int))).toNat ZaZ).step) then some (Sum.inr (Sum.inr false)) else match Zc5 ((x1.log.getD x5.toNat ZaZ).op,x4,x0.lo,x0.hi) with
  | some y1 => bif x0.bounded then bif decide (y1.fst<x0.lo) then some (Sum.inr (Sum.inr false)) else bif decide (y1.fst>x0.hi) then some (Sum.inr (Sum.inr false)) else some (Sum.inl (x0,x1,x2,x3,y1.fst,Zaf IntKind.i64 (x5+(1:Int)))) else some (Sum.inl (x0,x1,x2,x3,y1.fst,Zaf IntKind.i64 (x5+(1:Int))))
  | none=>none else none else none else match Zc5 ((x1.log.getD x5.toNat ZaZ).op,x4,x0.lo,x0.hi) with
 | some y1 => bif x0.bounded then bif decide (y1.fst<x0.lo) then some (Sum.inr (Sum.inr false)) else bif decide (y1.fst>x0.hi) then some (Sum.inr (Sum.inr false)) else some (Sum.inl (x0,x1,x2,x3,y1.fst,Zaf IntKind.i64 (x5+(1:Int)))) else some (Sum.inl (x0,x1,x2,x3,y1.fst,Zaf IntKind.i64 (x5+(1:Int))))
 | none=>none else none else none else some (Sum.inr (Sum.inl (x0,x1,x2,x3,x4)))
def Zic (x:Config×Wld×Config×Int×Int×Int):Option ((Config×Wld×Config×Int×Int×Int)⊕((Config×Wld×Config×Int×Int)⊕(Bool))):=Zrs x.1 x.2.1 x.2.2.1 x.2.2.2.1 x.2.2.2.2.1 x.2.2.2.2.2
def Zq7 (x:Config×Wld×Config×Int×Int×Int):Option ((Config×Wld×Config×Int×Int)⊕(Bool)):=Zav Zic x
def Zrh (x0:Config) (x1:Wld) (x2:Config) (x3:Int):Option ((Config×Wld×Config×Int)⊕((Unit)⊕(Bool))) := bif decide (x3<x0.items) then match Zq7 (x0,x1,x2,x3,x0.init,(0:Int)) with
 | some (.inl y1) => match ZeU (y1.snd.snd.fst,y1.snd.snd.snd.fst) with
  | some y2 => bif decide ((0:Int)<=y2) then bif decide (y2<(↑y1.snd.fst.m.words.length:Int)) then bif y1.snd.fst.m.words.getD (Int.toNat y2) (0:Int) != y1.snd.snd.snd.snd then some (Sum.inr (Sum.inr false)) else some (Sum.inl (y1.fst,y1.snd.fst,y1.snd.snd.fst,Zaf IntKind.i64 (y1.snd.snd.snd.fst+(1:Int)))) else none else none
  | none=>none
 | some (.inr y2) => some (Sum.inr (Sum.inr y2))
 | none=>none else some (Sum.inr (Sum.inl ()))
def Zid (x:Config×Wld×Config×Int):Option ((Config×Wld×Config×Int)⊕((Unit)⊕(Bool))):=Zrh x.1 x.2.1 x.2.2.1 x.2.2.2
def Zqy (x:Config×Wld×Config×Int):Option ((Unit)⊕(Bool)):=Zav Zid x
def Zs8 (x0:Config) (x1:Wld):Option (Bool) := match ZfS x0 with
 | some y1 => bif (↑x1.m.words.length:Int) != y1 then some (false) else bif decide ((↑x1.log.length:Int)>(1000:Int)) then some (false) else match Zqy (x0,x1,x0,(0:Int)) with
  | some (.inl y2) => some (true)
  | some (.inr y3) => some (y3)
  | none=>none
 | none=>none
def Zs5 (x:Config×Wld):Option (Bool):=Zs8 x.1 x.2
def Zor (x0:Config) (x1:Wld) (x2:Int) (x3:List Mark) (x4:Int) (x5:Bool) (x6:Event) (x7:Int):Option ((Config×Wld×Int×(List Mark)×Int×Bool×Event×Int)⊕((Config×Wld×Int×(List Mark)×Int×Bool×Event)⊕(Bool))) := bif decide (x7<(↑x1.hist.length:Int)) then bif decide ((0:Int)<=x7) then bif decide (x7<(↑x1.hist.length:Int)) then bif (x1.hist.getD x7.toNat Zbp).t != x2 then some (Sum.inl (x0,x1,x2,x3,x4,x5,x6,Zaf IntKind.i64 (x7+(1:Int)))) else bif (x1.hist.getD x7.toNat Zbp).kind == (3:Int) then some (Sum.inl (x0,x1,x2,x3,x4,x5,x6,Zaf IntKind.i64 (x7+(1:Int)))) else bif ((x1.hist.getD x7.toNat Zbp).kind == (1:Int)) == x5 then some (Sum.inr (Sum.inr false)) else bif (x1.hist.getD x7.toNat Zbp).kind == (1:Int) then some (Sum.inl (x0,x1,x2,x3,x4,true,x1.hist.getD x7.toNat Zbp,Zaf IntKind.i64 (x7+(1:Int)))) else match Zc5 ((x1.hist.getD x7.toNat Zbp).op,(x1.hist.getD x7.toNat Zbp).prior,x0.lo,x0.hi) with
 | some y1 => bif decide (x4>=(↑x3.length:Int)) then some (Sum.inr (Sum.inr false)) else bif decide ((0:Int)<=x4) then bif decide (x4<(↑x3.length:Int)) then bif !((x3.getD x4.toNat ZaZ).op.tag == (x1.hist.getD x7.toNat Zbp).op.tag && ((x3.getD x4.toNat ZaZ).op.v == (x1.hist.getD x7.toNat Zbp).op.v && true)) then some (Sum.inr (Sum.inr false)) else bif decide ((0:Int)<=x4) then bif decide (x4<(↑x3.length:Int)) then bif (x3.getD x4.toNat ZaZ).item != (x1.hist.getD x7.toNat Zbp).item then some (Sum.inr (Sum.inr false)) else bif decide ((0:Int)<=x4) then bif decide (x4<(↑x3.length:Int)) then bif (x3.getD x4.toNat ZaZ).prior != (x1.hist.getD x7.toNat Zbp).prior then some (Sum.inr (Sum.inr false)) else bif !(x1.hist.getD x7.toNat Zbp).did == y1.snd then some (Sum.inr (Sum.inr false)) else bif !(x6.op.tag == (x1.hist.getD x7.toNat Zbp).op.tag && (x6.op.v == (x1.hist.getD x7.toNat Zbp).op.v && true)) then some (Sum.inr (Sum.inr false)) else bif x6.item != (x1.hist.getD x7.toNat Zbp).item then some (Sum.inr (Sum.inr false)) else bif decide ((0:Int)<=x4) then bif decide (x4<(↑x3.length:Int)) then bif decide ((x3.getD x4.toNat ZaZ).step<=x6.step) then some (Sum.inr (Sum.inr false)) else bif decide ((0:Int)<=x4) then bif decide (x4<(↑x3.length:Int)) then bif decide ((x3.getD x4.toNat ZaZ).step>(x1.hist.getD x7.toNat Zbp).step) then some (Sum.inr (Sum.inr false)) else some (Sum.inl (x0,x1,x2,x3,Zaf IntKind.i64 (x4+(1:Int)),false,x6,Zaf IntKind.i64 (x7+(1:Int)))) else none else none else none else none else none else none else none else none else none else none
 | none=>none else none else none else some (Sum.inr (Sum.inl (x0,x1,x2,x3,x4,x5,x6)))
def Zf3 (x:Config×Wld×Int×(List Mark)×Int×Bool×Event×Int):Option ((Config×Wld×Int×(List Mark)×Int×Bool×Event×Int)⊕((Config×Wld×Int×(List Mark)×Int×Bool×Event)⊕(Bool))):=Zor x.1 x.2.1 x.2.2.1 x.2.2.2.1 x.2.2.2.2.1 x.2.2.2.2.2.1 x.2.2.2.2.2.2.1 x.2.2.2.2.2.2.2
def ZoC (x:Config×Wld×Int×(List Mark)×Int×Bool×Event×Int):Option ((Config×Wld×Int×(List Mark)×Int×Bool×Event)⊕(Bool)):=Zav Zf3 x
def Zph (x0:Config) (x1:Wld) (x2:Int) (x3:List Mark) (x4:Int):Option ((Config×Wld×Int×(List Mark)×Int)⊕((Config×Wld×Int×(List Mark)))) := bif decide (x4<(↑x1.log.length:Int)) then bif decide ((0:Int)<=x4) then bif decide (x4<(↑x1.log.length:Int)) then bif (x1.log.getD x4.toNat ZaZ).t == x2 then bif decide ((0:Int)<=x4) then bif decide (x4<(↑x1.log.length:Int)) then bif fewB (x3.length+(x1.log.getD x4.toNat ZaZ::([]:List Mark)).length) then some (Sum.inl (x0,x1,x2,x3++x1.log.getD x4.toNat ZaZ::([]:List Mark),Zaf IntKind.i64 (x4+(1:Int)))) else none else none else none else some (Sum.inl (x0,x1,x2,x3,Zaf IntKind.i64 (x4+(1:Int)))) else none else none else some (Sum.inr (x0,x1,x2,x3))
def Zgu (x:Config×Wld×Int×(List Mark)×Int):Option ((Config×Wld×Int×(List Mark)×Int)⊕((Config×Wld×Int×(List Mark)))):=Zph x.1 x.2.1 x.2.2.1 x.2.2.2.1 x.2.2.2.2
def Zpi (x:Config×Wld×Int×(List Mark)×Int):Option ((Config×Wld×Int×(List Mark))):=Zav Zgu x
def Zpc (x0:Config) (x1:Wld) (x2:Int):Option ((Config×Wld×Int)⊕((Unit)⊕(Bool))) := bif decide (x2<x0.threads) then match Zpi (x0,x1,x2,([]:List Mark),(0:Int)) with
 | some y1 => match ZoC (y1.fst,y1.snd.fst,y1.snd.snd.fst,y1.snd.snd.snd,(0:Int),false,Event.mk (0:Int) (0:Int) (0:Int) (Op.mk (0:Int) (0:Int)) (0:Int) false (0:Int),(0:Int)) with
  | some (.inl y2) => bif (↑(List.length y2.snd.snd.snd.fst):Int) != y2.snd.snd.snd.snd.fst then bif !y2.snd.snd.snd.snd.snd.fst then some (Sum.inr (Sum.inr false)) else bif (↑(List.length y2.snd.snd.snd.fst):Int) != Zaf IntKind.i64 (y2.snd.snd.snd.snd.fst+(1:Int)) then some (Sum.inr (Sum.inr false)) else bif decide ((0:Int)<=y2.snd.snd.snd.snd.fst) then bif decide (y2.snd.snd.snd.snd.fst<(↑(List.length y2.snd.snd.snd.fst):Int)) then bif !((List.getD y2.snd.snd.snd.fst (Int.toNat y2.snd.snd.snd.snd.fst) ZaZ).op.tag == y2.snd.snd.snd.snd.snd.snd.op.tag && ((List.getD y2.snd.snd.snd.fst (Int.toNat y2.snd.snd.snd.snd.fst) ZaZ).op.v == y2.snd.snd.snd.snd.snd.snd.op.v && true)) then some (Sum.inr (Sum.inr false)) else bif decide ((0:Int)<=y2.snd.snd.snd.snd.fst) then bif decide (y2.snd.snd.snd.snd.fst<(↑(List.length y2.snd.snd.snd.fst):Int)) then bif (List.getD y2.snd.snd.snd.fst (Int.toNat y2.snd.snd.snd.snd.fst) ZaZ).item != y2.snd.snd.snd.snd.snd.snd.item then some (Sum.inr (Sum.inr false)) else bif decide ((0:Int)<=y2.snd.snd.snd.snd.fst) then bif decide (y2.snd.snd.snd.snd.fst<(↑(List.length y2.snd.snd.snd.fst):Int)) then bif decide ((List.getD y2.snd.snd.snd.fst (Int.toNat y2.snd.snd.snd.snd.fst) ZaZ).step<=y2.snd.snd.snd.snd.snd.snd.step) then some (Sum.inr (Sum.inr false)) else some (Sum.inl (y2.fst,y2.snd.fst,Zaf IntKind.i64 (y2.snd.snd.fst+(1:Int)))) else none else none else none else none else none else none else some (Sum.inl (y2.fst,y2.snd.fst,Zaf IntKind.i64 (y2.snd.snd.fst+(1:Int))))
  | some (.inr y3) => some (Sum.inr (Sum.inr y3))
  | none=>none
 | none=>none else some (Sum.inr (Sum.inl ()))
def Zgv (x:Config×Wld×Int):Option ((Config×Wld×Int)⊕((Unit)⊕(Bool))):=Zpc x.1 x.2.1 x.2.2
def Zpa (x:Config×Wld×Int):Option ((Unit)⊕(Bool)):=Zav Zgv x
def Zri (x0:Config) (x1:Wld):Option (Bool) := bif decide ((↑x1.hist.length:Int)>(1000:Int)) then some (false) else match Zpa (x0,x1,(0:Int)) with
 | some (.inl y1) => some (true)
 | some (.inr y2) => some (y2)
 | none=>none
def ZqP (x:Config×Wld):Option (Bool):=Zri x.1 x.2
def Zhu (x0:Turn):Option (Turn) := bif x0.c.backend == (2:Int) then bif decide (x0.c.depth>(0:Int)) then some ({ x0 with th:={ x0.th with phase:=(4:Int) } }) else bif x0.c.backend == (3:Int) then bif decide (x0.c.layers>(0:Int)) then some ({ x0 with th:={ x0.th with phase:=(17:Int),layer:=(1:Int) } }) else some ({ x0 with th:={ x0.th with phase:=(2:Int) } }) else some ({ x0 with th:={ x0.th with phase:=(2:Int) } }) else bif x0.c.backend == (3:Int) then bif decide (x0.c.layers>(0:Int)) then some ({ x0 with th:={ x0.th with phase:=(17:Int),layer:=(1:Int) } }) else some ({ x0 with th:={ x0.th with phase:=(2:Int) } }) else some ({ x0 with th:={ x0.th with phase:=(2:Int) } })
def ZfD (x:Turn):Option (Turn):=Zhu x
def Zdn (x0:List Int):Option ((List Int)) := bif fewB ((0:Nat)+x0.length) then some (x0) else none
def ZbB (x:(List Int)):Option ((List Int)):=Zdn x
def Zfo (x0:List Int) (x1:Int):Option (Int×Int) := bif decide (x1<(0:Int)) then some (((0:Int),(30:Int))) else bif decide (x1>=(↑x0.length:Int)) then some (((0:Int),(30:Int))) else bif decide ((0:Int)<=x1) then bif decide (x1<(↑x0.length:Int)) then some ((x0.getD x1.toNat (0:Int),(0:Int))) else none else none
def ZbG (x:(List Int)×Int):Option (Int×Int):=Zfo x.1 x.2
def ZfU (x0:Memo) (x1:Int) (x2:Int):Option (Memo×Int) := match ZbG (x0.words,x1) with
 | some y1 => bif y1.snd != (0:Int) then some ((x0,y1.snd)) else match ZbB x0.words with
  | some y2 => bif decide ((0:Int)<=x1) then bif decide (x1<(↑(List.length y2):Int)) then some (({ x0 with words:=List.set y2 x1.toNat x2 },y1.snd)) else none else none
  | none=>none
 | none=>none
def Zcb (x:Memo×Int×Int):Option (Memo×Int):=ZfU x.1 x.2.1 x.2.2
def ZkW (x0:Config) (x1:Int):Option (Int) := bif decide (x1<(0:Int)) then some ((-1:Int)) else bif decide (x1>=x0.threads) then some ((-1:Int)) else match Zcp x0 with
 | some y1 => some (Zaf IntKind.i64 (y1.lines+Zaf IntKind.i64 ((2:Int)*x1)))
 | none=>none
def Zc4 (x:Config×Int):Option (Int):=ZkW x.1 x.2
def ZhE (x0:Turn):Option (Turn×Bool) := bif x0.th.phase != (1:Int) then some ((x0,false)) else match Zc4 (x0.c,x0.t) with
 | some y1 => match Zcb (x0.m,y1,(0:Int)) with
  | some y2 => bif y2.snd != (0:Int) then some ((x0,true)) else match ZfD { x0 with m:=y2.fst } with
   | some y3 => some ((y3,true))
   | none=>none
  | none=>none
 | none=>none
def Zh4 (x:Turn):Option (Turn×Bool):=ZhE x
def Zk9 (x0:Config) (x1:Int) (x2:Int):Option (Int) := bif decide (x1<(0:Int)) then some ((-1:Int)) else bif decide (x1>=x0.items) then some ((-1:Int)) else match Zfm x0 with
 | some y1 => bif decide (x2<(1:Int)) then some ((-1:Int)) else bif decide (x2>=Zaf IntKind.i64 ((1:Int)+y1)) then some ((-1:Int)) else match Zcp x0 with
  | some y2 => some (Zaf IntKind.i64 (Zaf IntKind.i64 (x1*y2.block)+x2))
  | none=>none
 | none=>none
def Zd3 (x:Config×Int×Int):Option (Int):=Zk9 x.1 x.2.1 x.2.2
def Zdf (x0:Said):Option (Int) :=
 some (Zaf IntKind.i64 (Zaf IntKind.i64 ((8:Int)*Zaf IntKind.i64 (x0.n+(1:Int)))+x0.kind))
def ZbR (x:Said):Option (Int):=Zdf x
def Zld (x0:Int):Option (Int) := match ZbR (Said.mk (1:Int) x0) with
 | some y1 => some (y1)
 | none=>none
def ZeS (x:Int):Option (Int):=Zld x
def Zmz (x0:Int):Option (Int) :=
 some ((if (0:Int)>x0 then (0:Int) else x0).fdiv ((2:Int) ^ min (Int.toNat (1:Int)) IntKind.i64.bits))
def ZiS (x:Int):Option (Int):=Zmz x
def Zk4 (x0:Turn):Option (Turn) := bif decide (x0.th.stop>(0:Int)) then bif decide (x0.th.at_>=(0:Int)) then bif decide (x0.th.at_<(↑x0.th.held.length:Int)) then some ({ x0 with th:={ x0.th with phase:=(7:Int) } }) else some ({ x0 with th:={ x0.th with phase:=(11:Int) } }) else some ({ x0 with th:={ x0.th with phase:=(11:Int) } }) else bif decide (x0.th.at_>=(0:Int)) then bif decide (x0.th.at_<(↑x0.th.held.length:Int)) then some ({ x0 with th:={ x0.th with phase:=(7:Int) } }) else some ({ x0 with th:={ x0.th with phase:=(2:Int) } }) else some ({ x0 with th:={ x0.th with phase:=(2:Int) } })
def Zf4 (x:Turn):Option (Turn):=Zk4 x
def Zln (x0:Turn):Option (Turn) := match Zf4 { x0 with th:={ x0.th with at_:=(0:Int) } } with
 | some y1 => some (y1)
 | none=>none
def Zd4 (x:Turn):Option (Turn):=Zln x
def ZjV (x0:Turn):Option (Turn) := match ZbB x0.th.held with
 | some y1 => bif fewB (List.length y1+(x0.th.node::([]:List Int)).length) then match ZiS x0.th.node with
  | some y2 => bif decide (y2>(0:Int)) then some ({ x0 with th:={ x0.th with held:=y1++x0.th.node::([]:List Int),node:=y2 } }) else match Zd4 { x0 with th:={ x0.th with held:=y1++x0.th.node::([]:List Int),node:=y2 } } with
   | some y3 => some (y3)
   | none=>none
  | none=>none else none
 | none=>none
def Zj2 (x:Turn):Option (Turn):=ZjV x
def Zhp (x0:Memo) (x1:Int) (x2:Int) (x3:Int):Option (Memo×Bool×Int) := match ZbG (x0.words,x1) with
 | some y1 => bif y1.snd != (0:Int) then some ((x0,false,y1.snd)) else bif y1.fst == x2 then match ZbB x0.words with
  | some y2 => bif decide ((0:Int)<=x1) then bif decide (x1<(↑(List.length y2):Int)) then some (({ x0 with words:=List.set y2 x1.toNat x3 },y1.fst == x2,y1.snd)) else none else none
  | none=>none else some ((x0,y1.fst == x2,y1.snd))
 | none=>none
def ZcO (x:Memo×Int×Int×Int):Option (Memo×Bool×Int):=Zhp x.1 x.2.1 x.2.2.1 x.2.2.2
def Zfs (x0:Memo) (x1:Int):Option (Int×Int) := match ZbG (x0.words,x1) with
 | some y1 => some (y1)
 | none=>none
def Zcc (x:Memo×Int):Option (Int×Int):=Zfs x.1 x.2
def Zjy (x0:Turn):Option (Bool) := bif decide ((0:Int)<x0.th.until_) then some (decide (x0.th.until_<=x0.now)) else some (false)
def ZdB (x:Turn):Option (Bool):=Zjy x
def Zof (x0:Int):Option (Said) := bif Zaf IntKind.i64 (↑(BitVec.ofInt IntKind.i64.bits x0 &&& BitVec.ofInt IntKind.i64.bits (7:Int)).toNat:Int) == (5:Int) && (Zaf IntKind.i64 (x0.fdiv ((2:Int) ^ min (Int.toNat (3:Int)) IntKind.i64.bits)-(1:Int)) == (-1:Int) && true) then some (Said.mk (Zaf IntKind.i64 (↑(BitVec.ofInt IntKind.i64.bits x0 &&& BitVec.ofInt IntKind.i64.bits (7:Int)).toNat:Int)) (Zaf IntKind.i64 (x0.fdiv ((2:Int) ^ min (Int.toNat (3:Int)) IntKind.i64.bits)-(1:Int)))) else bif decide (Zaf IntKind.i64 (↑(BitVec.ofInt IntKind.i64.bits x0 &&& BitVec.ofInt IntKind.i64.bits (7:Int)).toNat:Int)>=(1:Int)) then bif decide (Zaf IntKind.i64 (↑(BitVec.ofInt IntKind.i64.bits x0 &&& BitVec.ofInt IntKind.i64.bits (7:Int)).toNat:Int)<=(3:Int)) then bif decide (Zaf IntKind.i64 (x0.fdiv ((2:Int) ^ min (Int.toNat (3:Int)) IntKind.i64.bits)-(1:Int))>=(0:Int)) then bif decide (Zaf IntKind.i64 (x0.fdiv ((2:Int) ^ min (Int.toNat (3:Int)) IntKind.i64.bits)-(1:Int))<(16:Int)) then some (Said.mk (Zaf IntKind.i64 (↑(BitVec.ofInt IntKind.i64.bits x0 &&& BitVec.ofInt IntKind.i64.bits (7:Int)).toNat:Int)) (Zaf IntKind.i64 (x0.fdiv ((2:Int) ^ min (Int.toNat (3:Int)) IntKind.i64.bits)-(1:Int)))) else bif Zaf IntKind.i64 (↑(BitVec.ofInt IntKind.i64.bits x0 &&& BitVec.ofInt IntKind.i64.bits (7:Int)).toNat:Int) == (4:Int) then bif decide ((Zaf IntKind.i64 (x0.fdiv ((2:Int) ^ min (Int.toNat (3:Int)) IntKind.i64.bits)-(1:Int))).fdiv ((2:Int) ^ min (Int.toNat (4:Int)) IntKind.i64.bits)>=(0:Int)) then bif decide ((Zaf IntKind.i64 (x0.fdiv ((2:Int) ^ min (Int.toNat (3:Int)) IntKind.i64.bits)-(1:Int))).fdiv ((2:Int) ^ min (Int.toNat (4:Int)) IntKind.i64.bits)<(4:Int)) then bif decide (Zaf IntKind.i64 (↑(BitVec.ofInt IntKind.i64.bits (Zaf IntKind.i64 (x0.fdiv ((2:Int) ^ min (Int.toNat (3:Int)) IntKind.i64.bits)-(1:Int))) &&& BitVec.ofInt IntKind.i64.bits (15:Int)).toNat:Int)>=(1:Int)) then bif decide (Zaf IntKind.i64 (↑(BitVec.ofInt IntKind.i64.bits (Zaf IntKind.i64 (x0.fdiv ((2:Int) ^ min (Int.toNat (3:Int)) IntKind.i64.bits)-(1:Int))) &&& BitVec.ofInt IntKind.i64.bits (15:Int)).toNat:Int)<=(3:Int)) then some (Said.mk (Zaf IntKind.i64 (↑(BitVec.ofInt IntKind.i64.bits x0 &&& BitVec.ofInt IntKind.i64.bits (7:Int)).toNat:Int)) (Zaf IntKind.i64 (x0.fdiv ((2:Int) ^ min (Int.toNat (3:Int)) IntKind.i64.bits)-(1:Int)))) else some (Said.mk (0:Int) (0:Int)) else some (Said.mk (0:Int) (0:Int)) else some (Said.mk (0:Int) (0:Int)) else some (Said.mk (0:Int) (0:Int)) else some (Said.mk (0:Int) (0:Int)) else bif Zaf IntKind.i64 (↑(BitVec.ofInt IntKind.i64.bits x0 &&& BitVec.ofInt IntKind.i64.bits (7:Int)).toNat:Int) == (4:Int) then bif decide ((Zaf IntKind.i64 (x0.fdiv ((2:Int) ^ min (Int.toNat (3:Int)) IntKind.i64.bits)-(1:Int))).fdiv ((2:Int) ^ min (Int.toNat (4:Int)) IntKind.i64.bits)>=(0:Int)) then bif decide ((Zaf IntKind.i64 (x0.fdiv ((2:Int) ^ min (Int.toNat (3:Int)) IntKind.i64.bits)-(1:Int))).fdiv ((2:Int) ^ min (Int.toNat (4:Int)) IntKind.i64.bits)<(4:Int)) then bif decide (Zaf IntKind.i64 (↑(BitVec.ofInt IntKind.i64.bits (Zaf IntKind.i64 (x0.fdiv ((2:Int) ^ min (Int.toNat (3:Int)) IntKind.i64.bits)-(1:Int))) &&& BitVec.ofInt IntKind.i64.bits (15:Int)).toNat:Int)>=(1:Int)) then bif decide (Zaf IntKind.i64 (↑(BitVec.ofInt IntKind.i64.bits (Zaf IntKind.i64 (x0.fdiv ((2:Int) ^ min (Int.toNat (3:Int)) IntKind.i64.bits)-(1:Int))) &&& BitVec.ofInt IntKind.i64.bits (15:Int)).toNat:Int)<=(3:Int)) then some (Said.mk (Zaf IntKind.i64 (↑(BitVec.ofInt IntKind.i64.bits x0 &&& BitVec.ofInt IntKind.i64.bits (7:Int)).toNat:Int)) (Zaf IntKind.i64 (x0.fdiv ((2:Int) ^ min (Int.toNat (3:Int)) IntKind.i64.bits)-(1:Int)))) else some (Said.mk (0:Int) (0:Int)) else some (Said.mk (0:Int) (0:Int)) else some (Said.mk (0:Int) (0:Int)) else some (Said.mk (0:Int) (0:Int)) else some (Said.mk (0:Int) (0:Int)) else bif Zaf IntKind.i64 (↑(BitVec.ofInt IntKind.i64.bits x0 &&& BitVec.ofInt IntKind.i64.bits (7:Int)).toNat:Int) == (4:Int) then bif decide ((Zaf IntKind.i64 (x0.fdiv ((2:Int) ^ min (Int.toNat (3:Int)) IntKind.i64.bits)-(1:Int))).fdiv ((2:Int) ^ min (Int.toNat (4:Int)) IntKind.i64.bits)>=(0:Int)) then bif decide ((Zaf IntKind.i64 (x0.fdiv ((2:Int) ^ min (Int.toNat (3:Int)) IntKind.i64.bits)-(1:Int))).fdiv ((2:Int) ^ min (Int.toNat (4:Int)) IntKind.i64.bits)<(4:Int)) then bif decide (Zaf IntKind.i64 (↑(BitVec.ofInt IntKind.i64.bits (Zaf IntKind.i64 (x0.fdiv ((2:Int) ^ min (Int.toNat (3:Int)) IntKind.i64.bits)-(1:Int))) &&& BitVec.ofInt IntKind.i64.bits (15:Int)).toNat:Int)>=(1:Int)) then bif decide (Zaf IntKind.i64 (↑(BitVec.ofInt IntKind.i64.bits (Zaf IntKind.i64 (x0.fdiv ((2:Int) ^ min (Int.toNat (3:Int)) IntKind.i64.bits)-(1:Int))) &&& BitVec.ofInt IntKind.i64.bits (15:Int)).toNat:Int)<=(3:Int)) then some (Said.mk (Zaf IntKind.i64 (↑(BitVec.ofInt IntKind.i64.bits x0 &&& BitVec.ofInt IntKind.i64.bits (7:Int)).toNat:Int)) (Zaf IntKind.i64 (x0.fdiv ((2:Int) ^ min (Int.toNat (3:Int)) IntKind.i64.bits)-(1:Int)))) else some (Said.mk (0:Int) (0:Int)) else some (Said.mk (0:Int) (0:Int)) else some (Said.mk (0:Int) (0:Int)) else some (Said.mk (0:Int) (0:Int)) else some (Said.mk (0:Int) (0:Int)) else bif Zaf IntKind.i64 (↑(BitVec.ofInt IntKind.i64.bits x0 &&& BitVec.ofInt IntKind.i64.bits (7:Int)).toNat:Int) == (4:Int) then bif decide ((Zaf IntKind.i64 (x0.fdiv ((2:Int) ^ min (Int.toNat (3:Int)) IntKind.i64.bits)-(1:Int))).fdiv ((2:Int) ^ min (Int.toNat (4:Int)) IntKind.i64.bits)>=(0:Int)) then bif decide ((Zaf IntKind.i64 (x0.fdiv ((2:Int) ^ min (Int.toNat (3:Int)) IntKind.i64.bits)-(1:Int))).fdiv ((2:Int) ^ min (Int.toNat (4:Int)) IntKind.i64.bits)<(4:Int)) then bif decide (Zaf IntKind.i64 (↑(BitVec.ofInt IntKind.i64.bits (Zaf IntKind.i64 (x0.fdiv ((2:Int) ^ min (Int.toNat (3:Int)) IntKind.i64.bits)-(1:Int))) &&& BitVec.ofInt IntKind.i64.bits (15:Int)).toNat:Int)>=(1:Int)) then bif decide (Zaf IntKind.i64 (↑(BitVec.ofInt IntKind.i64.bits (Zaf IntKind.i64 (x0.fdiv ((2:Int) ^ min (Int.toNat (3:Int)) IntKind.i64.bits)-(1:Int))) &&& BitVec.ofInt IntKind.i64.bits (15:Int)).toNat:Int)<=(3:Int)) then some (Said.mk (Zaf IntKind.i64 (↑(BitVec.ofInt IntKind.i64.bits x0 &&& BitVec.ofInt IntKind.i64.bits (7:Int)).toNat:Int)) (Zaf IntKind.i64 (x0.fdiv ((2:Int) ^ min (Int.toNat (3:Int)) IntKind.i64.bits)-(1:Int)))) else some (Said.mk (0:Int) (0:Int)) else some (Said.mk (0:Int) (0:Int)) else some (Said.mk (0:Int) (0:Int)) else some (Said.mk (0:Int) (0:Int)) else some (Said.mk (0:Int) (0:Int))
def Zjp (x:Int):Option (Said):=Zof x
def Zmc (x0:Int):Option (Int) := match Zjp x0 with
 | some y1 => bif x0 == (0:Int) then some (y1.kind) else bif !(y1.kind == (0:Int) && (y1.n == (0:Int) && true)) then some (y1.kind) else some ((-1:Int))
 | none=>none
def ZgE (x:Int):Option (Int):=Zmc x
def ZkJ (x0:Turn) (x1:Int):Option (Turn) := match ZgE x1 with
 | some y1 => bif y1 == (1:Int) then some ({ x0 with th:={ x0.th with phase:=(6:Int),x:=x1 } }) else bif y1 == (0:Int) then some ({ x0 with th:={ x0.th with phase:=(5:Int) } }) else match ZdB x0 with
  | some y2 => bif y2 then match Zd4 x0 with
   | some y3 => some (y3)
   | none=>none else some (x0)
  | none=>none
 | none=>none
def ZkA (x:Turn×Int):Option (Turn):=ZkJ x.1 x.2
def ZjT (x0:Int):Option (Int) := match ZbR (Said.mk (2:Int) x0) with
 | some y1 => some (y1)
 | none=>none
def ZjO (x:Int):Option (Int):=ZjT x
def Zin (x0:Turn):Option (Turn) := match Zd4 { x0 with th:={ x0.th with stop:=x0.th.node } } with
 | some y1 => some (y1)
 | none=>none
def Zix (x:Turn):Option (Turn):=Zin x
def Zlj (x0:Turn):Option (Turn×Bool) := match Zd3 (x0.c,x0.th.item,x0.th.node) with
 | some y1 => match ZeS x0.t with
  | some y2 => bif x0.th.phase == (4:Int) then match Zcc (x0.m,y1) with
   | some y3 => bif y3.snd != (0:Int) then some ((x0,true)) else match ZkA (x0,y3.fst) with
     | some y4 => some ((y4,true))
     | none=>none
   | none=>none else bif x0.th.phase == (6:Int) then match ZjO x0.t with
    | some y3 => match ZcO (x0.m,y1,x0.th.x,y3) with
     | some y4 => bif y4.snd.snd != (0:Int) then some ((x0,true)) else bif y4.snd.fst then match Zix { x0 with m:=y4.fst,th:={ x0.th with phase:=(4:Int) } } with
      | some y5 => some ((y5,true))
      | none=>none else some (({ x0 with m:=y4.fst,th:={ x0.th with phase:=(4:Int) } },true))
     | none=>none
    | none=>none else bif x0.th.phase == (5:Int) then match ZcO (x0.m,y1,(0:Int),y2) with
     | some y3 => bif y3.snd.snd != (0:Int) then some ((x0,true)) else bif y3.snd.fst then match Zj2 { x0 with m:=y3.fst,th:={ x0.th with phase:=(4:Int) } } with
      | some y4 => some ((y4,true))
      | none=>none else some (({ x0 with m:=y3.fst,th:={ x0.th with phase:=(4:Int) } },true))
     | none=>none else some ((x0,false))
  | none=>none
 | none=>none
def Zlm (x:Turn):Option (Turn×Bool):=Zlj x
def ZjG (x0:Turn):Option (Int) := bif decide (x0.th.at_<(0:Int)) then some ((-1:Int)) else bif decide (x0.th.at_>=(↑x0.th.held.length:Int)) then some ((-1:Int)) else bif decide ((0:Int)<=x0.th.at_) then bif decide (x0.th.at_<(↑x0.th.held.length:Int)) then match Zd3 (x0.c,x0.th.item,x0.th.held.getD x0.th.at_.toNat (0:Int)) with
 | some y1 => some (y1)
 | none=>none else none else none
def Zfq (x:Turn):Option (Int):=ZjG x
def Znj (x0:Int):Option (Int) := match Zjp x0 with
 | some y1 => bif decide (y1.kind>=(1:Int)) then bif decide (y1.kind<=(3:Int)) then some (y1.n) else some ((-1:Int)) else some ((-1:Int))
 | none=>none
def Znf (x:Int):Option (Int):=Znj x
def Zns (x0:Turn):Option (Turn) := match Zfq x0 with
 | some y1 => match Zcc (x0.m,y1) with
  | some y2 => bif y2.snd != (0:Int) then some (x0) else match ZeS x0.t with
   | some y3 => bif y2.fst == y3 then some ({ x0 with th:={ x0.th with phase:=(8:Int) } }) else match ZgE y2.fst with
    | some y4 => bif y4 == (3:Int) then match Znf y2.fst with
     | some y5 => some ({ x0 with th:={ x0.th with phase:=(9:Int),who:=y5 } })
     | none=>none else some (x0)
    | none=>none
   | none=>none
  | none=>none
 | none=>none
def ZjK (x:Turn):Option (Turn):=Zns x
def Zj5 (x0:Turn):Option (Turn) := match Zf4 { x0 with th:={ x0.th with at_:=Zaf IntKind.i64 (x0.th.at_+(1:Int)) } } with
 | some y1 => some (y1)
 | none=>none
def ZgT (x:Turn):Option (Turn):=Zj5 x
def ZnL (x0:Turn):Option (Turn) := match Zfq x0 with
 | some y1 => match ZeS x0.t with
  | some y2 => match ZcO (x0.m,y1,y2,(0:Int)) with
   | some y3 => bif !y3.snd.fst then bif y3.snd.snd != (0:Int) then some (x0) else some ({ x0 with m:=y3.fst,th:={ x0.th with phase:=(7:Int) } }) else bif y3.snd.snd != (0:Int) then some (x0) else match ZgT { x0 with m:=y3.fst } with
    | some y4 => some (y4)
    | none=>none
   | none=>none
  | none=>none
 | none=>none
def Zj1 (x:Turn):Option (Turn):=ZnL x
def ZcP (x0:List Entry):Option ((List Entry)) := bif fewB ((0:Nat)+x0.length) then some (x0) else none
def Zbt (x:(List Entry)):Option ((List Entry)):=ZcP x
def Zck (x0:List (List Entry)) (x1:Int):Option ((List Entry)×Int) := bif decide (x1<(0:Int)) then some ((([]:List Entry),(30:Int))) else bif decide (x1>=(↑x0.length:Int)) then some ((([]:List Entry),(30:Int))) else bif decide ((0:Int)<=x1) then bif decide (x1<(↑x0.length:Int)) then some ((x0.getD x1.toNat ([]:List Entry),(0:Int))) else none else none
def Zci (x:(List (List Entry))×Int):Option ((List Entry)×Int):=Zck x.1 x.2
def ZhQ (x0:Memo) (x1:Int):Option ((List Entry)×Int) := match Zci (x0.boxes,x1) with
 | some y1 => match Zbt y1.fst with
  | some y2 => some ((y2,y1.snd))
  | none=>none
 | none=>none
def Zhk (x:Memo×Int):Option ((List Entry)×Int):=ZhQ x.1 x.2
def Zd6 (x0:Unit) (x1:Int):Option ((List Kid)) := bif decide (x1<(0:Int)) then none else bif decide (Zaf IntKind.i64 (x1-Zaf IntKind.i64 ((0:Int)-(0:Int)))>(0:Int)) then bif decide ((0:Int)<=Zaf IntKind.i64 (x1-Zaf IntKind.i64 ((0:Int)-(0:Int)))) then bif decide (Zaf IntKind.i64 (x1-Zaf IntKind.i64 ((0:Int)-(0:Int)))<=ZbC) then some (List.take (Int.toNat (0:Int)) (List.replicate (Zaf IntKind.i64 (x1-Zaf IntKind.i64 ((0:Int)-(0:Int)))).toNat (Kid.mk (0:Int) (0:Int)))) else none else none else some (([]:List Kid))
def Zd2 (x:Unit×Int):Option ((List Kid)):=Zd6 x.1 x.2
def Zcr (x0:List Kid) (x1:List (List Kid)) (x2:Int) (x3:Int):Option (((List Kid)×(List (List Kid))×Int×Int)⊕(((List Kid)))) := bif decide (x3<x2) then bif decide ((0:Int)<=x3) then bif decide (x3<(↑x1.length:Int)) then bif fewB (x0.length+List.length (x1.getD x3.toNat ([]:List Kid))) then some (Sum.inl (x0++x1.getD x3.toNat ([]:List Kid),x1,x2,Zaf IntKind.i64 (x3+(1:Int)))) else none else none else none else some (Sum.inr x0)
def ZbJ (x:(List Kid)×(List (List Kid))×Int×Int):Option (((List Kid)×(List (List Kid))×Int×Int)⊕(((List Kid)))):=Zcr x.1 x.2.1 x.2.2.1 x.2.2.2
def Zc9 (x:(List Kid)×(List (List Kid))×Int×Int):Option (((List Kid))):=Zav ZbJ x
def Zcz (x0:List (List Kid)) (x1:Int) (x2:List (List Kid)) (x3:Int) (x4:Int):Option (((List (List Kid))×Int×(List (List Kid))×Int×Int)⊕(((List (List Kid))×Int))) := bif decide (x4<x3) then bif decide ((0:Int)<=x4) then bif decide (x4<(↑x2.length:Int)) then bif decide (Zaf IntKind.i64 (x1+(↑(List.length (x2.getD x4.toNat ([]:List Kid))):Int))<(0:Int)) then none else some (Sum.inl (x0,Zaf IntKind.i64 (x1+(↑(List.length (x2.getD x4.toNat ([]:List Kid))):Int)),x2,x3,Zaf IntKind.i64 (x4+(1:Int)))) else none else none else some (Sum.inr (x0,x1))
def ZbO (x:(List (List Kid))×Int×(List (List Kid))×Int×Int):Option (((List (List Kid))×Int×(List (List Kid))×Int×Int)⊕(((List (List Kid))×Int))):=Zcz x.1 x.2.1 x.2.2.1 x.2.2.2.1 x.2.2.2.2
def Zdb (x:(List (List Kid))×Int×(List (List Kid))×Int×Int):Option (((List (List Kid))×Int)):=Zav ZbO x
def ZdE (x0:List (List Kid)):Option ((List Kid)) := match Zdb (x0,(0:Int),x0,(↑x0.length:Int),(0:Int)) with
 | some y1 => match Zd2 ((),y1.snd) with
  | some y2 => match Zc9 (y2,y1.fst,(↑(List.length y1.fst):Int),(0:Int)) with
   | some y3 => some (y3)
   | none=>none
  | none=>none
 | none=>none
def ZdD (x:(List (List Kid))):Option ((List Kid)):=ZdE x
def ZdN (x0:Unit) (x1:Int):Option ((List Entry)) := bif decide (x1<(0:Int)) then none else bif decide (Zaf IntKind.i64 (x1-Zaf IntKind.i64 ((0:Int)-(0:Int)))>(0:Int)) then bif decide ((0:Int)<=Zaf IntKind.i64 (x1-Zaf IntKind.i64 ((0:Int)-(0:Int)))) then bif decide (Zaf IntKind.i64 (x1-Zaf IntKind.i64 ((0:Int)-(0:Int)))<=ZbC) then some (List.take (Int.toNat (0:Int)) (List.replicate (Zaf IntKind.i64 (x1-Zaf IntKind.i64 ((0:Int)-(0:Int)))).toNat (Entry.mk (0:Int) (Op.mk (0:Int) (0:Int))))) else none else none else some (([]:List Entry))
def ZdP (x:Unit×Int):Option ((List Entry)):=ZdN x.1 x.2
def Zcn (x0:List Entry) (x1:List (List Entry)) (x2:Int) (x3:Int):Option (((List Entry)×(List (List Entry))×Int×Int)⊕(((List Entry)))) := bif decide (x3<x2) then bif decide ((0:Int)<=x3) then bif decide (x3<(↑x1.length:Int)) then bif fewB (x0.length+List.length (x1.getD x3.toNat ([]:List Entry))) then some (Sum.inl (x0++x1.getD x3.toNat ([]:List Entry),x1,x2,Zaf IntKind.i64 (x3+(1:Int)))) else none else none else none else some (Sum.inr x0)
def ZbE (x:(List Entry)×(List (List Entry))×Int×Int):Option (((List Entry)×(List (List Entry))×Int×Int)⊕(((List Entry)))):=Zcn x.1 x.2.1 x.2.2.1 x.2.2.2
def Zc3 (x:(List Entry)×(List (List Entry))×Int×Int):Option (((List Entry))):=Zav ZbE x
def Zcs (x0:List (List Entry)) (x1:Int) (x2:List (List Entry)) (x3:Int) (x4:Int):Option (((List (List Entry))×Int×(List (List Entry))×Int×Int)⊕(((List (List Entry))×Int))) := bif decide (x4<x3) then bif decide ((0:Int)<=x4) then bif decide (x4<(↑x2.length:Int)) then bif decide (Zaf IntKind.i64 (x1+(↑(List.length (x2.getD x4.toNat ([]:List Entry))):Int))<(0:Int)) then none else some (Sum.inl (x0,Zaf IntKind.i64 (x1+(↑(List.length (x2.getD x4.toNat ([]:List Entry))):Int)),x2,x3,Zaf IntKind.i64 (x4+(1:Int)))) else none else none else some (Sum.inr (x0,x1))
def ZbL (x:(List (List Entry))×Int×(List (List Entry))×Int×Int):Option (((List (List Entry))×Int×(List (List Entry))×Int×Int)⊕(((List (List Entry))×Int))):=Zcs x.1 x.2.1 x.2.2.1 x.2.2.2.1 x.2.2.2.2
def Zc7 (x:(List (List Entry))×Int×(List (List Entry))×Int×Int):Option (((List (List Entry))×Int)):=Zav ZbL x
def Zdm (x0:List (List Entry)):Option ((List Entry)) := match Zc7 (x0,(0:Int),x0,(↑x0.length:Int),(0:Int)) with
 | some y1 => match ZdP ((),y1.snd) with
  | some y2 => match Zc3 (y2,y1.fst,(↑(List.length y1.fst):Int),(0:Int)) with
   | some y3 => some (y3)
   | none=>none
  | none=>none
 | none=>none
def Zdo (x:(List (List Entry))):Option ((List Entry)):=Zdm x
def ZnW (x0:List (List Entry)):Option ((List Entry)) := match Zdo x0 with
 | some y1 => some (y1)
 | none=>none
def ZkU (x:(List (List Entry))):Option ((List Entry)):=ZnW x
def Zj3 (x0:Turn) (x1:Int) (x2:List Entry):Option (Turn) := match ZdD (x0.th.kids::(Kid.mk x1 (↑x0.th.batch.length:Int)::([]:List Kid))::([]:List (List Kid))) with
 | some y1 => match ZkU (x0.th.batch::x2::([]:List (List Entry))) with
  | some y2 => some ({ x0 with th:={ x0.th with batch:=y2,kids:=y1 } })
  | none=>none
 | none=>none
def Zfb (x:Turn×Int×(List Entry)):Option (Turn):=Zj3 x.1 x.2.1 x.2.2
def ZkP (x0:Turn):Option (Turn) := match Zhk (x0.m,x0.th.who) with
 | some y1 => bif y1.snd != (0:Int) then some (x0) else match Zfb (x0,x0.th.who,y1.fst) with
  | some y2 => some ({ y2 with th:={ y2.th with phase:=(10:Int) } })
  | none=>none
 | none=>none
def Zg8 (x:Turn):Option (Turn):=ZkP x
def Znw (x0:Turn):Option (Turn) := match Zfq x0 with
 | some y1 => match Zcb (x0.m,y1,(0:Int)) with
  | some y2 => bif y2.snd != (0:Int) then some (x0) else match ZgT { x0 with m:=y2.fst } with
   | some y3 => some (y3)
   | none=>none
  | none=>none
 | none=>none
def ZjF (x:Turn):Option (Turn):=Znw x
def Zdp (x0:List (List Entry)):Option ((List (List Entry))) := bif fewB ((0:Nat)+x0.length) then some (x0) else none
def Zdl (x:(List (List Entry))):Option ((List (List Entry))):=Zdp x
def Zm4 (x0:Memo) (x1:Int) (x2:List Entry):Option (Memo×Int) := match Zci (x0.boxes,x1) with
 | some y1 => bif y1.snd != (0:Int) then some ((x0,y1.snd)) else match Zdl x0.boxes with
  | some y2 => match Zbt x2 with
   | some y3 => bif decide ((0:Int)<=x1) then bif decide (x1<(↑(List.length y2):Int)) then some (({ x0 with boxes:=List.set y2 x1.toNat y3 },(0:Int))) else none else none
   | none=>none
  | none=>none
 | none=>none
def Zhl (x:Memo×Int×(List Entry)):Option (Memo×Int):=Zm4 x.1 x.2.1 x.2.2
def Zla (x0:Turn):Option (Turn) := match Zhl (x0.m,x0.t,x0.th.batch) with
 | some y1 => bif y1.snd != (0:Int) then some (x0) else some ({ x0 with m:=y1.fst,th:={ x0.th with phase:=(12:Int) } })
 | none=>none
def Zg7 (x:Turn):Option (Turn):=Zla x
def Zhd (x0:Int):Option (Int) := match ZbR (Said.mk (3:Int) x0) with
 | some y1 => some (y1)
 | none=>none
def ZgV (x:Int):Option (Int):=Zhd x
def Zkz (x0:Turn):Option (Turn) := match Zd3 (x0.c,x0.th.item,x0.th.stop) with
 | some y1 => match ZgV x0.t with
  | some y2 => match Zcb (x0.m,y1,y2) with
   | some y3 => bif y3.snd != (0:Int) then some (x0) else some ({ x0 with m:=y3.fst,th:={ x0.th with phase:=(13:Int) } })
   | none=>none
  | none=>none
 | none=>none
def ZgX (x:Turn):Option (Turn):=Zkz x
def ZjJ (x0:Turn):Option (Turn×Bool) := bif x0.th.phase == (7:Int) then match ZjK x0 with
 | some y1 => some ((y1,true))
 | none=>none else bif x0.th.phase == (8:Int) then match Zj1 x0 with
  | some y1 => some ((y1,true))
  | none=>none else bif x0.th.phase == (9:Int) then match Zg8 x0 with
   | some y1 => some ((y1,true))
   | none=>none else bif x0.th.phase == (10:Int) then match ZjF x0 with
    | some y1 => some ((y1,true))
    | none=>none else bif x0.th.phase == (11:Int) then match Zg7 x0 with
     | some y1 => some ((y1,true))
     | none=>none else bif x0.th.phase == (12:Int) then match ZgX x0 with
      | some y1 => some ((y1,true))
      | none=>none else some ((x0,false))
def ZjB (x:Turn):Option (Turn×Bool):=ZjJ x
def Zp5 (x0:Config) (x1:Int×Int×Int×Int×Int×Int×Int×Int×Int×Int×Int×Int×Int×Int×Int×Int×Int×Int×Int×Int×Int×Int×Int×Int) (x2:Int):Option ((Config×(Int×Int×Int×Int×Int×Int×Int×Int×Int×Int×Int×Int×Int×Int×Int×Int×Int×Int×Int×Int×Int×Int×Int×Int)×Int)⊕((Config)⊕(Int))) := bif decide (x2<(8:Int)) then bif decide ((0:Int)<=x2) then bif decide (x2<(↑(8:Nat):Int)) then bif decide (x2=(↑(0:Nat):Int)) then bif decide (x1.fst<x1.snd.fst) then some (Sum.inr (Sum.inr (Zaf IntKind.i64 ((50:Int)+x2)))) else bif decide (x1.fst>x1.snd.snd.fst) then some (Sum.inr (Sum.inr (Zaf IntKind.i64 ((50:Int)+x2)))) else some (Sum.inl (x0,x1,Zaf IntKind.i64 (x2+(1:Int)))) else bif decide (x2=(↑((0:Nat)+(1:Nat)):Int)) then bif decide (x1.snd.snd.snd.fst<x1.snd.snd.snd.snd.fst) then some (Sum.inr (Sum.inr (Zaf IntKind.i64 ((50:Int)+x2)))) else bif decide (x1.snd.snd.snd.fst>x1.snd.snd.snd.snd.snd.fst) then some (Sum.inr (Sum.inr (Zaf IntKind.i64 ((50:Int)+x2)))) else some (Sum.inl (x0,x1,Zaf IntKind.i64 (x2+(1:Int)))) else bif decide (x2=(↑((0:Nat)+(1:Nat)+(1:Nat)):Int)) then bif decide (x1.snd.snd.snd.snd.snd.snd.fst<x1.snd.snd.snd.snd.snd.snd.snd.fst) then some (Sum.inr (Sum.inr (Zaf IntKind.i64 ((50:Int)+x2)))) else bif decide (x1.snd.snd.snd.snd.snd.snd.fst>x1.snd.snd.snd.snd.snd.snd.snd.snd.fst) then some (Sum.inr (Sum.inr (Zaf IntKind.i64 ((50:Int)+x2)))) else some (Sum.inl (x0,x1,Zaf IntKind.i64 (x2+(1:Int)))) else bif decide (x2=(↑((0:Nat)+(1:Nat)+(1:Nat)+(1:Nat)):Int)) then bif decide (x1.snd.snd.snd.snd.snd.snd.snd.snd.snd.fst<x1.snd.snd.snd.snd.snd.snd.snd.snd.snd.snd.fst) then some (Sum.inr (Sum.inr (Zaf IntKind.i64 ((50:Int)+x2)))) else bif decide (x1.snd.snd.snd.snd.snd.snd.snd.snd.snd.fst>x1.snd.snd.snd.snd.snd.snd.snd.snd.snd.snd.snd.fst) then some (Sum.inr (Sum.inr (Zaf IntKind.i64 ((50:Int)+x2)))) else some (Sum.inl (x0,x1,Zaf IntKind.i64 (x2+(1:Int)))) else bif decide (x2=(↑((0:Nat)+(1:Nat)+(1:Nat)+(1:Nat)+(1:Nat)):Int)) then bif decide (x1.snd.snd.snd.snd.snd.snd.snd.snd.snd.snd.snd.snd.fst<x1.snd.snd.snd.snd.snd.snd.snd.snd.snd.snd.snd.snd.snd.fst) then some (Sum.inr (Sum.inr (Zaf IntKind.i64 ((50:Int)+x2)))) else bif decide (x1.snd.snd.snd.snd.snd.snd.snd.snd.snd.snd.snd.snd.fst>x1.snd.snd.snd.snd.snd.snd.snd.snd.snd.snd.snd.snd.snd.snd.fst) then some (Sum.inr (Sum.inr (Zaf IntKind.i64 ((50:Int)+x2)))) else some (Sum.inl (x0,x1,Zaf IntKind.i64 (x2+(1:Int)))) else bif decide (x2=(↑((0:Nat)+(1:Nat)+(1:Nat)+(1:Nat)+(1:Nat)+(1:Nat)):Int)) then bif decide (x1.snd.snd.snd.snd.snd.snd.snd.snd.snd.snd.snd.snd.snd.snd.snd.fst<x1.snd.snd.snd.snd.snd.snd.snd.snd.snd.snd.snd.snd.snd.snd.snd.snd.fst) then some (Sum.inr (Sum.inr (Zaf IntKind.i64 ((50:Int)+x2)))) else bif decide (x1.snd.snd.snd.snd.snd.snd.snd.snd.snd.snd.snd.snd.snd.snd.snd.fst>x1.snd.snd.snd.snd.snd.snd.snd.snd.snd.snd.snd.snd.snd.snd.snd.snd.snd.fst) then some (Sum.inr (Sum.inr (Zaf IntKind.i64 ((50:Int)+x2)))) else some (Sum.inl (x0,x1,Zaf IntKind.i64 (x2+(1:Int)))) else bif decide (x2=(↑((0:Nat)+(1:Nat)+(1:Nat)+(1:Nat)+(1:Nat)+(1:Nat)+(1:Nat)):Int)) then bif decide (x1.snd.snd.snd.snd.snd.snd.snd.snd.snd.snd.snd.snd.snd.snd.snd.snd.snd.snd.fst<x1.snd.snd.snd.snd.snd.snd.snd.snd.snd.snd.snd.snd.snd.snd.snd.snd.snd.snd.snd.fst) then some (Sum.inr (Sum.inr (Zaf IntKind.i64 ((50:Int)+x2)))) else bif decide (x1.snd.snd.snd.snd.snd.snd.snd.snd.snd.snd.snd.snd.snd.snd.snd.snd.snd.snd.fst>x1.snd.snd.snd.snd.snd.snd.snd.snd.snd.snd.snd.snd.snd.snd.snd.snd.snd.snd.snd.snd.fst) then some (Sum.inr (Sum.inr (Zaf IntKind.i64 ((50:Int)+x2)))) else some (Sum.inl (x0,x1,Zaf IntKind.i64 (x2+(1:Int)))) else bif decide (x2=(↑((0:Nat)+(1:Nat)+(1:Nat)+(1:Nat)+(1:Nat)+(1:Nat)+(1:Nat)+(1:Nat)):Int)) then bif decide (x1.snd.snd.snd.snd.snd.snd.snd.snd.snd.snd.snd.snd.snd.snd.snd.snd.snd.snd.snd.snd.snd.fst<x1.snd.snd.snd.snd.snd.snd.snd.snd.snd.snd.snd.snd.snd.snd.snd.snd.snd.snd.snd.snd.snd.snd.fst) then some (Sum.inr (Sum.inr (Zaf IntKind.i64 ((50:Int)+x2)))) else bif decide (x1.snd.snd.snd.snd.snd.snd.snd.snd.snd.snd.snd.snd.snd.snd.snd.snd.snd.snd.snd.snd.snd.fst>x1.snd.snd.snd.snd.snd.snd.snd.snd.snd.snd.snd.snd.snd.snd.snd.snd.snd.snd.snd.snd.snd.snd.snd) then some (Sum.inr (Sum.inr (Zaf IntKind.i64 ((50:Int)+x2)))) else some (Sum.inl (x0,x1,Zaf IntKind.i64 (x2+(1:Int)))) else none else none else none else some (Sum.inr (Sum.inl x0))
def Zd9 (x:Config×(Int×Int×Int×Int×Int×Int×Int×Int×Int×Int×Int×Int×Int×Int×Int×Int×Int×Int×Int×Int×Int×Int×Int×Int)×Int):Option ((Config×(Int×Int×Int×Int×Int×Int×Int×Int×Int×Int×Int×Int×Int×Int×Int×Int×Int×Int×Int×Int×Int×Int×Int×Int)×Int)⊕((Config)⊕(Int))):=Zp5 x.1 x.2.1 x.2.2
def ZcT (x:Config×(Int×Int×Int×Int×Int×Int×Int×Int×Int×Int×Int×Int×Int×Int×Int×Int×Int×Int×Int×Int×Int×Int×Int×Int)×Int):Option ((Config)⊕(Int)):=Zav Zd9 x
def ZiF (x0:Config):Option (Int) := match ZcT (x0,(x0.threads,(1:Int),(16:Int),x0.items,(1:Int),(4:Int),x0.backend,(1:Int),(3:Int),x0.depth,(0:Int),(4:Int),x0.layers,(0:Int),(3:Int),x0.width,(1:Int),(8:Int),x0.spin,(0:Int),(20:Int),x0.wait,(0:Int),(1000:Int)),(0:Int)) with
 | some (.inl y1) => bif y1.bounded then bif decide (y1.init<y1.lo) then some ((58:Int)) else bif decide (y1.hi<y1.init) then some ((58:Int)) else some ((0:Int)) else some ((0:Int))
 | some (.inr y2) => some (y2)
 | none=>none
def ZeL (x:Config):Option (Int):=ZiF x
def Zh6 (x0:Int) (x1:Int):Option (Bool) := bif decide ((0:Int)<=x0) then some (decide (x0<x1)) else some (false)
def Zds (x:Int×Int):Option (Bool):=Zh6 x.1 x.2
def ZoK (x0:Int):Option (Bool) := bif decide ((1:Int)<=x0) then some (decide (x0<=(9:Int))) else some (false)
def ZkI (x:Int):Option (Bool):=ZoK x
def Znk (x0:Op) (x1:Bool):Option (Bool) := bif !x1 then match ZkI x0.tag with
 | some y1 => bif y1 then some (decide (x0.tag<(8:Int))) else some (false)
 | none=>none else bif x0.tag == (9:Int) then some (decide (x0.v>=(0:Int))) else some (x0.tag == (8:Int))
def Zki (x:Op×Bool):Option (Bool):=Znk x.1 x.2
def ZiW (x0:Config) (x1:SEntry):Option (Int) := bif x1.kind == (1:Int) then bif x1.kind == (1:Int) then match Zds (x1.t,x0.threads) with
 | some y1 => bif !y1 then some ((91:Int)) else bif x1.kind == (2:Int) then some ((0:Int)) else match Zds (x1.item,x0.items) with
  | some y2 => bif !y2 then some ((92:Int)) else match Zki (x1.op,x0.bounded) with
   | some y3 => bif !y3 then some ((93:Int)) else some ((0:Int))
   | none=>none
  | none=>none
 | none=>none else bif x1.kind == (3:Int) then some ((0:Int)) else some ((90:Int)) else bif x1.kind == (2:Int) then match Zds (x1.t,x0.threads) with
 | some y1 => bif !y1 then some ((91:Int)) else bif x1.kind == (2:Int) then some ((0:Int)) else match Zds (x1.item,x0.items) with
  | some y2 => bif !y2 then some ((92:Int)) else match Zki (x1.op,x0.bounded) with
   | some y3 => bif !y3 then some ((93:Int)) else some ((0:Int))
   | none=>none
  | none=>none
 | none=>none else bif x1.kind == (3:Int) then some ((0:Int)) else some ((90:Int))
def ZeG (x:Config×SEntry):Option (Int):=ZiW x.1 x.2
def ZeK (x0:Config) (x1:List SEntry) (x2:Int) (x3:Int):Option ((Config×(List SEntry)×Int×Int)⊕((Unit)⊕(Int×Int))) := bif decide (x3<x2) then bif decide ((0:Int)<=x3) then bif decide (x3<(↑x1.length:Int)) then match ZeG (x0,x1.getD x3.toNat Zbo) with
 | some y1 => bif y1 != (0:Int) then some (Sum.inr (Sum.inr (x3,y1))) else some (Sum.inl (x0,x1,x2,Zaf IntKind.i64 (x3+(1:Int))))
 | none=>none else none else none else some (Sum.inr (Sum.inl ()))
def Zgg (x:Config×(List SEntry)×Int×Int):Option ((Config×(List SEntry)×Int×Int)⊕((Unit)⊕(Int×Int))):=ZeK x.1 x.2.1 x.2.2.1 x.2.2.2
def ZiC (x:Config×(List SEntry)×Int×Int):Option ((Unit)⊕(Int×Int)):=Zav Zgg x
def ZkB (x0:Config) (x1:List SEntry):Option (Int×Int) := match ZeL x0 with
 | some y1 => bif y1 != (0:Int) then some (((0:Int),y1)) else bif decide ((↑x1.length:Int)>(65536:Int)) then some (((0:Int),(2:Int))) else match ZiC (x0,x1,(↑x1.length:Int),(0:Int)) with
  | some (.inl y2) => some (((0:Int),(0:Int)))
  | some (.inr y3) => some (y3)
  | none=>none
 | none=>none
def Zh8 (x:Config×(List SEntry)):Option (Int×Int):=ZkB x.1 x.2
def Zh9 (x0:Turn):Option (Turn) := bif decide (x0.th.layer<x0.c.layers) then match ZdB { x0 with th:={ x0.th with phase:=(2:Int) } } with
 | some y1 => bif !y1 then some ({ x0 with th:={ x0.th with phase:=(17:Int),layer:=Zaf IntKind.i64 (x0.th.layer+(1:Int)) } }) else some ({ x0 with th:={ x0.th with phase:=(2:Int) } })
 | none=>none else some ({ x0 with th:={ x0.th with phase:=(2:Int) } })
def Zco (x:Turn):Option (Turn):=Zh9 x
def Zje (x0:Int) (x1:Int):Option (Int) := match ZbR (Said.mk (4:Int) (Zaf IntKind.i64 (Zaf IntKind.i64 (x0*(2:Int) ^ min (Int.toNat (4:Int)) IntKind.i64.bits)+x1))) with
 | some y1 => some (y1)
 | none=>none
def Zjg (x:Int×Int):Option (Int):=Zje x.1 x.2
def ZhZ (x0:Turn×Int) (x1:Int):Option (Int) := match Zc4 (x0.fst.c,x1) with
 | some y1 => some (y1)
 | none=>none
def Zb4 (x:(Turn×Int)×Int):Option (Int):=ZhZ x.1 x.2
def Zpg (x0:Int) (x1:Int):Option (Int×Int) :=
 some ((Zaf IntKind.u64 (Zaf IntKind.u64 (Zaf IntKind.u64 (x0.fdiv ((2:Int) ^ min (Int.toNat (32:Int)) IntKind.u64.bits)*x1.fdiv ((2:Int) ^ min (Int.toNat (32:Int)) IntKind.u64.bits))+(Zaf IntKind.u64 (Zaf IntKind.u64 (x0.fdiv ((2:Int) ^ min (Int.toNat (32:Int)) IntKind.u64.bits)*Zaf IntKind.u64 (↑(BitVec.ofInt IntKind.u64.bits x1 &&& BitVec.ofInt IntKind.u64.bits (4294967295:Int)).toNat:Int))+(Zaf IntKind.u64 (Zaf IntKind.u64 (↑(BitVec.ofInt IntKind.u64.bits x0 &&& BitVec.ofInt IntKind.u64.bits (4294967295:Int)).toNat:Int)*Zaf IntKind.u64 (↑(BitVec.ofInt IntKind.u64.bits x1 &&& BitVec.ofInt IntKind.u64.bits (4294967295:Int)).toNat:Int))).fdiv ((2:Int) ^ min (Int.toNat (32:Int)) IntKind.u64.bits))).fdiv ((2:Int) ^ min (Int.toNat (32:Int)) IntKind.u64.bits))+(Zaf IntKind.u64 (Zaf IntKind.u64 (↑(BitVec.ofInt IntKind.u64.bits (Zaf IntKind.u64 (Zaf IntKind.u64 (x0.fdiv ((2:Int) ^ min (Int.toNat (32:Int)) IntKind.u64.bits)*Zaf IntKind.u64 (↑(BitVec.ofInt IntKind.u64.bits x1 &&& BitVec.ofInt IntKind.u64.bits (4294967295:Int)).toNat:Int))+(Zaf IntKind.u64 (Zaf IntKind.u64 (↑(BitVec.ofInt IntKind.u64.bits x0 &&& BitVec.ofInt IntKind.u64.bits (4294967295:Int)).toNat:Int)*Zaf IntKind.u64 (↑(BitVec.ofInt IntKind.u64.bits x1 &&& BitVec.ofInt IntKind.u64.bits (4294967295:Int)).toNat:Int))).fdiv ((2:Int) ^ min (Int.toNat (32:Int)) IntKind.u64.bits))) &&& BitVec.ofInt IntKind.u64.bits (4294967295:Int)).toNat:Int)+Zaf IntKind.u64 (Zaf IntKind.u64 (↑(BitVec.ofInt IntKind.u64.bits x0 &&& BitVec.ofInt IntKind.u64.bits (4294967295:Int)).toNat:Int)*x1.fdiv ((2:Int) ^ min (Int.toNat (32:Int)) IntKind.u64.bits)))).fdiv ((2:Int) ^ min (Int.toNat (32:Int)) IntKind.u64.bits)),Zaf IntKind.u64 (x0*x1)))
def Zkb (x:Int×Int):Option (Int×Int):=Zpg x.1 x.2
def Zrg (x0:Int) (x1:Int):Option (Int×Int) := match Zkb (x0,x1) with
 | some y1 => some (y1)
 | none=>none
def Zdw (x:Int×Int):Option (Int×Int):=Zrg x.1 x.2
def ZeJ (x0:List Thread):Option ((List Thread)) := bif fewB ((0:Nat)+x0.length) then some (x0) else none
def ZcC (x:(List Thread)):Option ((List Thread)):=ZeJ x
def Zfn (x0:List Mark):Option ((List Mark)) := bif fewB ((0:Nat)+x0.length) then some (x0) else none
def ZcQ (x:(List Mark)):Option ((List Mark)):=Zfn x
def Zfp (x0:List Event):Option ((List Event)) := bif fewB ((0:Nat)+x0.length) then some (x0) else none
def ZcS (x:(List Event)):Option ((List Event)):=Zfp x
def ZpD:Option (Int) := match ZbR (Said.mk (5:Int) (-1:Int)) with
 | some y1 => some (y1)
 | none=>none
def ZgM (x:Unit):Option (Int):=ZpD
def ZiH (x0:Config) (x1:Int):Option (Int) := bif decide (x1<(0:Int)) then some ((-1:Int)) else bif decide (x1>=x0.threads) then some ((-1:Int)) else match Zcp x0 with
 | some y1 => some (Zaf IntKind.i64 (Zaf IntKind.i64 (y1.lines+Zaf IntKind.i64 ((2:Int)*x1))+(1:Int)))
 | none=>none
def ZeO (x:Config×Int):Option (Int):=ZiH x.1 x.2
def Zi0 (x0:Turn):Option (Turn) := bif decide (x0.th.at_<(0:Int)) then some ({ x0 with th:={ x0.th with phase:=(0:Int) },done:=true }) else bif decide (x0.th.at_>=(↑x0.th.kids.length:Int)) then some ({ x0 with th:={ x0.th with phase:=(0:Int) },done:=true }) else bif decide ((0:Int)<=x0.th.at_) then bif decide (x0.th.at_<(↑x0.th.kids.length:Int)) then some ({ x0 with th:={ x0.th with phase:=(15:Int) } }) else none else none
def Zdc (x:Turn):Option (Turn):=Zi0 x
def Zlh (x0:List Entry) (x1:Int):Option ((List Entry)) := bif decide ((0:Int)<=if (if (↑x0.length:Int)<x1 then (↑x0.length:Int) else x1)>(0:Int) then if (↑x0.length:Int)<x1 then (↑x0.length:Int) else x1 else (0:Int)) then bif decide ((if (if (↑x0.length:Int)<x1 then (↑x0.length:Int) else x1)>(0:Int) then if (↑x0.length:Int)<x1 then (↑x0.length:Int) else x1 else (0:Int))<=(↑x0.length:Int)) then match Zbt (List.drop (Int.toNat (0:Int)) (List.take (if (if (↑x0.length:Int)<x1 then (↑x0.length:Int) else x1)>(0:Int) then if (↑x0.length:Int)<x1 then (↑x0.length:Int) else x1 else (0:Int)).toNat x0)) with
 | some y1 => some (y1)
 | none=>none else none else none
def ZkL (x:(List Entry)×Int):Option ((List Entry)):=Zlh x.1 x.2
def Znu (x0:Int) (x1:Int) (x2:Int) (x3:Int):Option (Bool) := bif decide (x1>=(0:Int)) then bif decide (Zaf IntKind.i64 (x0+x1)>=x0) then bif decide (Zaf IntKind.i64 (x0+x1)<x2) then some (true) else some (decide (Zaf IntKind.i64 (x0+x1)>x3)) else bif decide (x1<(0:Int)) then bif decide (Zaf IntKind.i64 (x0+x1)<x0) then bif decide (Zaf IntKind.i64 (x0+x1)<x2) then some (true) else some (decide (Zaf IntKind.i64 (x0+x1)>x3)) else some (true) else some (true) else bif decide (x1<(0:Int)) then bif decide (Zaf IntKind.i64 (x0+x1)<x0) then bif decide (Zaf IntKind.i64 (x0+x1)<x2) then some (true) else some (decide (Zaf IntKind.i64 (x0+x1)>x3)) else some (true) else some (true)
def ZjD (x:Int×Int×Int×Int):Option (Bool):=Znu x.1 x.2.1 x.2.2.1 x.2.2.2
def ZhS (x0:Op) (x1:Int) (x2:Int) (x3:Int):Option (Int×Bool) := bif x0.tag == (2:Int) then some ((Zaf IntKind.i64 (x1+Zaf IntKind.i64 ((0:Int)-x0.v)),true)) else bif x0.tag == (1:Int) then some ((Zaf IntKind.i64 (x1+x0.v),true)) else bif x0.tag == (3:Int) then some ((Zaf IntKind.i64 (↑(BitVec.ofInt IntKind.i64.bits x1 ||| BitVec.ofInt IntKind.i64.bits x0.v).toNat:Int),true)) else bif x0.tag == (4:Int) then some ((Zaf IntKind.i64 (↑(BitVec.ofInt IntKind.i64.bits x1 &&& BitVec.ofInt IntKind.i64.bits x0.v).toNat:Int),true)) else bif x0.tag == (5:Int) then some ((if x1>x0.v then x1 else x0.v,true)) else bif x0.tag == (6:Int) then some ((if x1<x0.v then x1 else x0.v,true)) else bif x0.tag == (7:Int) then some ((x0.v,true)) else bif x0.tag == (9:Int) then bif decide (x0.v<(0:Int)) then some ((x1,false)) else bif decide (x1<x2) then some ((x1,false)) else bif decide (Zaf IntKind.i64 (x1-x0.v)<=x1) then bif decide (Zaf IntKind.i64 (x1-x0.v)>=x2) then some ((Zaf IntKind.i64 (x1-x0.v),true)) else some ((x2,true)) else some ((x2,true)) else bif x0.tag == (8:Int) then match ZjD (x1,x0.v,x2,x3) with
 | some y1 => bif !y1 then some ((Zaf IntKind.i64 (x1+x0.v),true)) else some ((x1,false))
 | none=>none else some ((x1,false))
def ZdV (x:Op×Int×Int×Int):Option (Int×Bool):=ZhS x.1 x.2.1 x.2.2.1 x.2.2.2
def ZgC (x0:Memo) (x1:Int) (x2:Int):Option (Memo×Int×Int) := match ZbG (x0.words,x1) with
 | some y1 => bif y1.snd != (0:Int) then some ((x0,(0:Int),y1.snd)) else match ZbB x0.words with
  | some y2 => bif decide ((0:Int)<=x1) then bif decide (x1<(↑(List.length y2):Int)) then some (({ x0 with words:=List.set y2 x1.toNat x2 },y1)) else none else none
  | none=>none
 | none=>none
def ZlY (x:Memo×Int×Int):Option (Memo×Int×Int):=ZgC x.1 x.2.1 x.2.2
def ZkK (x0:Config) (x1:Int) (x2:Int) (x3:Int):Option (Int) := bif decide (x1<(0:Int)) then some ((-1:Int)) else bif decide (x1>=x0.items) then some ((-1:Int)) else bif decide (x2<(1:Int)) then some ((-1:Int)) else bif decide (x2>=Zaf IntKind.i64 ((1:Int)+x0.layers)) then some ((-1:Int)) else bif decide (x3<(0:Int)) then some ((-1:Int)) else bif decide (x3>=x0.width) then some ((-1:Int)) else match Zcp x0 with
 | some y1 => match Zcp x0 with
  | some y2 => some (Zaf IntKind.i64 (Zaf IntKind.i64 (Zaf IntKind.i64 (Zaf IntKind.i64 (x1*y1.block)+y2.slots)+Zaf IntKind.i64 (Zaf IntKind.i64 (x2-(1:Int))*x0.width))+x3))
  | none=>none
 | none=>none
def Zlf (x:Config×Int×Int×Int):Option (Int):=ZkK x.1 x.2.1 x.2.2.1 x.2.2.2
def ZgI (x0:Tape):Option (Int) := bif decide (x0.at_<(0:Int)) then some ((0:Int)) else some (if Zaf IntKind.i64 ((↑x0.l.length:Int)-x0.at_)>(0:Int) then Zaf IntKind.i64 ((↑x0.l.length:Int)-x0.at_) else (0:Int))
def Zfx (x:Tape):Option (Int):=ZgI x
end Go.Proofs.Mill
