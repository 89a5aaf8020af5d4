/- What the functions compute. -/
import Derived.Test.YtecgogmolkjhjaaGreatMillAll3
set_option linter.all false
noncomputable section
namespace Go.Proofs.Mill
def ZuM (x0:Turn) (x1:Int):Option ((Turn×Int)⊕((Turn)⊕(Bool))) := bif decide (x1<(↑x0.m.boxes.length:Int)) then bif decide (x1<20) then bif decide (0<=x1) then bif decide (x1<(↑x0.m.boxes.length:Int)) then bif decide ((↑(List.length (x0.m.boxes.getD x1.toNat ([]:List Entry))):Int)>20) then some (Sum.inr (Sum.inr true)) else some (Sum.inl (x0,Zaf .i64 (x1+1))) else none else none else some (Sum.inr (Sum.inl x0)) else some (Sum.inr (Sum.inl x0))
def Zkz (x:Turn×Int):Option ((Turn×Int)⊕((Turn)⊕(Bool))):=ZuM x.1 x.2
def Zu1 (x:Turn×Int):Option ((Turn)⊕(Bool)):=Zay Zkz x
def ZxD (x0:Turn):Option Bool := match Zu1 (x0,0) with
 | some (.inl y1) => bif decide ((↑y1.m.words.length:Int)>400) then some (true) else bif decide ((↑y1.m.boxes.length:Int)>16) then some (true) else bif decide ((↑y1.th.batch.length:Int)>20) then some (true) else bif decide ((↑y1.th.kids.length:Int)>20) then some (true) else bif decide ((↑y1.th.held.length:Int)>20) then some (true) else bif decide ((↑y1.tape.l.length:Int)>100) then some (true) else some (decide ((↑y1.log.length:Int)>50))
 | some (.inr y2) => some y2
 | none=>none
def ZnX (x:Turn):Option Bool:=ZxD x
def ZeS (x0:Config):Option Int := bif decide (x0.threads<1) then some (50) else bif decide (x0.threads>16) then some (50) else bif decide (x0.items<1) then some (51) else bif decide (x0.items>4) then some (51) else bif decide (x0.backend<1) then some (52) else bif decide (x0.backend>3) then some (52) else bif decide (x0.depth<0) then some (53) else bif decide (x0.depth>4) then some (53) else bif decide (x0.layers<0) then some (54) else bif decide (x0.layers>3) then some (54) else bif decide (x0.width<1) then some (55) else bif decide (x0.width>8) then some (55) else bif decide (x0.spin<0) then some (56) else bif decide (x0.spin>20) then some (56) else bif decide (x0.wait<0) then some (57) else bif decide (x0.wait>1000) then some (57) else bif x0.bounded then bif decide (x0.lo>x0.init) then some (58) else bif decide (x0.init>x0.hi) then some (58) else some (0) else some (0)
def Zdf (x:Config):Option Int:=ZeS x
def ZiH (x0:Config) (x1:Int) (x2:Int):Option ((Config×Int×Int)⊕((Int))) := bif decide (x2<x0.depth) then some (Sum.inl (x0,Zaf .i64 (2*x1),Zaf .i64 (x2+1))) else some (Sum.inr x1)
def Zfa (x:Config×Int×Int):Option ((Config×Int×Int)⊕((Int))):=ZiH x.1 x.2.1 x.2.2
def Znp (x:Config×Int×Int):Option Int:=Zay Zfa x
def Zk6 (x0:Config):Option Int := match Znp (x0,1,0) with
 | some y1 => some (Zaf .i64 (y1-1))
 | none=>none
def Zdg (x:Config):Option Int:=Zk6 x
def Zk9 (x0:Config):Option Int := match Zdg x0 with
 | some y1 => some (Zaf .i64 (Zaf .i64 (1+y1)+Zaf .i64 (x0.layers*x0.width)))
 | none=>none
def Zb6 (x:Config):Option Int:=Zk9 x
def Zmd (x0:Config):Option Int := match Zb6 x0 with
 | some y1 => some (Zaf .i64 (Zaf .i64 (x0.items*y1)+Zaf .i64 (2*x0.threads)))
 | none=>none
def Zft (x:Config):Option Int:=Zmd x
def Zxz (x0:Turn):Option Bool := match Zdf x0.c with
 | some y1 => bif y1 == 0 then bif decide (x0.t>=0) then bif decide (x0.t<x0.c.threads) then match Zft x0.c with
  | some y2 => bif (↑x0.m.words.length:Int) == y2 then bif (↑x0.m.boxes.length:Int) == x0.c.threads then bif decide (x0.th.item>=0) then some (decide (x0.th.item<x0.c.items)) else some (false) else some (false) else some (false)
  | none=>none else some (false) else some (false) else some (false)
 | none=>none
def ZnO (x:Turn):Option Bool:=Zxz x
def ZjW (x0:List Entry) (x1:List Entry) (x2:Int):Option (((List Entry)×(List Entry)×Int)⊕((Unit)⊕(Bool))) := bif decide (x2<(↑x0.length:Int)) then bif decide (0<=x2) then bif decide (x2<(↑x0.length:Int)) then bif decide (0<=x2) then bif decide (x2<(↑x1.length:Int)) then bif !((x0.getD x2.toNat Zca).t == (x1.getD x2.toNat Zca).t && ((x0.getD x2.toNat Zca).op.tag == (x1.getD x2.toNat Zca).op.tag && ((x0.getD x2.toNat Zca).op.v == (x1.getD x2.toNat Zca).op.v && true) && true)) then some (Sum.inr (Sum.inr false)) else some (Sum.inl (x0,x1,Zaf .i64 (x2+1))) else none else none else none else none else some (Sum.inr (Sum.inl ()))
def ZfE (x:(List Entry)×(List Entry)×Int):Option (((List Entry)×(List Entry)×Int)⊕((Unit)⊕(Bool))):=ZjW x.1 x.2.1 x.2.2
def Zok (x:(List Entry)×(List Entry)×Int):Option ((Unit)⊕(Bool)):=Zay ZfE x
def Zi6 (x0:List Entry) (x1:List Entry):Option Bool := bif (↑x0.length:Int) != (↑x1.length:Int) then some (false) else match Zok (x0,x1,0) with
 | some (.inl y1) => some (true)
 | some (.inr y2) => some y2
 | none=>none
def ZgF (x:(List Entry)×(List Entry)):Option Bool:=Zi6 x.1 x.2
def ZjL (x0:List Int) (x1:List Int) (x2:Int):Option (((List Int)×(List Int)×Int)⊕((Unit)⊕(Bool))) := bif decide (x2<(↑x0.length:Int)) then bif decide (0<=x2) then bif decide (x2<(↑x0.length:Int)) then bif decide (0<=x2) then bif decide (x2<(↑x1.length:Int)) then bif x0.getD x2.toNat 0 != x1.getD x2.toNat 0 then some (Sum.inr (Sum.inr false)) else some (Sum.inl (x0,x1,Zaf .i64 (x2+1))) else none else none else none else none else some (Sum.inr (Sum.inl ()))
def Zfx (x:(List Int)×(List Int)×Int):Option (((List Int)×(List Int)×Int)⊕((Unit)⊕(Bool))):=ZjL x.1 x.2.1 x.2.2
def ZoB (x:(List Int)×(List Int)×Int):Option ((Unit)⊕(Bool)):=Zay Zfx x
def ZmU (x0:List Int) (x1:List Int):Option Bool := bif (↑x0.length:Int) != (↑x1.length:Int) then some (false) else match ZoB (x0,x1,0) with
 | some (.inl y1) => some (true)
 | some (.inr y2) => some y2
 | none=>none
def ZgR (x:(List Int)×(List Int)):Option Bool:=ZmU x.1 x.2
def Zjp (x0:Memo) (x1:Memo) (x2:Int):Option ((Memo×Memo×Int)⊕((Unit)⊕(Bool))) := bif decide (x2<(↑x0.boxes.length:Int)) then bif decide (0<=x2) then bif decide (x2<(↑x0.boxes.length:Int)) then bif decide (0<=x2) then bif decide (x2<(↑x1.boxes.length:Int)) then match ZgF (x0.boxes.getD x2.toNat ([]:List Entry),x1.boxes.getD x2.toNat ([]:List Entry)) with
 | some y1 => bif !y1 then some (Sum.inr (Sum.inr false)) else some (Sum.inl (x0,x1,Zaf .i64 (x2+1)))
 | none=>none else none else none else none else none else some (Sum.inr (Sum.inl ()))
def Zfj (x:Memo×Memo×Int):Option ((Memo×Memo×Int)⊕((Unit)⊕(Bool))):=Zjp x.1 x.2.1 x.2.2
def Zoo (x:Memo×Memo×Int):Option ((Unit)⊕(Bool)):=Zay Zfj x
def ZmG (x0:Memo) (x1:Memo):Option Bool := match ZgR (x0.words,x1.words) with
 | some y1 => bif !y1 then some (false) else bif (↑x0.boxes.length:Int) != (↑x1.boxes.length:Int) then some (false) else match Zoo (x0,x1,0) with
  | some (.inl y2) => some (true)
  | some (.inr y3) => some y3
  | none=>none
 | none=>none
def Zin (x:Memo×Memo):Option Bool:=ZmG x.1 x.2
def ZjK (x0:Thread) (x1:Thread) (x2:Int):Option ((Thread×Thread×Int)⊕((Thread×Thread)⊕(Bool))) := bif decide (x2<(↑x0.kids.length:Int)) then bif decide (0<=x2) then bif decide (x2<(↑x0.kids.length:Int)) then bif decide (0<=x2) then bif decide (x2<(↑x1.kids.length:Int)) then bif !((x0.kids.getD x2.toNat dKid).t == (x1.kids.getD x2.toNat dKid).t && ((x0.kids.getD x2.toNat dKid).ahead == (x1.kids.getD x2.toNat dKid).ahead && true)) then some (Sum.inr (Sum.inr false)) else some (Sum.inl (x0,x1,Zaf .i64 (x2+1))) else none else none else none else none else some (Sum.inr (Sum.inl (x0,x1)))
def ZfG (x:Thread×Thread×Int):Option ((Thread×Thread×Int)⊕((Thread×Thread)⊕(Bool))):=ZjK x.1 x.2.1 x.2.2
def Zou (x:Thread×Thread×Int):Option ((Thread×Thread)⊕(Bool)):=Zay ZfG x
def Zm9 (x0:Thread) (x1:Thread):Option Bool := match ZgF (x0.batch,x1.batch) with
 | some y1 => bif !y1 then some (false) else match ZgR (x0.held,x1.held) with
  | some y2 => bif !y2 then some (false) else bif (↑x0.kids.length:Int) != (↑x1.kids.length:Int) then some (false) else match Zou (x0,x1,0) with
   | some (.inl y3) => bif y3.fst.phase == y3.snd.phase then bif y3.fst.item == y3.snd.item then bif y3.fst.op.tag == y3.snd.op.tag && (y3.fst.op.v == y3.snd.op.v && true) then bif y3.fst.stop == y3.snd.stop then bif y3.fst.node == y3.snd.node then bif y3.fst.at_ == y3.snd.at_ then bif y3.fst.layer == y3.snd.layer then bif y3.fst.left == y3.snd.left then bif y3.fst.width == y3.snd.width then bif y3.fst.who == y3.snd.who then bif y3.fst.x == y3.snd.x then bif y3.fst.y == y3.snd.y then some (y3.fst.until_ == y3.snd.until_) else some (false) else some (false) else some (false) else some (false) else some (false) else some (false) else some (false) else some (false) else some (false) else some (false) else some (false) else some (false)
   | some (.inr y4) => some y4
   | none=>none
  | none=>none
 | none=>none
def ZiE (x:Thread×Thread):Option Bool:=Zm9 x.1 x.2
def Zjt (x0:Tape) (x1:Tape) (x2:Int):Option ((Tape×Tape×Int)⊕((Unit)⊕(Bool))) := bif decide (x2<(↑x0.l.length:Int)) then bif decide (0<=x2) then bif decide (x2<(↑x0.l.length:Int)) then bif decide (0<=x2) then bif decide (x2<(↑x1.l.length:Int)) then bif x0.l.getD x2.toNat 0 != x1.l.getD x2.toNat 0 then some (Sum.inr (Sum.inr false)) else some (Sum.inl (x0,x1,Zaf .i64 (x2+1))) else none else none else none else none else some (Sum.inr (Sum.inl ()))
def Zfm (x:Tape×Tape×Int):Option ((Tape×Tape×Int)⊕((Unit)⊕(Bool))):=Zjt x.1 x.2.1 x.2.2
def ZoD (x:Tape×Tape×Int):Option ((Unit)⊕(Bool)):=Zay Zfm x
def Zmj (x0:Tape) (x1:Tape):Option Bool := bif x0.at_ != x1.at_ then some (false) else bif (↑x0.l.length:Int) != (↑x1.l.length:Int) then some (false) else match ZoD (x0,x1,0) with
 | some (.inl y1) => some (true)
 | some (.inr y2) => some y2
 | none=>none
def ZiD (x:Tape×Tape):Option Bool:=Zmj x.1 x.2
def ZiN (x0:List Mark) (x1:List Mark) (x2:Int):Option (((List Mark)×(List Mark)×Int)⊕((Unit)⊕(Bool))) := bif decide (x2<(↑x0.length:Int)) then bif decide (0<=x2) then bif decide (x2<(↑x0.length:Int)) then bif decide (0<=x2) then bif decide (x2<(↑x1.length:Int)) then bif !((x0.getD x2.toNat Za6).t == (x1.getD x2.toNat Za6).t && ((x0.getD x2.toNat Za6).item == (x1.getD x2.toNat Za6).item && ((x0.getD x2.toNat Za6).op.tag == (x1.getD x2.toNat Za6).op.tag && ((x0.getD x2.toNat Za6).op.v == (x1.getD x2.toNat Za6).op.v && true) && ((x0.getD x2.toNat Za6).prior == (x1.getD x2.toNat Za6).prior && ((x0.getD x2.toNat Za6).step == (x1.getD x2.toNat Za6).step && true))))) then some (Sum.inr (Sum.inr false)) else some (Sum.inl (x0,x1,Zaf .i64 (x2+1))) else none else none else none else none else some (Sum.inr (Sum.inl ()))
def Ze4 (x:(List Mark)×(List Mark)×Int):Option (((List Mark)×(List Mark)×Int)⊕((Unit)⊕(Bool))):=ZiN x.1 x.2.1 x.2.2
def ZnD (x:(List Mark)×(List Mark)×Int):Option ((Unit)⊕(Bool)):=Zay Ze4 x
def Zk3 (x0:List Mark) (x1:List Mark):Option Bool := bif (↑x0.length:Int) != (↑x1.length:Int) then some (false) else match ZnD (x0,x1,0) with
 | some (.inl y1) => some (true)
 | some (.inr y2) => some y2
 | none=>none
def ZhV (x:(List Mark)×(List Mark)):Option Bool:=Zk3 x.1 x.2
def ZuE (x0:Turn) (x1:Turn):Option Bool := bif x0.c.threads == x1.c.threads && (x0.c.items == x1.c.items && (x0.c.backend == x1.c.backend && (x0.c.depth == x1.c.depth && (x0.c.layers == x1.c.layers && (x0.c.width == x1.c.width && (x0.c.spin == x1.c.spin && (x0.c.wait == x1.c.wait && (x0.c.bounded == x1.c.bounded && (x0.c.lo == x1.c.lo && (x0.c.hi == x1.c.hi && (x0.c.init == x1.c.init && true))))))))))) then bif x0.t == x1.t then bif x0.now == x1.now then match Zin (x0.m,x1.m) with
 | some y1 => bif y1 then match ZiE (x0.th,x1.th) with
  | some y2 => bif y2 then match ZiD (x0.tape,x1.tape) with
   | some y3 => bif y3 then match ZhV (x0.log,x1.log) with
    | some y4 => bif y4 then some (x0.done == x1.done) else some (false)
    | none=>none else some (false)
   | none=>none else some (false)
  | none=>none else some (false)
 | none=>none else some (false) else some (false) else some (false)
def ZkY (x:Turn×Turn):Option Bool:=ZuE x.1 x.2
def Zrf (x0:List Entry) (x1:List Entry) (x2:Int):Option (((List Entry)×(List Entry)×Int)⊕(((List Entry)))) := bif decide (x2<(↑x0.length:Int)) then bif decide (0<=x2) then bif decide (x2<(↑x0.length:Int)) then bif decide (0<=x2) then bif decide (x2<(↑x0.length:Int)) then bif fewB (x1.length+(x0.getD x2.toNat Zca::[]).length) then some (Sum.inl (x0,x1++x0.getD x2.toNat Zca::[],Zaf .i64 (x2+1))) else none else none else none else none else none else some (Sum.inr x1)
def Zhf (x:(List Entry)×(List Entry)×Int):Option (((List Entry)×(List Entry)×Int)⊕(((List Entry)))):=Zrf x.1 x.2.1 x.2.2
def Zrd (x:(List Entry)×(List Entry)×Int):Option (((List Entry))):=Zay Zhf x
def ZsT (x0:List Entry):Option (List Entry) := match Zrd (x0,([]:List Entry),0) with
 | some y1 => some y1
 | none=>none
def Zja (x:(List Entry)):Option (List Entry):=ZsT x
def ZrF (x0:Memo) (x1:Memo) (x2:Memo) (x3:Int):Option ((Memo×Memo×Memo×Int)⊕((Memo×Memo))) := bif decide (x3<(↑x0.boxes.length:Int)) then bif decide (0<=x3) then bif decide (x3<(↑x0.boxes.length:Int)) then match Zja (x0.boxes.getD x3.toNat ([]:List Entry)) with
 | some y1 => bif fewB (x2.boxes.length+(y1::[]).length) then some (Sum.inl (x0,x1,{ x2 with boxes:=x2.boxes++y1::[] },Zaf .i64 (x3+1))) else none
 | none=>none else none else none else some (Sum.inr (x1,x2))
def Zh1 (x:Memo×Memo×Memo×Int):Option ((Memo×Memo×Memo×Int)⊕((Memo×Memo))):=ZrF x.1 x.2.1 x.2.2.1 x.2.2.2
def ZrG (x:Memo×Memo×Memo×Int):Option (Memo×Memo):=Zay Zh1 x
def ZtF (x0:Memo):Option Memo := match ZrG (x0,Memo.mk ([]:List Int) ([]:List (List Entry)),{ x0 with boxes:=([]:List (List Entry)) },0) with
 | some y1 => some (y1.snd)
 | none=>none
def ZoH (x:Memo):Option Memo:=ZtF x
def Zte (x0:Thread) (x1:Thread) (x2:Thread) (x3:Int):Option ((Thread×Thread×Thread×Int)⊕((Thread×Thread))) := bif decide (x3<(↑x0.kids.length:Int)) then bif decide (0<=x3) then bif decide (x3<(↑x0.kids.length:Int)) then bif fewB (x2.kids.length+(x0.kids.getD x3.toNat dKid::[]).length) then some (Sum.inl (x0,x1,{ x2 with kids:=x2.kids++x0.kids.getD x3.toNat dKid::[] },Zaf .i64 (x3+1))) else none else none else none else some (Sum.inr (x1,x2))
def Zil (x:Thread×Thread×Thread×Int):Option ((Thread×Thread×Thread×Int)⊕((Thread×Thread))):=Zte x.1 x.2.1 x.2.2.1 x.2.2.2
def ZsH (x:Thread×Thread×Thread×Int):Option (Thread×Thread):=Zay Zil x
def ZuQ (x0:Thread):Option Thread := match Zja x0.batch with
 | some y1 => match ZsH (x0,Thread.mk 0 0 (Op.mk 0 0) ([]:List Entry) ([]:List Kid) ([]:List Int) 0 0 0 0 0 0 0 0 0 0,{ x0 with batch:=y1,kids:=([]:List Kid) },0) with
  | some y2 => some (y2.snd)
  | none=>none
 | none=>none
def Zpz (x:Thread):Option Thread:=ZuQ x
def Zsx (x0:List Mark) (x1:List Mark) (x2:Int):Option (((List Mark)×(List Mark)×Int)⊕(((List Mark)))) := bif decide (x2<(↑x0.length:Int)) then bif decide (0<=x2) then bif decide (x2<(↑x0.length:Int)) then bif decide (0<=x2) then bif decide (x2<(↑x0.length:Int)) then bif decide (0<=x2) then bif decide (x2<(↑x0.length:Int)) then bif decide (0<=x2) then bif decide (x2<(↑x0.length:Int)) then bif decide (0<=x2) then bif decide (x2<(↑x0.length:Int)) then bif fewB (x1.length+(x0.getD x2.toNat Za6::[]).length) then some (Sum.inl (x0,x1++x0.getD x2.toNat Za6::[],Zaf .i64 (x2+1))) else none else none else none else none else none else none else none else none else none else none else none else some (Sum.inr x1)
def Ziv (x:(List Mark)×(List Mark)×Int):Option (((List Mark)×(List Mark)×Int)⊕(((List Mark)))):=Zsx x.1 x.2.1 x.2.2
def ZsP (x:(List Mark)×(List Mark)×Int):Option (((List Mark))):=Zay Ziv x
def ZuI (x0:List Mark):Option (List Mark) := match ZsP (x0,([]:List Mark),0) with
 | some y1 => some y1
 | none=>none
def Zpw (x:(List Mark)):Option (List Mark):=ZuI x
def Zxd (x0:Turn):Option Turn := match ZoH x0.m with
 | some y1 => match Zpz x0.th with
  | some y2 => match Zpw x0.log with
   | some y3 => some ({ x0 with m:=y1,th:=y2,log:=y3 })
   | none=>none
  | none=>none
 | none=>none
def ZhG (x:Turn):Option Turn:=Zxd x
def ZhB (x0:Int) (x1:Int):Option (Int×Bool) :=
 some ((Zaf .i64 (x0+x1),decide (x1>=0) == decide (Zaf .i64 (x0+x1)>=x0)))
def Zf8 (x:Int×Int):Option (Int×Bool):=ZhB x.1 x.2
def ZcU (x0:Op) (x1:Int) (x2:Int) (x3:Int):Option (Int×Bool) := bif x0.tag == 1 then some ((Zaf .i64 (x1+x0.v),true)) else bif x0.tag == 2 then some ((Zaf .i64 (x1-x0.v),true)) else bif x0.tag == 3 then some ((Zaf .i64 (↑(BitVec.ofInt IntKind.i64.bits x1 ||| BitVec.ofInt IntKind.i64.bits x0.v).toNat:Int),true)) else bif x0.tag == 4 then some ((Zaf .i64 (↑(BitVec.ofInt IntKind.i64.bits x1 &&& BitVec.ofInt IntKind.i64.bits x0.v).toNat:Int),true)) else bif x0.tag == 5 then some ((if x0.v>x1 then x0.v else x1,true)) else bif x0.tag == 6 then some ((if x0.v<x1 then x0.v else x1,true)) else bif x0.tag == 7 then some ((x0.v,true)) else bif x0.tag == 8 then match Zf8 (x1,x0.v) with
 | some y1 => bif !y1.snd then some ((x1,false)) else bif decide (y1.fst<x2) then some ((x1,false)) else bif decide (y1.fst>x3) then some ((x1,false)) else some ((y1.fst,true))
 | none=>none else bif x0.tag == 9 then bif decide (x0.v<0) then some ((x1,false)) else bif decide (x1<x2) then some ((x1,false)) else bif decide (IntKind.u64.wrap x0.v>=Zaf IntKind.u64 (IntKind.u64.wrap x1-IntKind.u64.wrap x2)) then some ((x2,true)) else some ((Zaf .i64 (x1-x0.v),true)) else some ((x1,false))
def ZcH (x:Op×Int×Int×Int):Option (Int×Bool):=ZcU x.1 x.2.1 x.2.2.1 x.2.2.2
def ZnK (x0:Int):Option (List Int) := bif decide (x0<1) then some (([]:List Int)) else bif decide (x0>10000) then some (([]:List Int)) else bif x0 == x0 then bif decide (0<=x0) then bif decide (x0<=ZbI) then some (List.replicate x0.toNat 0) else none else none else none
def Ziq (x:Int):Option (List Int):=ZnK x
def ZgA (x0:Int):Option ((List (List Entry))) := bif decide (x0<1) then some (([]:List (List Entry))) else bif decide (x0>10000) then some (([]:List (List Entry))) else bif x0 == x0 then bif decide (0<=x0) then bif decide (x0<=ZbI) then some (List.replicate x0.toNat ([]:List Entry)) else none else none else none
def ZeJ (x:Int):Option ((List (List Entry))):=ZgA x
def Zpq (x0:Int) (x1:Int):Option Memo := match Ziq x0 with
 | some y1 => match ZeJ x1 with
  | some y2 => some (Memo.mk y1 y2)
  | none=>none
 | none=>none
def Zpk (x:Int×Int):Option Memo:=Zpq x.1 x.2
def Zlc (x0:Config):Option Int := bif decide (x0.depth<0) then none else some (Zaf .i64 (Zaf .i64 (1*2 ^ min x0.depth.toNat IntKind.i64.bits)-1))
def Zf5 (x:Config):Option Int:=Zlc x
def ZoX (x0:Config):Option Plan := match Zf5 x0 with
 | some y1 => some (Plan.mk 1 (Zaf .i64 (1+y1)) (Zaf .i64 (Zaf .i64 (1+y1)+Zaf .i64 (x0.layers*x0.width))) (Zaf .i64 (x0.items*Zaf .i64 (Zaf .i64 (1+y1)+Zaf .i64 (x0.layers*x0.width)))))
 | none=>none
def ZcA (x:Config):Option Plan:=ZoX x
def Zne (x0:Config):Option Int := match ZcA x0 with
 | some y1 => some (Zaf .i64 (y1.lines+Zaf .i64 (2*x0.threads)))
 | none=>none
def ZmD (x:Config):Option Int:=Zne x
def ZiO (x0:Config) (x1:Int):Option Int := bif decide (x1<0) then some ((-1:Int)) else bif decide (x1>=x0.items) then some ((-1:Int)) else match ZcA x0 with
 | some y1 => some (Zaf .i64 (x1*y1.block))
 | none=>none
def ZdJ (x:Config×Int):Option Int:=ZiO x.1 x.2
def ZeZ (x0:Config) (x1:Memo) (x2:Memo) (x3:Int) (x4:Int):Option ((Config×Memo×Memo×Int×Int)⊕((Memo×Memo))) := bif decide (x4<x3) then match ZdJ (x0,x4) with
 | some y1 => bif decide (0<=y1) then bif decide (y1<(↑x2.words.length:Int)) then some (Sum.inl (x0,x1,{ x2 with words:=x2.words.set (Int.toNat y1) x0.init },x3,Zaf .i64 (x4+1))) else none else none
 | none=>none else some (Sum.inr (x1,x2))
def Zgh (x:Config×Memo×Memo×Int×Int):Option ((Config×Memo×Memo×Int×Int)⊕((Memo×Memo))):=ZeZ x.1 x.2.1 x.2.2.1 x.2.2.2.1 x.2.2.2.2
def ZnL (x:Config×Memo×Memo×Int×Int):Option (Memo×Memo):=Zay Zgh x
def ZkS (x0:Config):Option Memo := match ZmD x0 with
 | some y1 => match Zpk (y1,x0.threads) with
  | some y2 => match ZnL (x0,Memo.mk ([]:List Int) ([]:List (List Entry)),y2,x0.items,0) with
   | some y3 => some (y3.snd)
   | none=>none
  | none=>none
 | none=>none
def ZdY (x:Config):Option Memo:=ZkS x
def ZeA (x0:Int) (x1:Int):Option Int := bif decide (x0<1) then some (0) else bif decide (Zaf .i64 (x0-1)<0) then none else some (Zaf .i64 (↑(BitVec.ofInt IntKind.i64.bits (Zaf .i64 (1*2 ^ min (Zaf .i64 (x0-1)).toNat IntKind.i64.bits)) ||| BitVec.ofInt IntKind.i64.bits (Zaf .i64 (↑(BitVec.ofInt IntKind.i64.bits (x1.fdiv (2 ^ min (Int.toNat 1) IntKind.i64.bits)) &&& BitVec.ofInt IntKind.i64.bits (Zaf .i64 (Zaf .i64 (1*2 ^ min (Zaf .i64 (x0-1)).toNat IntKind.i64.bits)-1))).toNat:Int))).toNat:Int))
def Znd (x:Int×Int):Option Int:=ZeA x.1 x.2
def Zjs (x0:Config) (x1:Int) (x2:Thread) (x3:Int) (x4:Op) (x5:Int):Option Thread := match Znd (x0.depth,x1) with
 | some y1 => bif decide (x0.wait>0) then some (Thread.mk 1 x3 x4 (Entry.mk x1 x4::[]) ([]:List Kid) ([]:List Int) 0 y1 0 0 0 x2.width 0 0 0 (Zaf .i64 (x5+x0.wait))) else some (Thread.mk 1 x3 x4 (Entry.mk x1 x4::[]) ([]:List Kid) ([]:List Int) 0 y1 0 0 0 x2.width 0 0 0 0)
 | none=>none
def Zc2 (x:Config×Int×Thread×Int×Op×Int):Option Thread:=Zjs x.1 x.2.1 x.2.2.1 x.2.2.2.1 x.2.2.2.2.1 x.2.2.2.2.2
def Zwn:Option Thread :=
 some (Thread.mk 0 0 (Op.mk 0 0) ([]:List Entry) ([]:List Kid) ([]:List Int) 0 0 0 0 0 1 0 0 0 0)
def Zet (x:Unit):Option Thread:=Zwn
def ZsR (x0:Turn):Option Bool := match ZnO x0 with
 | some y1 => bif y1 then bif decide (x0.th.phase<17) then some (true) else bif decide (x0.th.layer>=1) then some (decide (x0.th.layer<=3)) else some (false) else some (false)
 | none=>none
def ZnI (x:Turn):Option Bool:=ZsR x
def ZnR (x0:Op) (x1:Bool):Option Bool := bif x1 then bif x0.tag == 8 then some (true) else bif x0.tag == 9 then some (decide (x0.v>=0)) else some (false) else bif decide (x0.tag>=1) then some (decide (x0.tag<=7)) else some (false)
def Zkc (x:Op×Bool):Option Bool:=ZnR x.1 x.2
def Ztu (x0:Config):Option Int :=
 some (Zaf .i64 (Zaf .i64 (20+Zaf .i64 (8*x0.depth))+Zaf .i64 (x0.layers*Zaf .i64 (20+Zaf .i64 (2*x0.spin)))))
def Zoz (x:Config):Option Int:=Ztu x
def Zf6 (x0:Thread):Option Bool :=
 some (x0.phase != 0)
def ZbO (x:Thread):Option Bool:=Zf6 x
def Zje (x0:Config) (x1:Int):Option Int := bif decide (x1<0) then some ((-1:Int)) else bif decide (x1>=x0.items) then some ((-1:Int)) else match Zb6 x0 with
 | some y1 => some (Zaf .i64 (x1*y1))
 | none=>none
def ZdD (x:Config×Int):Option Int:=Zje x.1 x.2
def Zm2 (x0:Config) (x1:Int) (x2:Int):Option Int := bif decide (x1<0) then some ((-1:Int)) else bif decide (x1>=x0.items) then some ((-1:Int)) else bif decide (x2<1) then some ((-1:Int)) else match Zdg x0 with
 | some y1 => bif decide (x2>y1) then some ((-1:Int)) else match Zb6 x0 with
  | some y2 => some (Zaf .i64 (Zaf .i64 (x1*y2)+x2))
  | none=>none
 | none=>none
def ZdM (x:Config×Int×Int):Option Int:=Zm2 x.1 x.2.1 x.2.2
def Zl4 (x0:Config) (x1:Int):Option Int := bif decide (x1<0) then some ((-1:Int)) else bif decide (x1>=x0.threads) then some ((-1:Int)) else match Zb6 x0 with
 | some y1 => some (Zaf .i64 (Zaf .i64 (x0.items*y1)+Zaf .i64 (2*x1)))
 | none=>none
def Zck (x:Config×Int):Option Int:=Zl4 x.1 x.2
def Zvn (x0:List SEntry) (x1:List Int):Option Bool := bif decide ((↑x0.length:Int)>400) then some (true) else some (decide ((↑x1.length:Int)>200))
def Zwu (x:(List SEntry)×(List Int)):Option Bool:=Zvn x.1 x.2
def ZfU (x0:Int) (x1:Memo) (x2:Memo) (x3:Int):Option ((Int×Memo×Memo×Int)⊕((Memo×Memo))) := bif decide (x3<x0) then bif decide (x0<=10000) then bif fewB (x2.boxes.length+(([]:List Entry)::[]).length) then some (Sum.inl (x0,x1,{ x2 with boxes:=x2.boxes++([]:List Entry)::[] },Zaf .i64 (x3+1))) else none else some (Sum.inr (x1,x2)) else some (Sum.inr (x1,x2))
def ZhJ (x:Int×Memo×Memo×Int):Option ((Int×Memo×Memo×Int)⊕((Memo×Memo))):=ZfU x.1 x.2.1 x.2.2.1 x.2.2.2
def ZpN (x:Int×Memo×Memo×Int):Option (Memo×Memo):=Zay ZhJ x
def ZfV (x0:Int) (x1:Int) (x2:Memo) (x3:Memo) (x4:Int):Option ((Int×Int×Memo×Memo×Int)⊕((Int×Memo×Memo))) := bif decide (x4<x0) then bif decide (x0<=10000) then bif fewB (x3.words.length+(0::[]).length) then some (Sum.inl (x0,x1,x2,{ x3 with words:=x3.words++0::[] },Zaf .i64 (x4+1))) else none else some (Sum.inr (x1,x2,x3)) else some (Sum.inr (x1,x2,x3))
def ZhI (x:Int×Int×Memo×Memo×Int):Option ((Int×Int×Memo×Memo×Int)⊕((Int×Memo×Memo))):=ZfV x.1 x.2.1 x.2.2.1 x.2.2.2.1 x.2.2.2.2
def ZpC (x:Int×Int×Memo×Memo×Int):Option (Int×Memo×Memo):=Zay ZhI x
def ZnQ (x0:Int) (x1:Int):Option Memo := match ZpC (x0,x1,Memo.mk ([]:List Int) ([]:List (List Entry)),Memo.mk ([]:List Int) ([]:List (List Entry)),0) with
 | some y1 => match ZpN (y1.fst,y1.snd.fst,y1.snd.snd,0) with
  | some y2 => some (y2.snd)
  | none=>none
 | none=>none
def ZnZ (x:Int×Int):Option Memo:=ZnQ x.1 x.2
def ZfY (x0:Memo) (x1:Int) (x2:Int):Option (Memo×Int) := bif decide (x1<0) then some ((x0,30)) else bif decide (x1>=(↑x0.words.length:Int)) then some ((x0,30)) else bif fewB ((0:Nat)+x0.words.length) then bif decide (0<=x1) then bif decide (x1<(↑x0.words.length:Int)) then some (({ x0 with words:=x0.words.set x1.toNat x2 },0)) else none else none else none
def Zbn (x:Memo×Int×Int):Option (Memo×Int):=ZfY x.1 x.2.1 x.2.2
def Zfe (x0:Config) (x1:Memo) (x2:Memo) (x3:Int):Option ((Config×Memo×Memo×Int)⊕((Memo×Memo))) := bif decide (x3<x0.items) then match ZdD (x0,x3) with
 | some y1 => match Zbn (x2,y1,x0.init) with
  | some y2 => some (Sum.inl (x0,x1,y2.fst,Zaf .i64 (x3+1)))
  | none=>none
 | none=>none else some (Sum.inr (x1,x2))
def Zgm (x:Config×Memo×Memo×Int):Option ((Config×Memo×Memo×Int)⊕((Memo×Memo))):=Zfe x.1 x.2.1 x.2.2.1 x.2.2.2
def ZnC (x:Config×Memo×Memo×Int):Option (Memo×Memo):=Zay Zgm x
def Zld (x0:Config):Option Memo := match Zft x0 with
 | some y1 => match ZnZ (y1,x0.threads) with
  | some y2 => match ZnC (x0,Memo.mk ([]:List Int) ([]:List (List Entry)),y2,0) with
   | some y3 => some (y3.snd)
   | none=>none
  | none=>none
 | none=>none
def Zk1 (x:Config):Option Memo:=Zld x
def Zrq:Option Thread :=
 some (Thread.mk 0 0 (Op.mk 0 0) ([]:List Entry) ([]:List Kid) ([]:List Int) 0 0 0 0 0 1 0 0 0 0)
def ZnP (x:Unit):Option Thread:=Zrq
def Zf1 (x0:Config) (x1:Wld) (x2:Wld) (x3:Int):Option ((Config×Wld×Wld×Int)⊕((Wld×Wld))) := bif decide (x3<x0.threads) then match ZnP () with
 | some y1 => bif fewB (x2.t.length+(y1::[]).length) then some (Sum.inl (x0,x1,{ x2 with t:=x2.t++y1::[] },Zaf .i64 (x3+1))) else none
 | none=>none else some (Sum.inr (x1,x2))
def ZhS (x:Config×Wld×Wld×Int):Option ((Config×Wld×Wld×Int)⊕((Wld×Wld))):=Zf1 x.1 x.2.1 x.2.2.1 x.2.2.2
def ZpD (x:Config×Wld×Wld×Int):Option (Wld×Wld):=Zay ZhS x
def Zhq (x0:Config) (x1:List Int):Option (Wld×Int) := match Zdf x0 with
 | some y1 => bif y1 != 0 then some ((Wld.mk (Config.mk 0 0 0 0 0 0 0 0 false 0 0 0) (Memo.mk ([]:List Int) ([]:List (List Entry))) ([]:List Thread) 0 0 (Tape.mk ([]:List Int) 0) ([]:List Mark) ([]:List Event),y1)) else match Zk1 x0 with
  | some y2 => bif fewB ((0:Nat)+x1.length) then match ZpD (x0,Wld.mk (Config.mk 0 0 0 0 0 0 0 0 false 0 0 0) (Memo.mk ([]:List Int) ([]:List (List Entry))) ([]:List Thread) 0 0 (Tape.mk ([]:List Int) 0) ([]:List Mark) ([]:List Event),Wld.mk x0 y2 ([]:List Thread) 0 0 (Tape.mk x1 0) ([]:List Mark) ([]:List Event),0) with
   | some y3 => some ((y3.snd,0))
   | none=>none else none
  | none=>none
 | none=>none
def Zhn (x:Config×(List Int)):Option (Wld×Int):=Zhq x.1 x.2
def Zla (x0:Config) (x1:SEntry):Option Int := bif decide (x1.kind<1) then some (90) else bif decide (x1.kind>3) then some (90) else bif x1.kind == 3 then some (0) else bif decide (x1.t<0) then some (91) else bif decide (x1.t>=x0.threads) then some (91) else bif x1.kind == 2 then some (0) else bif decide (x1.item<0) then some (92) else bif decide (x1.item>=x0.items) then some (92) else match Zkc (x1.op,x0.bounded) with
 | some y1 => bif !y1 then some (93) else some (0)
 | none=>none
def ZhH (x:Config×SEntry):Option Int:=Zla x.1 x.2
def Zp2 (x0:Thread):Option Bool :=
 some (x0.phase != 0)
def ZgB (x:Thread):Option Bool:=Zp2 x
def Zmn (x0:Wld) (x1:Event):Option Wld := bif fewB ((0:Nat)+x0.hist.length) then bif fewB (x0.hist.length+({ x1 with step:=x0.steps }::[]).length) then some ({ x0 with hist:=x0.hist++{ x1 with step:=x0.steps }::[] }) else none else none
def Zgs (x:Wld×Event):Option Wld:=Zmn x.1 x.2
def ZjX (x0:Wld) (x1:Int) (x2:Thread):Option Wld := bif fewB ((0:Nat)+x0.t.length) then bif decide (0<=x1) then bif decide (x1<(↑x0.t.length:Int)) then some ({ x0 with t:=x0.t.set x1.toNat x2 }) else none else none else none
def Zg6 (x:Wld×Int×Thread):Option Wld:=ZjX x.1 x.2.1 x.2.2
def ZtH (x0:Int) (x1:Int) (x2:Int) (x3:Int):Option ((Int×Int×Int×Int)⊕((Int×Int))) := bif decide (x3<x0) then some (Sum.inl (x0,x1,Zaf .i64 (2*x2),Zaf .i64 (x3+1))) else some (Sum.inr (x1,x2))
def Zjo (x:Int×Int×Int×Int):Option ((Int×Int×Int×Int)⊕((Int×Int))):=ZtH x.1 x.2.1 x.2.2.1 x.2.2.2
def ZtO (x:Int×Int×Int×Int):Option (Int×Int):=Zay Zjo x
def Zm5 (x0:Int) (x1:Int):Option Int := bif decide (x0<1) then some (0) else match ZtO (x0,x1,1,1) with
 | some y1 => bif decide (y1.snd=0) then none else some (Zaf .i64 (y1.snd+(Zaf .i64 (Int.tdiv y1.fst 2)).tmod y1.snd))
 | none=>none
def Zl8 (x:Int×Int):Option Int:=Zm5 x.1 x.2
def ZkQ (x0:Config) (x1:Int) (x2:Thread) (x3:Int) (x4:Op) (x5:Int):Option Thread := match Zl8 (x0.depth,x1) with
 | some y1 => bif decide (x0.wait>0) then some (Thread.mk 1 x3 x4 (Entry.mk x1 x4::[]) ([]:List Kid) ([]:List Int) 0 y1 0 0 0 x2.width 0 0 0 (Zaf .i64 (x5+x0.wait))) else some (Thread.mk 1 x3 x4 (Entry.mk x1 x4::[]) ([]:List Kid) ([]:List Int) 0 y1 0 0 0 x2.width 0 0 0 0)
 | none=>none
def Zk0 (x:Config×Int×Thread×Int×Op×Int):Option Thread:=ZkQ x.1 x.2.1 x.2.2.1 x.2.2.2.1 x.2.2.2.2.1 x.2.2.2.2.2
def ZkE (x0:Turn):Option Turn := bif x0.c.backend == 2 then bif decide (x0.c.depth>0) then bif x0.c.backend == 3 then bif decide (x0.c.layers>0) then some ({ x0 with th:={ x0.th with phase:=17,layer:=1 } }) else some ({ x0 with th:={ x0.th with phase:=4 } }) else some ({ x0 with th:={ x0.th with phase:=4 } }) else bif x0.c.backend == 3 then bif decide (x0.c.layers>0) then some ({ x0 with th:={ x0.th with phase:=17,layer:=1 } }) else some ({ x0 with th:={ x0.th with phase:=2 } }) else some ({ x0 with th:={ x0.th with phase:=2 } }) else bif x0.c.backend == 3 then bif decide (x0.c.layers>0) then some ({ x0 with th:={ x0.th with phase:=17,layer:=1 } }) else some ({ x0 with th:={ x0.th with phase:=2 } }) else some ({ x0 with th:={ x0.th with phase:=2 } })
def ZkG (x:Turn):Option Turn:=ZkE x
def ZgG (x0:Memo) (x1:Int):Option (Int×Int) := bif decide (x1<0) then some ((0,30)) else bif decide (x1>=(↑x0.words.length:Int)) then some ((0,30)) else bif decide (0<=x1) then bif decide (x1<(↑x0.words.length:Int)) then some ((x0.words.getD x1.toNat 0,0)) else none else none
def Zbq (x:Memo×Int):Option (Int×Int):=ZgG x.1 x.2
def Zmy:Option Int :=
 some (5)
def ZeE (x:Unit):Option Int:=Zmy
def Zj5 (x0:Config) (x1:Int):Option Int := bif decide (x1<0) then some ((-1:Int)) else bif decide (x1>=x0.threads) then some ((-1:Int)) else match Zb6 x0 with
 | some y1 => some (Zaf .i64 (Zaf .i64 (Zaf .i64 (x0.items*y1)+Zaf .i64 (2*x1))+1))
 | none=>none
def Zfu (x:Config×Int):Option Int:=Zj5 x.1 x.2
def Zju (x0:Turn):Option Turn := bif decide (x0.th.at_>=0) then bif decide (x0.th.at_<(↑x0.th.kids.length:Int)) then some ({ x0 with th:={ x0.th with phase:=15 } }) else some ({ x0 with th:={ x0.th with phase:=0 },done:=true }) else some ({ x0 with th:={ x0.th with phase:=0 },done:=true })
def Zdr (x:Turn):Option Turn:=Zju x
def Zf2 (x0:List Entry) (x1:Int) (x2:Int) (x3:Int) (x4:Int):Option (((List Entry)×Int×Int×Int×Int)⊕((Int))) := bif decide (x4<(↑x0.length:Int)) then bif decide (0<=x4) then bif decide (x4<(↑x0.length:Int)) then match ZcH ((x0.getD x4.toNat Zca).op,x1,x2,x3) with
 | some y1 => some (Sum.inl (x0,y1.fst,x2,x3,Zaf .i64 (x4+1)))
 | none=>none else none else none else some (Sum.inr x1)
def ZhM (x:(List Entry)×Int×Int×Int×Int):Option (((List Entry)×Int×Int×Int×Int)⊕((Int))):=Zf2 x.1 x.2.1 x.2.2.1 x.2.2.2.1 x.2.2.2.2
def Zk4 (x:(List Entry)×Int×Int×Int×Int):Option Int:=Zay ZhM x
def Zn7 (x0:List Entry) (x1:Int) (x2:Int) (x3:Int):Option Int := match Zk4 (x0,x1,x2,x3,0) with
 | some y1 => some y1
 | none=>none
def Zei (x:(List Entry)×Int×Int×Int):Option Int:=Zn7 x.1 x.2.1 x.2.2.1 x.2.2.2
def Zjz (x0:List Entry) (x1:Int) (x2:List Entry) (x3:Int):Option (((List Entry)×Int×(List Entry)×Int)⊕(((List Entry)))) := bif decide (x3<(↑x0.length:Int)) then bif decide (x3<x1) then bif decide (0<=x3) then bif decide (x3<(↑x0.length:Int)) then bif fewB (x2.length+(x0.getD x3.toNat Zca::[]).length) then some (Sum.inl (x0,x1,x2++x0.getD x3.toNat Zca::[],Zaf .i64 (x3+1))) else none else none else none else some (Sum.inr x2) else some (Sum.inr x2)
def Zfs (x:(List Entry)×Int×(List Entry)×Int):Option (((List Entry)×Int×(List Entry)×Int)⊕(((List Entry)))):=Zjz x.1 x.2.1 x.2.2.1 x.2.2.2
def Zov (x:(List Entry)×Int×(List Entry)×Int):Option (((List Entry))):=Zay Zfs x
def Zmc (x0:List Entry) (x1:Int):Option (List Entry) := match Zov (x0,x1,([]:List Entry),0) with
 | some y1 => some y1
 | none=>none
def Zgu (x:(List Entry)×Int):Option (List Entry):=Zmc x.1 x.2
def ZmT (x0:Turn):Option Turn := bif decide (0<=x0.th.at_) then bif decide (x0.th.at_<(↑x0.th.kids.length:Int)) then bif x0.th.phase == 15 then match Zfu (x0.c,(x0.th.kids.getD x0.th.at_.toNat dKid).t) with
 | some y1 => match Zgu (x0.th.batch,(x0.th.kids.getD x0.th.at_.toNat dKid).ahead) with
  | some y2 => match Zei (y2,x0.th.x,x0.c.lo,x0.c.hi) with
   | some y3 => match Zbn (x0.m,y1,y3) with
    | some y4 => bif y4.snd == 0 then some ({ x0 with m:=y4.fst,th:={ x0.th with phase:=16 } }) else some (x0)
    | none=>none
   | none=>none
  | none=>none
 | none=>none else match Zck (x0.c,(x0.th.kids.getD x0.th.at_.toNat dKid).t) with
 | some y1 => match ZeE () with
  | some y2 => match Zbn (x0.m,y1,y2) with
   | some y3 => bif y3.snd != 0 then some (x0) else match Zdr { x0 with m:=y3.fst,th:={ x0.th with at_:=Zaf .i64 (x0.th.at_+1) } } with
     | some y4 => some y4
     | none=>none
   | none=>none
  | none=>none
 | none=>none else none else none
def ZgT (x:Turn):Option Turn:=ZmT x
def Zl5 (x0:Turn):Option (Turn×Bool) := bif x0.th.phase == 13 then match Zck (x0.c,x0.t) with
 | some y1 => match Zbq (x0.m,y1) with
  | some y2 => bif y2.snd == 0 then match ZeE () with
    | some y3 => bif y2.fst == y3 then some (({ x0 with th:={ x0.th with phase:=14 } },true)) else some ((x0,true))
    | none=>none else some ((x0,true))
  | none=>none
 | none=>none else bif x0.th.phase == 14 then match Zfu (x0.c,x0.t) with
  | some y1 => match Zbq (x0.m,y1) with
   | some y2 => bif y2.snd != 0 then some ((x0,true)) else match Zdr { x0 with th:={ x0.th with at_:=0,x:=y2.fst } } with
     | some y3 => some ((y3,true))
     | none=>none
   | none=>none
  | none=>none else bif x0.th.phase == 15 then bif x0.th.phase == 15 then bif decide (x0.th.at_<0) then some ((x0,true)) else bif decide (x0.th.at_>=(↑x0.th.kids.length:Int)) then some ((x0,true)) else match ZgT x0 with
      | some y1 => some ((y1,true))
      | none=>none else some ((x0,false)) else bif x0.th.phase == 16 then bif decide (x0.th.at_<0) then some ((x0,true)) else bif decide (x0.th.at_>=(↑x0.th.kids.length:Int)) then some ((x0,true)) else match ZgT x0 with
      | some y1 => some ((y1,true))
      | none=>none else some ((x0,false))
def ZmN (x:Turn):Option (Turn×Bool):=Zl5 x
def ZhY (x0:List Entry) (x1:Int) (x2:Int) (x3:Int) (x4:List Int) (x5:Int):Option (((List Entry)×Int×Int×Int×(List Int)×Int)⊕(((List Int)))) := bif decide (x5<(↑x0.length:Int)) then match Zgu (x0,x5) with
 | some y1 => match Zei (y1,x1,x2,x3) with
  | some y2 => bif fewB (x4.length+(y2::[]).length) then some (Sum.inl (x0,x1,x2,x3,x4++y2::[],Zaf .i64 (x5+1))) else none
  | none=>none
 | none=>none else some (Sum.inr x4)
def Zex (x:(List Entry)×Int×Int×Int×(List Int)×Int):Option (((List Entry)×Int×Int×Int×(List Int)×Int)⊕(((List Int)))):=ZhY x.1 x.2.1 x.2.2.1 x.2.2.2.1 x.2.2.2.2.1 x.2.2.2.2.2
def ZmP (x:(List Entry)×Int×Int×Int×(List Int)×Int):Option (((List Int))):=Zay Zex x
def ZjH (x0:List Entry) (x1:Int) (x2:Int) (x3:Int):Option (List Int) := match ZmP (x0,x1,x2,x3,([]:List Int),0) with
 | some y1 => some y1
 | none=>none
def Zjn (x:(List Entry)×Int×Int×Int):Option (List Int):=ZjH x.1 x.2.1 x.2.2.1 x.2.2.2
def ZeG (x0:Int) (x1:Turn) (x2:Turn) (x3:List Int) (x4:List Mark) (x5:Int):Option ((Int×Turn×Turn×(List Int)×(List Mark)×Int)⊕((Int×Turn×Turn×(List Mark)))) := bif decide (x5<(↑x1.th.batch.length:Int)) then bif decide (0<=x5) then bif decide (x5<(↑x1.th.batch.length:Int)) then bif decide (0<=x5) then bif decide (x5<(↑x1.th.batch.length:Int)) then bif decide (0<=x5) then bif decide (x5<(↑x3.length:Int)) then bif fewB (x4.length+(Mark.mk (x1.th.batch.getD x5.toNat Zca).t x1.th.item (x1.th.batch.getD x5.toNat Zca).op (x3.getD x5.toNat 0) 0::[]).length) then some (Sum.inl (x0,x1,x2,x3,x4++Mark.mk (x1.th.batch.getD x5.toNat Zca).t x1.th.item (x1.th.batch.getD x5.toNat Zca).op (x3.getD x5.toNat 0) 0::[],Zaf .i64 (x5+1))) else none else none else none else none else none else none else none else some (Sum.inr (x0,x1,x2,x4))
def ZeF (x:Int×Turn×Turn×(List Int)×(List Mark)×Int):Option ((Int×Turn×Turn×(List Int)×(List Mark)×Int)⊕((Int×Turn×Turn×(List Mark)))):=ZeG x.1 x.2.1 x.2.2.1 x.2.2.2.1 x.2.2.2.2.1 x.2.2.2.2.2
def ZmV (x:Int×Turn×Turn×(List Int)×(List Mark)×Int):Option ((Int×Turn×Turn×(List Mark))):=Zay ZeF x
def ZjG (x0:Turn) (x1:Int):Option Turn := match Zjn (x0.th.batch,x1,x0.c.lo,x0.c.hi) with
 | some y1 => bif fewB ((0:Nat)+x0.log.length) then match ZmV (x1,x0,Turn.mk (Config.mk 0 0 0 0 0 0 0 0 false 0 0 0) 0 0 (Memo.mk ([]:List Int) ([]:List (List Entry))) (Thread.mk 0 0 (Op.mk 0 0) ([]:List Entry) ([]:List Kid) ([]:List Int) 0 0 0 0 0 0 0 0 0 0) (Tape.mk ([]:List Int) 0) ([]:List Mark) false,y1,x0.log,0) with
  | some y2 => match Zdr { y2.snd.fst with th:={ y2.snd.fst.th with at_:=0,x:=y2.fst },log:=y2.snd.snd.snd } with
   | some y3 => some y3
   | none=>none
  | none=>none else none
 | none=>none
def Zeo (x:Turn×Int):Option Turn:=ZjG x.1 x.2
def Zmm (x0:Turn):Option Bool := bif decide (x0.th.until_>0) then some (decide (x0.now>=x0.th.until_)) else some (false)
def ZeL (x:Turn):Option Bool:=Zmm x
def Zj4 (x0:Turn):Option Turn := bif decide (x0.th.layer<x0.c.layers) then match ZeL x0 with
 | some y1 => bif !y1 then some ({ x0 with th:={ x0.th with phase:=17,layer:=Zaf .i64 (x0.th.layer+1) } }) else some ({ x0 with th:={ x0.th with phase:=2 } })
 | none=>none else some ({ x0 with th:={ x0.th with phase:=2 } })
def Zem (x:Turn):Option Turn:=Zj4 x
def Zhz (x0:Memo) (x1:Int) (x2:Int) (x3:Int):Option (Memo×Bool×Int) := match Zbq (x0,x1) with
 | some y1 => bif y1.snd != 0 then some ((x0,false,y1.snd)) else bif y1.fst != x2 then some ((x0,false,y1.snd)) else match Zbn (x0,x1,x3) with
  | some y2 => some ((y2.fst,true,0))
  | none=>none
 | none=>none
def ZcR (x:Memo×Int×Int×Int):Option (Memo×Bool×Int):=Zhz x.1 x.2.1 x.2.2.1 x.2.2.2
def ZkO (x0:Int) (x1:Int):Option Int := bif decide (x0>x1) then some (x1) else some (if x1<Zaf .i64 (2*x0) then x1 else Zaf .i64 (2*x0))
def ZhK (x:Int×Int):Option Int:=ZkO x.1 x.2
def Zl2 (x0:Turn):Option (Turn×Bool) := match ZdD (x0.c,x0.th.item) with
 | some y1 => bif x0.th.phase == 2 then bif x0.th.phase == 2 then match Zbq (x0.m,y1) with
  | some y2 => bif y2.snd != 0 then some ((x0,true)) else match Zei (x0.th.batch,y2.fst,x0.c.lo,x0.c.hi) with
    | some y3 => bif y3 == y2.fst then match Zeo (x0,y2.fst) with
     | some y4 => some ((y4,true))
     | none=>none else bif x0.th.phase == 25 then match Zem x0 with
      | some y4 => some ((y4,true))
      | none=>none else some (({ x0 with th:={ x0.th with phase:=3,x:=y2.fst,y:=y3 } },true))
    | none=>none
  | none=>none else bif x0.th.phase == 3 then match ZcR (x0.m,y1,x0.th.x,x0.th.y) with
   | some y2 => bif y2.snd.snd != 0 then some ((x0,true)) else bif y2.snd.fst then match Zeo ({ x0 with m:=y2.fst },x0.th.x) with
     | some y3 => some ((y3,true))
     | none=>none else match ZhK (x0.th.width,x0.c.width) with
     | some y3 => some (({ x0 with m:=y2.fst,th:={ x0.th with phase:=2,width:=y3 } },true))
     | none=>none
   | none=>none else some ((x0,false)) else bif x0.th.phase == 25 then match Zbq (x0.m,y1) with
  | some y2 => bif y2.snd != 0 then some ((x0,true)) else match Zei (x0.th.batch,y2.fst,x0.c.lo,x0.c.hi) with
    | some y3 => bif y3 == y2.fst then match Zeo (x0,y2.fst) with
     | some y4 => some ((y4,true))
     | none=>none else bif x0.th.phase == 25 then match Zem x0 with
      | some y4 => some ((y4,true))
      | none=>none else some (({ x0 with th:={ x0.th with phase:=3,x:=y2.fst,y:=y3 } },true))
    | none=>none
  | none=>none else bif x0.th.phase == 3 then match ZcR (x0.m,y1,x0.th.x,x0.th.y) with
   | some y2 => bif y2.snd.snd != 0 then some ((x0,true)) else bif y2.snd.fst then match Zeo ({ x0 with m:=y2.fst },x0.th.x) with
     | some y3 => some ((y3,true))
     | none=>none else match ZhK (x0.th.width,x0.c.width) with
     | some y3 => some (({ x0 with m:=y2.fst,th:={ x0.th with phase:=2,width:=y3 } },true))
     | none=>none
   | none=>none else some ((x0,false))
 | none=>none
def ZlN (x:Turn):Option (Turn×Bool):=Zl2 x
def Zlj (x0:Int):Option Int :=
 some (Zaf .i64 (Zaf .i64 (8*Zaf .i64 (x0+1))+1))
def Zde (x:Int):Option Int:=Zlj x
def ZjT (x0:Int):Option Int :=
 some (Zaf .i64 (Zaf .i64 (8*Zaf .i64 (x0+1))+2))
def Zfv (x:Int):Option Int:=ZjT x
def Zhh (x0:Int):Option Int :=
 some (Zaf .i64 (Zaf .i64 (8*Zaf .i64 (x0+1))+3))
def Zd6 (x:Int):Option Int:=Zhh x
def Zl6 (x0:Int) (x1:Int):Option Int :=
 some (Zaf .i64 (Zaf .i64 (8*Zaf .i64 (Zaf .i64 (Zaf .i64 (16*x0)+x1)+1))+4))
def ZdA (x:Int×Int):Option Int:=Zl6 x.1 x.2
def ZiU (x0:Int) (x1:Int) (x2:Int):Option ((Int×Int×Int)⊕((Int×Int)⊕(Int))) := bif decide (x2<=3) then match ZdA (x1,x2) with
 | some y1 => bif x0 == y1 then some (Sum.inr (Sum.inr 4)) else some (Sum.inl (x0,x1,Zaf .i64 (x2+1)))
 | none=>none else some (Sum.inr (Sum.inl (x0,x1)))
def Ze6 (x:Int×Int×Int):Option ((Int×Int×Int)⊕((Int×Int)⊕(Int))):=ZiU x.1 x.2.1 x.2.2
def Zgi (x:Int×Int×Int):Option ((Int×Int)⊕(Int)):=Zay Ze6 x
def Zip (x0:Int) (x1:Int):Option ((Int×Int)⊕((Unit)⊕(Int))) := bif decide (x1<4) then match Zgi (x0,x1,1) with
 | some (.inl y1) => some (Sum.inl (y1.fst,Zaf .i64 (y1.snd+1)))
 | some (.inr y2) => some (Sum.inr (Sum.inr y2))
 | none=>none else some (Sum.inr (Sum.inl ()))
def Ze7 (x:Int×Int):Option ((Int×Int)⊕((Unit)⊕(Int))):=Zip x.1 x.2
def Zgg (x:Int×Int):Option ((Unit)⊕(Int)):=Zay Ze7 x
def Zjr (x0:Int) (x1:Int):Option ((Int×Int)⊕((Int)⊕(Int))) := bif decide (x1<16) then match Zde x1 with
 | some y1 => bif x0 == y1 then some (Sum.inr (Sum.inr 1)) else match Zfv x1 with
  | some y2 => bif x0 == y2 then some (Sum.inr (Sum.inr 2)) else match Zd6 x1 with
   | some y3 => bif x0 == y3 then some (Sum.inr (Sum.inr 3)) else some (Sum.inl (x0,Zaf .i64 (x1+1)))
   | none=>none
  | none=>none
 | none=>none else some (Sum.inr (Sum.inl x0))
def Zfl (x:Int×Int):Option ((Int×Int)⊕((Int)⊕(Int))):=Zjr x.1 x.2
def Zg2 (x:Int×Int):Option ((Int)⊕(Int)):=Zay Zfl x
def ZmZ (x0:Int):Option Int := bif x0 == 0 then some (0) else match ZeE () with
 | some y1 => bif x0 == y1 then some (5) else match Zg2 (x0,0) with
  | some (.inl y2) => match Zgg (y2,0) with
   | some (.inl y3) => some ((-1:Int))
   | some (.inr y4) => some y4
   | none=>none
  | some (.inr y3) => some y3
  | none=>none
 | none=>none
def Zdv (x:Int):Option Int:=ZmZ x
def ZmM (x0:Turn):Option Turn := bif decide (x0.th.at_>=0) then bif decide (x0.th.at_<(↑x0.th.held.length:Int)) then some ({ x0 with th:={ x0.th with phase:=7 } }) else bif decide (x0.th.stop>0) then some ({ x0 with th:={ x0.th with phase:=11 } }) else some ({ x0 with th:={ x0.th with phase:=2 } }) else bif decide (x0.th.stop>0) then some ({ x0 with th:={ x0.th with phase:=11 } }) else some ({ x0 with th:={ x0.th with phase:=2 } })
def Zgx (x:Turn):Option Turn:=ZmM x
def Zmf (x0:Turn):Option Turn := match Zgx { x0 with th:={ x0.th with at_:=0 } } with
 | some y1 => some y1
 | none=>none
def ZgJ (x:Turn):Option Turn:=Zmf x
def ZjI (x0:Int):Option Int := bif decide (x0<2) then some (0) else some (Zaf .i64 (x0.tdiv 2))
def Zjx (x:Int):Option Int:=ZjI x
def ZmJ (x0:Turn):Option (Turn×Bool) := match ZdM (x0.c,x0.th.item,x0.th.node) with
 | some y1 => bif x0.th.phase == 4 then match Zbq (x0.m,y1) with
  | some y2 => bif y2.snd != 0 then some ((x0,true)) else match Zdv y2.fst with
    | some y3 => bif y3 == 0 then some (({ x0 with th:={ x0.th with phase:=5 } },true)) else match Zdv y2.fst with
      | some y4 => bif y4 == 1 then some (({ x0 with th:={ x0.th with phase:=6,x:=y2.fst } },true)) else match ZeL x0 with
       | some y5 => bif y5 then match ZgJ x0 with
         | some y6 => some ((y6,true))
         | none=>none else some ((x0,true))
       | none=>none
      | none=>none
    | none=>none
  | none=>none else bif x0.th.phase == 5 then match Zde x0.t with
   | some y2 => match ZcR (x0.m,y1,0,y2) with
    | some y3 => bif y3.snd.snd != 0 then some ((x0,true)) else bif !y3.snd.fst then some (({ x0 with th:={ x0.th with phase:=4 } },true)) else bif fewB ((0:Nat)+x0.th.held.length) then bif fewB (x0.th.held.length+(x0.th.node::[]).length) then match Zjx x0.th.node with
        | some y4 => bif y4 == 0 then match ZgJ { x0 with m:=y3.fst,th:={ x0.th with phase:=4,held:=x0.th.held++x0.th.node::[],node:=y4 } } with
          | some y5 => some ((y5,true))
          | none=>none else some (({ x0 with m:=y3.fst,th:={ x0.th with phase:=4,held:=x0.th.held++x0.th.node::[],node:=y4 } },true))
        | none=>none else none else none
    | none=>none
   | none=>none else bif x0.th.phase == 6 then match Zfv x0.t with
    | some y2 => match ZcR (x0.m,y1,x0.th.x,y2) with
     | some y3 => bif y3.snd.snd != 0 then some ((x0,true)) else bif !y3.snd.fst then some (({ x0 with th:={ x0.th with phase:=4 } },true)) else match ZgJ { x0 with m:=y3.fst,th:={ x0.th with phase:=4,stop:=x0.th.node } } with
       | some y4 => some ((y4,true))
       | none=>none
     | none=>none
    | none=>none else some ((x0,false))
 | none=>none
def Zit (x:Turn):Option (Turn×Bool):=ZmJ x
def ZmF (x0:Turn):Option Int := bif decide (x0.th.at_<0) then some ((-1:Int)) else bif decide (x0.th.at_>=(↑x0.th.held.length:Int)) then some ((-1:Int)) else bif decide (0<=x0.th.at_) then bif decide (x0.th.at_<(↑x0.th.held.length:Int)) then match ZdM (x0.c,x0.th.item,x0.th.held.getD x0.th.at_.toNat 0) with
 | some y1 => some y1
 | none=>none else none else none
def ZmH (x:Turn):Option Int:=ZmF x
def ZnU (x0:Int):Option Int := match Zdv x0 with
 | some y1 => bif decide (y1<1) then some ((-1:Int)) else bif decide (y1>3) then some ((-1:Int)) else some (Zaf .i64 (Zaf .i64 (x0.tdiv 8)-1))
 | none=>none
def Zn8 (x:Int):Option Int:=ZnU x
def ZmC (x0:Turn):Option Turn := match Zgx { x0 with th:={ x0.th with at_:=Zaf .i64 (x0.th.at_+1) } } with
 | some y1 => some y1
 | none=>none
def Zjc (x:Turn):Option Turn:=ZmC x
def Zhu (x0:Memo) (x1:Int):Option ((List Entry)×Int) := bif decide (x1<0) then some ((([]:List Entry),30)) else bif decide (x1>=(↑x0.boxes.length:Int)) then some ((([]:List Entry),30)) else bif decide (0<=x1) then bif decide (x1<(↑x0.boxes.length:Int)) then bif fewB ((0:Nat)+List.length (x0.boxes.getD x1.toNat ([]:List Entry))) then some ((x0.boxes.getD x1.toNat ([]:List Entry),0)) else none else none else none
def Zhm (x:Memo×Int):Option ((List Entry)×Int):=Zhu x.1 x.2
def ZgV (x0:List (List Entry)) (x1:List Entry) (x2:Int):Option (((List (List Entry))×(List Entry)×Int)⊕(((List Entry)))) := bif decide (x2<(↑x0.length:Int)) then bif decide (0<=x2) then bif decide (x2<(↑x0.length:Int)) then bif fewB (x1.length+List.length (x0.getD x2.toNat ([]:List Entry))) then some (Sum.inl (x0,x1++x0.getD x2.toNat ([]:List Entry),Zaf .i64 (x2+1))) else none else none else none else some (Sum.inr x1)
def Zek (x:(List (List Entry))×(List Entry)×Int):Option (((List (List Entry))×(List Entry)×Int)⊕(((List Entry)))):=ZgV x.1 x.2.1 x.2.2
def Zjm (x:(List (List Entry))×(List Entry)×Int):Option (((List Entry))):=Zay Zek x
def ZlO (x0:List (List Entry)):Option (List Entry) := match Zjm (x0,([]:List Entry),0) with
 | some y1 => some y1
 | none=>none
def ZmI (x:(List (List Entry))):Option (List Entry):=ZlO x
def Zl1 (x0:Turn) (x1:Int) (x2:List Entry):Option Turn := bif fewB ((0:Nat)+x0.th.kids.length) then bif fewB (x0.th.kids.length+(Kid.mk x1 (↑x0.th.batch.length:Int)::[]).length) then match ZmI (x0.th.batch::x2::[]) with
 | some y1 => some ({ x0 with th:={ x0.th with batch:=y1,kids:=x0.th.kids++Kid.mk x1 (↑x0.th.batch.length:Int)::[] } })
 | none=>none else none else none
def ZgL (x:Turn×Int×(List Entry)):Option Turn:=Zl1 x.1 x.2.1 x.2.2
def Zn3 (x0:Memo) (x1:Int) (x2:List Entry):Option (Memo×Int) := bif decide (x1<0) then some ((x0,30)) else bif decide (x1>=(↑x0.boxes.length:Int)) then some ((x0,30)) else bif fewB ((0:Nat)+x0.boxes.length) then bif fewB ((0:Nat)+x2.length) then bif decide (0<=x1) then bif decide (x1<(↑x0.boxes.length:Int)) then some (({ x0 with boxes:=x0.boxes.set x1.toNat x2 },0)) else none else none else none else none
def ZhD (x:Memo×Int×(List Entry)):Option (Memo×Int):=Zn3 x.1 x.2.1 x.2.2
def ZlZ (x0:Turn):Option (Turn×Bool) := match ZmH x0 with
 | some y1 => bif x0.th.phase == 7 then match Zbq (x0.m,y1) with
  | some y2 => bif y2.snd != 0 then some ((x0,true)) else match Zde x0.t with
    | some y3 => bif y2.fst == y3 then some (({ x0 with th:={ x0.th with phase:=8 } },true)) else match Zdv y2.fst with
      | some y4 => bif y4 == 3 then match Zn8 y2.fst with
        | some y5 => some (({ x0 with th:={ x0.th with phase:=9,who:=y5 } },true))
        | none=>none else some ((x0,true))
      | none=>none
    | none=>none
  | none=>none else bif x0.th.phase == 8 then match Zde x0.t with
   | some y2 => match ZcR (x0.m,y1,y2,0) with
    | some y3 => bif y3.snd.snd != 0 then some ((x0,true)) else bif y3.snd.fst then match Zjc { x0 with m:=y3.fst } with
       | some y4 => some ((y4,true))
       | none=>none else some (({ x0 with m:=y3.fst,th:={ x0.th with phase:=7 } },true))
    | none=>none
   | none=>none else bif x0.th.phase == 9 then match Zhm (x0.m,x0.th.who) with
    | some y2 => bif y2.snd != 0 then some ((x0,true)) else match ZgL (x0,x0.th.who,y2.fst) with
      | some y3 => some (({ y3 with th:={ y3.th with phase:=10 } },true))
      | none=>none
    | none=>none else bif x0.th.phase == 10 then match Zbn (x0.m,y1,0) with
     | some y2 => bif y2.snd != 0 then some ((x0,true)) else match Zjc { x0 with m:=y2.fst } with
       | some y3 => some ((y3,true))
       | none=>none
     | none=>none else bif x0.th.phase == 11 then match ZhD (x0.m,x0.t,x0.th.batch) with
      | some y2 => bif y2.snd != 0 then some ((x0,true)) else some (({ x0 with m:=y2.fst,th:={ x0.th with phase:=12 } },true))
      | none=>none else bif x0.th.phase == 12 then match ZdM (x0.c,x0.th.item,x0.th.stop) with
       | some y2 => match Zd6 x0.t with
        | some y3 => match Zbn (x0.m,y2,y3) with
         | some y4 => bif y4.snd != 0 then some ((x0,true)) else some (({ x0 with m:=y4.fst,th:={ x0.th with phase:=13 } },true))
         | none=>none
        | none=>none
       | none=>none else some ((x0,false))
 | none=>none
def ZfD (x:Turn):Option (Turn×Bool):=ZlZ x
def Zoe (x0:Turn) (x1:Int):Option Turn := match Zck (x0.c,x0.t) with
 | some y1 => match ZdA (x0.th.item,x0.th.layer) with
  | some y2 => match Zbn (x0.m,y1,y2) with
   | some y3 => bif y3.snd != 0 then some (x0) else bif x1 == 23 then some ({ x0 with m:=y3.fst,th:={ x0.th with phase:=x1,left:=x0.c.spin } }) else some ({ x0 with m:=y3.fst,th:={ x0.th with phase:=x1 } })
   | none=>none
  | none=>none
 | none=>none
def ZgX (x:Turn×Int):Option Turn:=Zoe x.1 x.2
def ZmB (x0:Tape):Option (Int×Tape) := bif decide (x0.at_<0) then some ((0,x0)) else bif decide (x0.at_>=(↑x0.l.length:Int)) then some ((0,x0)) else bif decide (0<=x0.at_) then bif decide (x0.at_<(↑x0.l.length:Int)) then some ((x0.l.getD x0.at_.toNat 0,{ x0 with at_:=Zaf .i64 (x0.at_+1) })) else none else none
def Zna (x:Tape):Option (Int×Tape):=ZmB x
def ZkC (x0:Tape) (x1:Int):Option (Int×Tape) := bif decide (x1<1) then some ((0,x0)) else match Zna x0 with
 | some y1 => bif decide (x1=0) then none else bif decide (Int.tmod y1.fst x1<0) then some ((Zaf .i64 (Int.tmod y1.fst x1+x1),y1.snd)) else some ((Int.tmod y1.fst x1,y1.snd))
 | none=>none
def ZkF (x:Tape×Int):Option (Int×Tape):=ZkC x.1 x.2
def ZgO (x0:Memo) (x1:Int) (x2:Int):Option (Memo×Int×Int) := match Zbq (x0,x1) with
 | some y1 => match Zbn (x0,x1,x2) with
  | some y2 => some ((y2.fst,y1))
  | none=>none
 | none=>none
def Zm1 (x:Memo×Int×Int):Option (Memo×Int×Int):=ZgO x.1 x.2.1 x.2.2
def ZlH (x0:Config) (x1:Int) (x2:Int) (x3:Int):Option Int := bif decide (x1<0) then some ((-1:Int)) else bif decide (x1>=x0.items) then some ((-1:Int)) else bif decide (x2<1) then some ((-1:Int)) else bif decide (x2>x0.layers) then some ((-1:Int)) else bif decide (x3<0) then some ((-1:Int)) else bif decide (x3>=x0.width) then some ((-1:Int)) else match Zb6 x0 with
 | some y1 => match Zdg x0 with
  | some y2 => some (Zaf .i64 (Zaf .i64 (Zaf .i64 (Zaf .i64 (Zaf .i64 (x1*y1)+1)+y2)+Zaf .i64 (Zaf .i64 (x2-1)*x0.width))+x3))
  | none=>none
 | none=>none
def ZlU (x:Config×Int×Int×Int):Option Int:=ZlH x.1 x.2.1 x.2.2.1 x.2.2.2
def Zqi (x0:Turn):Option Turn := match ZkF (x0.tape,x0.th.width) with
 | some y1 => match ZlU (x0.c,x0.th.item,x0.th.layer,y1.fst) with
  | some y2 => match Zm1 (x0.m,y2,Zaf .i64 (x0.t+1)) with
   | some y3 => bif y3.snd.snd != 0 then some (x0) else bif decide (y3.snd.fst>=1) then bif decide (y3.snd.fst<=x0.c.threads) then bif y3.snd.fst != Zaf .i64 (x0.t+1) then some ({ x0 with m:=y3.fst,th:={ x0.th with phase:=20,who:=Zaf .i64 (y3.snd.fst-1) },tape:=y1.snd }) else some ({ x0 with m:=y3.fst,th:={ x0.th with phase:=23,left:=x0.c.spin },tape:=y1.snd }) else some ({ x0 with m:=y3.fst,th:={ x0.th with phase:=23,left:=x0.c.spin },tape:=y1.snd }) else some ({ x0 with m:=y3.fst,th:={ x0.th with phase:=23,left:=x0.c.spin },tape:=y1.snd })
   | none=>none
  | none=>none
 | none=>none
def ZmY (x:Turn):Option Turn:=Zqi x
def Zig (x0:Turn) (x1:Int) (x2:Int) (x3:Int):Option Turn := match Zck (x0.c,x1) with
 | some y1 => match ZdA (x0.th.item,x0.th.layer) with
  | some y2 => match ZcR (x0.m,y1,y2,0) with
   | some y3 => bif y3.snd.snd != 0 then some (x0) else bif y3.snd.fst then some ({ x0 with m:=y3.fst,th:={ x0.th with phase:=x2 } }) else some ({ x0 with m:=y3.fst,th:={ x0.th with phase:=x3 } })
   | none=>none
  | none=>none
 | none=>none
def ZeC (x:Turn×Int×Int×Int):Option Turn:=Zig x.1 x.2.1 x.2.2.1 x.2.2.2
def ZqJ (x0:Turn):Option Turn := match Zck (x0.c,x0.t) with
 | some y1 => match Zbq (x0.m,y1) with
  | some y2 => bif y2.snd != 0 then some (x0) else match ZdA (x0.th.item,x0.th.layer) with
   | some y3 => bif y2.fst != y3 then some ({ x0 with th:={ x0.th with phase:=13 } }) else bif decide (x0.th.left<1) then some ({ x0 with th:={ x0.th with phase:=26 } }) else match ZeL x0 with
    | some y4 => bif y4 then some ({ x0 with th:={ x0.th with phase:=26 } }) else some ({ x0 with th:={ x0.th with left:=Zaf .i64 (x0.th.left-1) } })
    | none=>none
   | none=>none
  | none=>none
 | none=>none
def Zme (x:Turn):Option Turn:=ZqJ x
def ZlJ (x0:Int):Option Int := bif decide (x0<0) then some ((-1:Int)) else some (Zaf .i64 (x0.tdiv 2))
def Zmw (x:Int):Option Int:=ZlJ x
def Zgt (x0:Turn):Option (Turn×Bool) := bif x0.th.phase == 17 then match ZhD (x0.m,x0.t,x0.th.batch) with
 | some y1 => bif y1.snd == 0 then some (({ x0 with m:=y1.fst,th:={ x0.th with phase:=18 } },true)) else some ((x0,true))
 | none=>none else bif x0.th.phase == 18 then match ZgX (x0,19) with
  | some y1 => some ((y1,true))
  | none=>none else bif x0.th.phase == 19 then match ZmY x0 with
   | some y1 => some ((y1,true))
   | none=>none else bif x0.th.phase == 20 then match ZeC (x0,x0.t,21,13) with
    | some y1 => some ((y1,true))
    | none=>none else bif x0.th.phase == 21 then match ZeC (x0,x0.th.who,22,24) with
     | some y1 => some ((y1,true))
     | none=>none else bif x0.th.phase == 22 then match Zhm (x0.m,x0.th.who) with
      | some y1 => bif y1.snd == 0 then match ZgL (x0,x0.th.who,y1.fst) with
        | some y2 => some (({ y2 with th:={ y2.th with phase:=25 } },true))
        | none=>none else some ((x0,true))
      | none=>none else bif x0.th.phase == 23 then match Zme x0 with
       | some y1 => some ((y1,true))
       | none=>none else bif x0.th.phase == 24 then match ZgX (x0,23) with
        | some y1 => some ((y1,true))
        | none=>none else bif x0.th.phase == 26 then match ZeC (x0,x0.t,2,13) with
         | some y1 => bif y1.th.phase == 2 then match Zmw y1.th.width with
          | some y2 => match Zem { y1 with th:={ y1.th with width:=if y2>1 then y2 else 1 } } with
           | some y3 => some ((y3,true))
           | none=>none
          | none=>none else some ((y1,true))
         | none=>none else some ((x0,false))
def ZcS (x:Turn):Option (Turn×Bool):=Zgt x
def Zi1 (x0:Turn):Option Turn := bif x0.th.phase == 0 then some (x0) else bif x0.th.phase == 1 then match Zck (x0.c,x0.t) with
 | some y1 => match Zbn (x0.m,y1,0) with
  | some y2 => bif y2.snd != 0 then some ({ x0 with log:=([]:List Mark),done:=false }) else match ZkG { x0 with m:=y2.fst,log:=([]:List Mark),done:=false } with
    | some y3 => some y3
    | none=>none
  | none=>none
 | none=>none else match ZmN { x0 with log:=([]:List Mark),done:=false } with
 | some y1 => bif !y1.snd then match ZlN { x0 with log:=([]:List Mark),done:=false } with
   | some y2 => bif !y2.snd then match Zit { x0 with log:=([]:List Mark),done:=false } with
     | some y3 => bif !y3.snd then match ZfD { x0 with log:=([]:List Mark),done:=false } with
       | some y4 => bif !y4.snd then match ZcS { x0 with log:=([]:List Mark),done:=false } with
         | some y5 => some (y5.fst)
         | none=>none else some (y4.fst)
       | none=>none else bif !y3.snd then match ZcS { x0 with log:=([]:List Mark),done:=false } with
        | some y4 => some (y4.fst)
        | none=>none else some (y3.fst)
     | none=>none else bif !y2.snd then match ZfD { x0 with log:=([]:List Mark),done:=false } with
      | some y3 => bif !y3.snd then match ZcS { x0 with log:=([]:List Mark),done:=false } with
        | some y4 => some (y4.fst)
        | none=>none else some (y3.fst)
      | none=>none else bif !y2.snd then match ZcS { x0 with log:=([]:List Mark),done:=false } with
       | some y3 => some (y3.fst)
       | none=>none else some (y2.fst)
   | none=>none else bif !y1.snd then match Zit { x0 with log:=([]:List Mark),done:=false } with
    | some y2 => bif !y2.snd then match ZfD { x0 with log:=([]:List Mark),done:=false } with
      | some y3 => bif !y3.snd then match ZcS { x0 with log:=([]:List Mark),done:=false } with
        | some y4 => some (y4.fst)
        | none=>none else some (y3.fst)
      | none=>none else bif !y2.snd then match ZcS { x0 with log:=([]:List Mark),done:=false } with
       | some y3 => some (y3.fst)
       | none=>none else some (y2.fst)
    | none=>none else bif !y1.snd then match ZfD { x0 with log:=([]:List Mark),done:=false } with
     | some y2 => bif !y2.snd then match ZcS { x0 with log:=([]:List Mark),done:=false } with
       | some y3 => some (y3.fst)
       | none=>none else some (y2.fst)
     | none=>none else bif !y1.snd then match ZcS { x0 with log:=([]:List Mark),done:=false } with
      | some y2 => some (y2.fst)
      | none=>none else some (y1.fst)
 | none=>none
def Zmh (x:Turn):Option Turn:=Zi1 x
def Zfp (x0:Int) (x1:Wld) (x2:Wld) (x3:Turn) (x4:List Mark) (x5:Int):Option ((Int×Wld×Wld×Turn×(List Mark)×Int)⊕((Int×Wld×Wld×Turn×(List Mark)))) := bif decide (x5<(↑x3.log.length:Int)) then bif decide (0<=x5) then bif decide (x5<(↑x3.log.length:Int)) then bif fewB (x4.length+({ x3.log.getD x5.toNat Za6 with step:=x1.steps }::[]).length) then some (Sum.inl (x0,x1,x2,x3,x4++{ x3.log.getD x5.toNat Za6 with step:=x1.steps }::[],Zaf .i64 (x5+1))) else none else none else none else some (Sum.inr (x0,x1,x2,x3,x4))
def ZgU (x:Int×Wld×Wld×Turn×(List Mark)×Int):Option ((Int×Wld×Wld×Turn×(List Mark)×Int)⊕((Int×Wld×Wld×Turn×(List Mark)))):=Zfp x.1 x.2.1 x.2.2.1 x.2.2.2.1 x.2.2.2.2.1 x.2.2.2.2.2
def Zog (x:Int×Wld×Wld×Turn×(List Mark)×Int):Option ((Int×Wld×Wld×Turn×(List Mark))):=Zay ZgU x
def ZlY (x0:Wld) (x1:Int):Option Wld := bif decide (0<=x1) then bif decide (x1<(↑x0.t.length:Int)) then match Zmh (Turn.mk x0.c x1 x0.now x0.m (x0.t.getD x1.toNat Zax) x0.tape ([]:List Mark) false) with
 | some y1 => match Zg6 ({ x0 with steps:=Zaf .i64 (x0.steps+1) },x1,y1.th) with
  | some y2 => bif fewB ((0:Nat)+y2.log.length) then match Zog (x1,{ y2 with m:=y1.m,tape:=y1.tape },Wld.mk (Config.mk 0 0 0 0 0 0 0 0 false 0 0 0) (Memo.mk ([]:List Int) ([]:List (List Entry))) ([]:List Thread) 0 0 (Tape.mk ([]:List Int) 0) ([]:List Mark) ([]:List Event),y1,y2.log,0) with
   | some y3 => bif !y3.snd.snd.snd.fst.done then some ({ y3.snd.fst with log:=y3.snd.snd.snd.snd }) else match ZcH (y3.snd.snd.snd.fst.th.op,y3.snd.snd.snd.fst.th.x,y3.snd.fst.c.lo,y3.snd.fst.c.hi) with
    | some y4 => match Zgs ({ y3.snd.fst with log:=y3.snd.snd.snd.snd },Event.mk 2 y3.fst y3.snd.snd.snd.fst.th.item y3.snd.snd.snd.fst.th.op y3.snd.snd.snd.fst.th.x y4.snd 0) with
     | some y5 => some y5
     | none=>none
    | none=>none
   | none=>none else none
  | none=>none
 | none=>none else none else none
def Zmv (x:Wld×Int):Option Wld:=ZlY x.1 x.2
def Zl9 (x0:Wld) (x1:SEntry):Option (Wld×Int) := match ZhH (x0.c,x1) with
 | some y1 => bif y1 != 0 then some ((x0,y1)) else bif x1.kind == 3 then some (({ x0 with now:=Zaf .i64 (x0.now+1) },0)) else bif decide (0<=x1.t) then bif decide (x1.t<(↑x0.t.length:Int)) then bif x1.kind == 1 then match ZgB (x0.t.getD x1.t.toNat Zax) with
  | some y2 => bif y2 then match Zgs (x0,Event.mk 3 x1.t x1.item x1.op 0 false 0) with
   | some y3 => some ((y3,170))
   | none=>none else match Zk0 (x0.c,x1.t,x0.t.getD x1.t.toNat Zax,x1.item,x1.op,x0.now) with
   | some y3 => match Zg6 (x0,x1.t,y3) with
    | some y4 => match Zgs (y4,Event.mk 1 x1.t x1.item x1.op 0 false 0) with
     | some y5 => some ((y5,0))
     | none=>none
    | none=>none
   | none=>none
  | none=>none else match ZgB (x0.t.getD x1.t.toNat Zax) with
  | some y2 => bif !y2 then some ((x0,0)) else match Zmv (x0,x1.t) with
   | some y3 => some ((y3,0))
   | none=>none
  | none=>none else none else none
 | none=>none
def Zjf (x:Wld×SEntry):Option (Wld×Int):=Zl9 x.1 x.2
def ZuN (x0:List SEntry) (x1:Config) (x2:Int):Option (((List SEntry)×Config×Int)⊕((Unit)⊕(Int×Int))) := bif decide (x2<(↑x0.length:Int)) then bif decide (0<=x2) then bif decide (x2<(↑x0.length:Int)) then match ZhH (x1,x0.getD x2.toNat Za9) with
 | some y1 => bif y1 != 0 then some (Sum.inr (Sum.inr (x2,y1))) else some (Sum.inl (x0,x1,Zaf .i64 (x2+1)))
 | none=>none else none else none else some (Sum.inr (Sum.inl ()))
def ZkH (x:(List SEntry)×Config×Int):Option (((List SEntry)×Config×Int)⊕((Unit)⊕(Int×Int))):=ZuN x.1 x.2.1 x.2.2
def ZuV (x:(List SEntry)×Config×Int):Option ((Unit)⊕(Int×Int)):=Zay ZkH x
def ZxB (x0:Config) (x1:List SEntry):Option (Int×Int) := match Zdf x0 with
 | some y1 => bif y1 != 0 then some ((0,y1)) else bif decide ((↑x1.length:Int)>65536) then some ((0,2)) else match ZuV (x1,x0,0) with
  | some (.inl y2) => some ((0,0))
  | some (.inr y3) => some y3
  | none=>none
 | none=>none
def Zrn (x:Config×(List SEntry)):Option (Int×Int):=ZxB x.1 x.2
def ZuU (x0:List SEntry) (x1:Wld) (x2:Wld) (x3:Int):Option (((List SEntry)×Wld×Wld×Int)⊕((Wld×Wld))) := bif decide (x3<(↑x0.length:Int)) then bif decide (0<=x3) then bif decide (x3<(↑x0.length:Int)) then match Zjf (x2,x0.getD x3.toNat Za9) with
 | some y1 => some (Sum.inl (x0,x1,y1.fst,Zaf .i64 (x3+1)))
 | none=>none else none else none else some (Sum.inr (x1,x2))
def ZkP (x:(List SEntry)×Wld×Wld×Int):Option (((List SEntry)×Wld×Wld×Int)⊕((Wld×Wld))):=ZuU x.1 x.2.1 x.2.2.1 x.2.2.2
def Zu0 (x:(List SEntry)×Wld×Wld×Int):Option (Wld×Wld):=Zay ZkP x
def Zw0 (x0:Config) (x1:List SEntry) (x2:List Int):Option (Wld×Int×Int) := match Zrn (x0,x1) with
 | some y1 => bif y1.snd != 0 then some ((Wld.mk (Config.mk 0 0 0 0 0 0 0 0 false 0 0 0) (Memo.mk ([]:List Int) ([]:List (List Entry))) ([]:List Thread) 0 0 (Tape.mk ([]:List Int) 0) ([]:List Mark) ([]:List Event),y1)) else match Zhn (x0,x2) with
  | some y2 => match Zu0 (x1,Wld.mk (Config.mk 0 0 0 0 0 0 0 0 false 0 0 0) (Memo.mk ([]:List Int) ([]:List (List Entry))) ([]:List Thread) 0 0 (Tape.mk ([]:List Int) 0) ([]:List Mark) ([]:List Event),y2.fst,0) with
   | some y3 => some ((y3.snd,0,0))
   | none=>none
  | none=>none
 | none=>none
def ZwK (x:Config×(List SEntry)×(List Int)):Option (Wld×Int×Int):=Zw0 x.1 x.2.1 x.2.2
def ZiS (x0:List SEntry) (x1:List SEntry) (x2:Int):Option (((List SEntry)×(List SEntry)×Int)⊕(((List SEntry)))) := bif decide (x2<(↑x0.length:Int)) then bif decide (0<=x2) then bif decide (x2<(↑x0.length:Int)) then bif decide (0<=x2) then bif decide (x2<(↑x0.length:Int)) then bif decide (0<=x2) then bif decide (x2<(↑x0.length:Int)) then bif decide (0<=x2) then bif decide (x2<(↑x0.length:Int)) then bif fewB (x1.length+(x0.getD x2.toNat Za9::[]).length) then some (Sum.inl (x0,x1++x0.getD x2.toNat Za9::[],Zaf .i64 (x2+1))) else none else none else none else none else none else none else none else none else none else some (Sum.inr x1)
def Ze5 (x:(List SEntry)×(List SEntry)×Int):Option (((List SEntry)×(List SEntry)×Int)⊕(((List SEntry)))):=ZiS x.1 x.2.1 x.2.2
def Znk (x:(List SEntry)×(List SEntry)×Int):Option (((List SEntry))):=Zay Ze5 x
def ZkU (x0:List SEntry):Option (List SEntry) := match Znk (x0,([]:List SEntry),0) with
 | some y1 => some y1
 | none=>none
def Zk2 (x:(List SEntry)):Option (List SEntry):=ZkU x
def Zh2 (x0:List Event) (x1:List Event) (x2:Int):Option (((List Event)×(List Event)×Int)⊕((Unit)⊕(Bool))) := bif decide (x2<(↑x0.length:Int)) then bif decide (0<=x2) then bif decide (x2<(↑x0.length:Int)) then bif decide (0<=x2) then bif decide (x2<(↑x1.length:Int)) then bif !((x0.getD x2.toNat Zbw).kind == (x1.getD x2.toNat Zbw).kind && ((x0.getD x2.toNat Zbw).t == (x1.getD x2.toNat Zbw).t && ((x0.getD x2.toNat Zbw).item == (x1.getD x2.toNat Zbw).item && ((x0.getD x2.toNat Zbw).op.tag == (x1.getD x2.toNat Zbw).op.tag && ((x0.getD x2.toNat Zbw).op.v == (x1.getD x2.toNat Zbw).op.v && true) && ((x0.getD x2.toNat Zbw).prior == (x1.getD x2.toNat Zbw).prior && ((x0.getD x2.toNat Zbw).did == (x1.getD x2.toNat Zbw).did && ((x0.getD x2.toNat Zbw).step == (x1.getD x2.toNat Zbw).step && true))))))) then some (Sum.inr (Sum.inr false)) else some (Sum.inl (x0,x1,Zaf .i64 (x2+1))) else none else none else none else none else some (Sum.inr (Sum.inl ()))
def Zeu (x:(List Event)×(List Event)×Int):Option (((List Event)×(List Event)×Int)⊕((Unit)⊕(Bool))):=Zh2 x.1 x.2.1 x.2.2
def Zmr (x:(List Event)×(List Event)×Int):Option ((Unit)⊕(Bool)):=Zay Zeu x
def ZjM (x0:List Event) (x1:List Event):Option Bool := bif (↑x0.length:Int) != (↑x1.length:Int) then some (false) else match Zmr (x0,x1,0) with
 | some (.inl y1) => some (true)
 | some (.inr y2) => some y2
 | none=>none
def Zj8 (x:(List Event)×(List Event)):Option Bool:=ZjM x.1 x.2
def ZjV (x0:Wld) (x1:Wld) (x2:Int):Option ((Wld×Wld×Int)⊕((Unit)⊕(Bool))) := bif decide (x2<(↑x0.t.length:Int)) then bif decide (0<=x2) then bif decide (x2<(↑x0.t.length:Int)) then bif decide (0<=x2) then bif decide (x2<(↑x1.t.length:Int)) then match ZiE (x0.t.getD x2.toNat Zax,x1.t.getD x2.toNat Zax) with
 | some y1 => bif !y1 then some (Sum.inr (Sum.inr false)) else some (Sum.inl (x0,x1,Zaf .i64 (x2+1)))
 | none=>none else none else none else none else none else some (Sum.inr (Sum.inl ()))
def Zfk (x:Wld×Wld×Int):Option ((Wld×Wld×Int)⊕((Unit)⊕(Bool))):=ZjV x.1 x.2.1 x.2.2
def Zot (x:Wld×Wld×Int):Option ((Unit)⊕(Bool)):=Zay Zfk x
def ZmL (x0:Wld) (x1:Wld):Option Bool := bif !(x0.c.threads == x1.c.threads && (x0.c.items == x1.c.items && (x0.c.backend == x1.c.backend && (x0.c.depth == x1.c.depth && (x0.c.layers == x1.c.layers && (x0.c.width == x1.c.width && (x0.c.spin == x1.c.spin && (x0.c.wait == x1.c.wait && (x0.c.bounded == x1.c.bounded && (x0.c.lo == x1.c.lo && (x0.c.hi == x1.c.hi && (x0.c.init == x1.c.init && true)))))))))))) then some (false) else bif x0.now != x1.now then some (false) else bif x0.steps != x1.steps then some (false) else bif (↑x0.t.length:Int) != (↑x1.t.length:Int) then some (false) else match Zin (x0.m,x1.m) with
 | some y1 => bif !y1 then some (false) else match ZiD (x0.tape,x1.tape) with
  | some y2 => bif !y2 then some (false) else match ZhV (x0.log,x1.log) with
   | some y3 => bif !y3 then some (false) else match Zj8 (x0.hist,x1.hist) with
    | some y4 => bif !y4 then some (false) else match Zot (x0,x1,0) with
     | some (.inl y5) => some (true)
     | some (.inr y6) => some y6
     | none=>none
    | none=>none
   | none=>none
  | none=>none
 | none=>none
def Zdy (x:Wld×Wld):Option Bool:=ZmL x.1 x.2
def Zhe (x0:List Entry) (x1:List Entry) (x2:Int):Option (((List Entry)×(List Entry)×Int)⊕(((List Entry)))) := bif decide (x2<(↑x0.length:Int)) then bif decide (0<=x2) then bif decide (x2<(↑x0.length:Int)) then bif decide (0<=x2) then bif decide (x2<(↑x0.length:Int)) then bif fewB (x1.length+(x0.getD x2.toNat Zca::[]).length) then some (Sum.inl (x0,x1++x0.getD x2.toNat Zca::[],Zaf .i64 (x2+1))) else none else none else none else none else none else some (Sum.inr x1)
def Zd9 (x:(List Entry)×(List Entry)×Int):Option (((List Entry)×(List Entry)×Int)⊕(((List Entry)))):=Zhe x.1 x.2.1 x.2.2
def Zln (x:(List Entry)×(List Entry)×Int):Option (((List Entry))):=Zay Zd9 x
def Zgk (x0:List Entry):Option (List Entry) := match Zln (x0,([]:List Entry),0) with
 | some y1 => some y1
 | none=>none
def ZeX (x:(List Entry)):Option (List Entry):=Zgk x
def Zh4 (x0:Memo) (x1:Memo) (x2:Memo) (x3:Int):Option ((Memo×Memo×Memo×Int)⊕((Memo×Memo))) := bif decide (x3<(↑x0.boxes.length:Int)) then bif decide (0<=x3) then bif decide (x3<(↑x0.boxes.length:Int)) then match ZeX (x0.boxes.getD x3.toNat ([]:List Entry)) with
 | some y1 => bif fewB (x2.boxes.length+(y1::[]).length) then some (Sum.inl (x0,x1,{ x2 with boxes:=x2.boxes++y1::[] },Zaf .i64 (x3+1))) else none
 | none=>none else none else none else some (Sum.inr (x1,x2))
def Zey (x:Memo×Memo×Memo×Int):Option ((Memo×Memo×Memo×Int)⊕((Memo×Memo))):=Zh4 x.1 x.2.1 x.2.2.1 x.2.2.2
def Zmx (x:Memo×Memo×Memo×Int):Option (Memo×Memo):=Zay Zey x
def Zjy (x0:Memo):Option Memo := match Zmx (x0,Memo.mk ([]:List Int) ([]:List (List Entry)),{ x0 with boxes:=([]:List (List Entry)) },0) with
 | some y1 => some (y1.snd)
 | none=>none
def ZjY (x:Memo):Option Memo:=Zjy x
def Zi2 (x0:List Mark) (x1:List Mark) (x2:Int):Option (((List Mark)×(List Mark)×Int)⊕(((List Mark)))) := bif decide (x2<(↑x0.length:Int)) then bif decide (0<=x2) then bif decide (x2<(↑x0.length:Int)) then bif decide (0<=x2) then bif decide (x2<(↑x0.length:Int)) then bif decide (0<=x2) then bif decide (x2<(↑x0.length:Int)) then bif decide (0<=x2) then bif decide (x2<(↑x0.length:Int)) then bif decide (0<=x2) then bif decide (x2<(↑x0.length:Int)) then bif fewB (x1.length+(x0.getD x2.toNat Za6::[]).length) then some (Sum.inl (x0,x1++x0.getD x2.toNat Za6::[],Zaf .i64 (x2+1))) else none else none else none else none else none else none else none else none else none else none else none else some (Sum.inr x1)
def Zfd (x:(List Mark)×(List Mark)×Int):Option (((List Mark)×(List Mark)×Int)⊕(((List Mark)))):=Zi2 x.1 x.2.1 x.2.2
def ZnA (x:(List Mark)×(List Mark)×Int):Option (((List Mark))):=Zay Zfd x
def ZkW (x0:List Mark):Option (List Mark) := match ZnA (x0,([]:List Mark),0) with
 | some y1 => some y1
 | none=>none
def ZkV (x:(List Mark)):Option (List Mark):=ZkW x
def ZiP (x0:Thread) (x1:Thread) (x2:Thread) (x3:Int):Option ((Thread×Thread×Thread×Int)⊕((Thread×Thread))) := bif decide (x3<(↑x0.kids.length:Int)) then bif decide (0<=x3) then bif decide (x3<(↑x0.kids.length:Int)) then bif fewB (x2.kids.length+(x0.kids.getD x3.toNat dKid::[]).length) then some (Sum.inl (x0,x1,{ x2 with kids:=x2.kids++x0.kids.getD x3.toNat dKid::[] },Zaf .i64 (x3+1))) else none else none else none else some (Sum.inr (x1,x2))
def Ze9 (x:Thread×Thread×Thread×Int):Option ((Thread×Thread×Thread×Int)⊕((Thread×Thread))):=ZiP x.1 x.2.1 x.2.2.1 x.2.2.2
def ZnH (x:Thread×Thread×Thread×Int):Option (Thread×Thread):=Zay Ze9 x
def Zlb (x0:Thread):Option Thread := match ZeX x0.batch with
 | some y1 => match ZnH (x0,Thread.mk 0 0 (Op.mk 0 0) ([]:List Entry) ([]:List Kid) ([]:List Int) 0 0 0 0 0 0 0 0 0 0,{ x0 with batch:=y1,kids:=([]:List Kid) },0) with
  | some y2 => some (y2.snd)
  | none=>none
 | none=>none
def ZkT (x:Thread):Option Thread:=Zlb x
def Zia (x0:Wld) (x1:Wld) (x2:Wld) (x3:Int):Option ((Wld×Wld×Wld×Int)⊕((Wld×Wld))) := bif decide (x3<(↑x0.hist.length:Int)) then bif decide (0<=x3) then bif decide (x3<(↑x0.hist.length:Int)) then bif fewB (x2.hist.length+(x0.hist.getD x3.toNat Zbw::[]).length) then some (Sum.inl (x0,x1,{ x2 with hist:=x2.hist++x0.hist.getD x3.toNat Zbw::[] },Zaf .i64 (x3+1))) else none else none else none else some (Sum.inr (x1,x2))
def Zer (x:Wld×Wld×Wld×Int):Option ((Wld×Wld×Wld×Int)⊕((Wld×Wld))):=Zia x.1 x.2.1 x.2.2.1 x.2.2.2
def Zms (x:Wld×Wld×Wld×Int):Option (Wld×Wld):=Zay Zer x
def Zie (x0:Wld) (x1:Wld) (x2:Wld) (x3:Int):Option ((Wld×Wld×Wld×Int)⊕((Wld×Wld×Wld))) := bif decide (x3<(↑x0.t.length:Int)) then bif decide (0<=x3) then bif decide (x3<(↑x0.t.length:Int)) then match ZkT (x0.t.getD x3.toNat Zax) with
 | some y1 => bif fewB (x2.t.length+(y1::[]).length) then some (Sum.inl (x0,x1,{ x2 with t:=x2.t++y1::[] },Zaf .i64 (x3+1))) else none
 | none=>none else none else none else some (Sum.inr (x0,x1,x2))
def ZeO (x:Wld×Wld×Wld×Int):Option ((Wld×Wld×Wld×Int)⊕((Wld×Wld×Wld))):=Zie x.1 x.2.1 x.2.2.1 x.2.2.2
def ZmW (x:Wld×Wld×Wld×Int):Option (Wld×Wld×Wld):=Zay ZeO x
def Zj2 (x0:Wld):Option Wld := match ZjY x0.m with
 | some y1 => match ZkV x0.log with
  | some y2 => match ZmW (x0,Wld.mk (Config.mk 0 0 0 0 0 0 0 0 false 0 0 0) (Memo.mk ([]:List Int) ([]:List (List Entry))) ([]:List Thread) 0 0 (Tape.mk ([]:List Int) 0) ([]:List Mark) ([]:List Event),{ x0 with m:=y1,t:=([]:List Thread),log:=y2,hist:=([]:List Event) },0) with
   | some y3 => match Zms (y3.fst,y3.snd.fst,y3.snd.snd,0) with
    | some y4 => some (y4.snd)
    | none=>none
   | none=>none
  | none=>none
 | none=>none
def Zc3 (x:Wld):Option Wld:=Zj2 x
def ZtI (x0:Int) (x1:List Thread) (x2:Int) (x3:Int):Option ((Int×(List Thread)×Int×Int)⊕((Int))) := bif decide (x3<x2) then bif decide (0<=x3) then bif decide (x3<(↑x1.length:Int)) then match ZbO (x1.getD x3.toNat Zax) with
 | some y1 => bif y1 then some (Sum.inl (Zaf .i64 (x0+1),x1,x2,Zaf .i64 (x3+1))) else some (Sum.inl (x0,x1,x2,Zaf .i64 (x3+1)))
 | none=>none else none else none else some (Sum.inr x0)
def ZjS (x:Int×(List Thread)×Int×Int):Option ((Int×(List Thread)×Int×Int)⊕((Int))):=ZtI x.1 x.2.1 x.2.2.1 x.2.2.2
def ZtC (x:Int×(List Thread)×Int×Int):Option Int:=Zay ZjS x
def ZvE (x0:Wld):Option Int := match ZtC (0,x0.t,(↑x0.t.length:Int),0) with
 | some y1 => some y1
 | none=>none
def Zv7 (x:Wld):Option Int:=ZvE x
def Zti (x0:Wld) (x1:Int) (x2:Int):Option ((Wld×Int×Int)⊕((Int))) := bif decide (x2<(↑x0.t.length:Int)) then bif decide (0<=x2) then bif decide (x2<(↑x0.t.length:Int)) then match ZgB (x0.t.getD x2.toNat Zax) with
 | some y1 => bif y1 then some (Sum.inl (x0,Zaf .i64 (x1+1),Zaf .i64 (x2+1))) else some (Sum.inl (x0,x1,Zaf .i64 (x2+1)))
 | none=>none else none else none else some (Sum.inr x1)
def Zjl (x:Wld×Int×Int):Option ((Wld×Int×Int)⊕((Int))):=Zti x.1 x.2.1 x.2.2
def ZtP (x:Wld×Int×Int):Option Int:=Zay Zjl x
def ZvD (x0:Wld):Option Int := match ZtP (x0,0,0) with
 | some y1 => some y1
 | none=>none
def ZvS (x:Wld):Option Int:=ZvD x
def Zsh (x0:Config) (x1:Wld) (x2:Config) (x3:Int) (x4:Int) (x5:Int):Option ((Config×Wld×Config×Int×Int×Int)⊕((Config×Wld×Config×Int×Int)⊕(Bool))) := bif decide (x5<(↑x1.log.length:Int)) then bif decide (0<=x5) then bif decide (x5<(↑x1.log.length:Int)) then bif (x1.log.getD x5.toNat Za6).item != x3 then some (Sum.inl (x0,x1,x2,x3,x4,Zaf .i64 (x5+1))) else bif (x1.log.getD x5.toNat Za6).prior != x4 then some (Sum.inr (Sum.inr false)) else bif decide (x5>0) then bif decide (0<=Zaf .i64 (x5-1)) then bif decide (Zaf .i64 (x5-1)<(↑x1.log.length:Int)) then bif decide ((x1.log.getD x5.toNat Za6).step<(x1.log.getD (Zaf .i64 (x5-1)).toNat Za6).step) then some (Sum.inr (Sum.inr false)) else match ZcH ((x1.log.getD x5.toNat Za6).op,x4,x0.lo,x0.hi) with
  | some y1 => bif x0.bounded then bif decide (y1.fst<x0.lo) then some (Sum.inr (Sum.inr false)) else bif decide (y1.fst>x0.hi) then some (Sum.inr (Sum.inr false)) else some (Sum.inl (x0,x1,x2,x3,y1.fst,Zaf .i64 (x5+1))) else some (Sum.inl (x0,x1,x2,x3,y1.fst,Zaf .i64 (x5+1)))
  | none=>none else none else none else match ZcH ((x1.log.getD x5.toNat Za6).op,x4,x0.lo,x0.hi) with
 | some y1 => bif x0.bounded then bif decide (y1.fst<x0.lo) then some (Sum.inr (Sum.inr false)) else bif decide (y1.fst>x0.hi) then some (Sum.inr (Sum.inr false)) else some (Sum.inl (x0,x1,x2,x3,y1.fst,Zaf .i64 (x5+1))) else some (Sum.inl (x0,x1,x2,x3,y1.fst,Zaf .i64 (x5+1)))
 | none=>none else none else none else some (Sum.inr (Sum.inl (x0,x1,x2,x3,x4)))
def Zi4 (x:Config×Wld×Config×Int×Int×Int):Option ((Config×Wld×Config×Int×Int×Int)⊕((Config×Wld×Config×Int×Int)⊕(Bool))):=Zsh x.1 x.2.1 x.2.2.1 x.2.2.2.1 x.2.2.2.2.1 x.2.2.2.2.2
def Zta (x:Config×Wld×Config×Int×Int×Int):Option ((Config×Wld×Config×Int×Int)⊕(Bool)):=Zay Zi4 x
def Zsm (x0:Config) (x1:Wld) (x2:Config) (x3:Int):Option ((Config×Wld×Config×Int)⊕((Unit)⊕(Bool))) := bif decide (x3<x0.items) then match Zta (x0,x1,x2,x3,x0.init,0) with
 | some (.inl y1) => match ZdD (y1.snd.snd.fst,y1.snd.snd.snd.fst) with
  | some y2 => bif decide (0<=y2) then bif decide (y2<(↑y1.snd.fst.m.words.length:Int)) then bif y1.snd.fst.m.words.getD (Int.toNat y2) 0 != y1.snd.snd.snd.snd then some (Sum.inr (Sum.inr false)) else some (Sum.inl (y1.fst,y1.snd.fst,y1.snd.snd.fst,Zaf .i64 (y1.snd.snd.snd.fst+1))) else none else none
  | none=>none
 | some (.inr y2) => some (Sum.inr (Sum.inr y2))
 | none=>none else some (Sum.inr (Sum.inl ()))
def ZiV (x:Config×Wld×Config×Int):Option ((Config×Wld×Config×Int)⊕((Unit)⊕(Bool))):=Zsm x.1 x.2.1 x.2.2.1 x.2.2.2
def Zse (x:Config×Wld×Config×Int):Option ((Unit)⊕(Bool)):=Zay ZiV x
def Zu2 (x0:Config) (x1:Wld):Option Bool := match Zft x0 with
 | some y1 => bif (↑x1.m.words.length:Int) != y1 then some (false) else bif decide ((↑x1.log.length:Int)>1000) then some (false) else match Zse (x0,x1,x0,0) with
  | some (.inl y2) => some (true)
  | some (.inr y3) => some y3
  | none=>none
 | none=>none
def ZuG (x:Config×Wld):Option Bool:=Zu2 x.1 x.2
def Zqq (x0:Config) (x1:Wld) (x2:Int) (x3:List Mark) (x4:Int) (x5:Bool) (x6:Event) (x7:Int):Option ((Config×Wld×Int×(List Mark)×Int×Bool×Event×Int)⊕((Config×Wld×Int×(List Mark)×Int×Bool×Event)⊕(Bool))) := bif decide (x7<(↑x1.hist.length:Int)) then bif decide (0<=x7) then bif decide (x7<(↑x1.hist.length:Int)) then bif (x1.hist.getD x7.toNat Zbw).t != x2 then some (Sum.inl (x0,x1,x2,x3,x4,x5,x6,Zaf .i64 (x7+1))) else bif (x1.hist.getD x7.toNat Zbw).kind == 3 then some (Sum.inl (x0,x1,x2,x3,x4,x5,x6,Zaf .i64 (x7+1))) else bif ((x1.hist.getD x7.toNat Zbw).kind == 1) == x5 then some (Sum.inr (Sum.inr false)) else bif (x1.hist.getD x7.toNat Zbw).kind == 1 then some (Sum.inl (x0,x1,x2,x3,x4,true,x1.hist.getD x7.toNat Zbw,Zaf .i64 (x7+1))) else match ZcH ((x1.hist.getD x7.toNat Zbw).op,(x1.hist.getD x7.toNat Zbw).prior,x0.lo,x0.hi) with
 | some y1 => bif decide (x4>=(↑x3.length:Int)) then some (Sum.inr (Sum.inr false)) else bif decide (0<=x4) then bif decide (x4<(↑x3.length:Int)) then bif !((x3.getD x4.toNat Za6).op.tag == (x1.hist.getD x7.toNat Zbw).op.tag && ((x3.getD x4.toNat Za6).op.v == (x1.hist.getD x7.toNat Zbw).op.v && true)) then some (Sum.inr (Sum.inr false)) else bif decide (0<=x4) then bif decide (x4<(↑x3.length:Int)) then bif (x3.getD x4.toNat Za6).item != (x1.hist.getD x7.toNat Zbw).item then some (Sum.inr (Sum.inr false)) else bif decide (0<=x4) then bif decide (x4<(↑x3.length:Int)) then bif (x3.getD x4.toNat Za6).prior != (x1.hist.getD x7.toNat Zbw).prior then some (Sum.inr (Sum.inr false)) else bif !(x1.hist.getD x7.toNat Zbw).did == y1.snd then some (Sum.inr (Sum.inr false)) else bif !(x6.op.tag == (x1.hist.getD x7.toNat Zbw).op.tag && (x6.op.v == (x1.hist.getD x7.toNat Zbw).op.v && true)) then some (Sum.inr (Sum.inr false)) else bif x6.item != (x1.hist.getD x7.toNat Zbw).item then some (Sum.inr (Sum.inr false)) else bif decide (0<=x4) then bif decide (x4<(↑x3.length:Int)) then bif decide ((x3.getD x4.toNat Za6).step<=x6.step) then some (Sum.inr (Sum.inr false)) else bif decide (0<=x4) then bif decide (x4<(↑x3.length:Int)) then bif decide ((x3.getD x4.toNat Za6).step>(x1.hist.getD x7.toNat Zbw).step) then some (Sum.inr (Sum.inr false)) else some (Sum.inl (x0,x1,x2,x3,Zaf .i64 (x4+1),false,x6,Zaf .i64 (x7+1))) else none else none else none else none else none else none else none else none else none else none
 | none=>none else none else none else some (Sum.inr (Sum.inl (x0,x1,x2,x3,x4,x5,x6)))
def ZgI (x:Config×Wld×Int×(List Mark)×Int×Bool×Event×Int):Option ((Config×Wld×Int×(List Mark)×Int×Bool×Event×Int)⊕((Config×Wld×Int×(List Mark)×Int×Bool×Event)⊕(Bool))):=Zqq x.1 x.2.1 x.2.2.1 x.2.2.2.1 x.2.2.2.2.1 x.2.2.2.2.2.1 x.2.2.2.2.2.2.1 x.2.2.2.2.2.2.2
def Zqr (x:Config×Wld×Int×(List Mark)×Int×Bool×Event×Int):Option ((Config×Wld×Int×(List Mark)×Int×Bool×Event)⊕(Bool)):=Zay ZgI x
def Zre (x0:Config) (x1:Wld) (x2:Int) (x3:List Mark) (x4:Int):Option ((Config×Wld×Int×(List Mark)×Int)⊕((Config×Wld×Int×(List Mark)))) := bif decide (x4<(↑x1.log.length:Int)) then bif decide (0<=x4) then bif decide (x4<(↑x1.log.length:Int)) then bif (x1.log.getD x4.toNat Za6).t == x2 then bif decide (0<=x4) then bif decide (x4<(↑x1.log.length:Int)) then bif fewB (x3.length+(x1.log.getD x4.toNat Za6::[]).length) then some (Sum.inl (x0,x1,x2,x3++x1.log.getD x4.toNat Za6::[],Zaf .i64 (x4+1))) else none else none else none else some (Sum.inl (x0,x1,x2,x3,Zaf .i64 (x4+1))) else none else none else some (Sum.inr (x0,x1,x2,x3))
def Zhg (x:Config×Wld×Int×(List Mark)×Int):Option ((Config×Wld×Int×(List Mark)×Int)⊕((Config×Wld×Int×(List Mark)))):=Zre x.1 x.2.1 x.2.2.1 x.2.2.2.1 x.2.2.2.2
def Zrc (x:Config×Wld×Int×(List Mark)×Int):Option ((Config×Wld×Int×(List Mark))):=Zay Zhg x
def Zq9 (x0:Config) (x1:Wld) (x2:Int):Option ((Config×Wld×Int)⊕((Unit)⊕(Bool))) := bif decide (x2<x0.threads) then match Zrc (x0,x1,x2,([]:List Mark),0) with
 | some y1 => match Zqr (y1.fst,y1.snd.fst,y1.snd.snd.fst,y1.snd.snd.snd,0,false,Event.mk 0 0 0 (Op.mk 0 0) 0 false 0,0) with
  | some (.inl y2) => bif (↑(List.length y2.snd.snd.snd.fst):Int) != y2.snd.snd.snd.snd.fst then bif !y2.snd.snd.snd.snd.snd.fst then some (Sum.inr (Sum.inr false)) else bif (↑(List.length y2.snd.snd.snd.fst):Int) != Zaf .i64 (y2.snd.snd.snd.snd.fst+1) then some (Sum.inr (Sum.inr false)) else bif decide (0<=y2.snd.snd.snd.snd.fst) then bif decide (y2.snd.snd.snd.snd.fst<(↑(List.length y2.snd.snd.snd.fst):Int)) then bif !((List.getD y2.snd.snd.snd.fst (Int.toNat y2.snd.snd.snd.snd.fst) Za6).op.tag == y2.snd.snd.snd.snd.snd.snd.op.tag && ((List.getD y2.snd.snd.snd.fst (Int.toNat y2.snd.snd.snd.snd.fst) Za6).op.v == y2.snd.snd.snd.snd.snd.snd.op.v && true)) then some (Sum.inr (Sum.inr false)) else bif decide (0<=y2.snd.snd.snd.snd.fst) then bif decide (y2.snd.snd.snd.snd.fst<(↑(List.length y2.snd.snd.snd.fst):Int)) then bif (List.getD y2.snd.snd.snd.fst (Int.toNat y2.snd.snd.snd.snd.fst) Za6).item != y2.snd.snd.snd.snd.snd.snd.item then some (Sum.inr (Sum.inr false)) else bif decide (0<=y2.snd.snd.snd.snd.fst) then bif decide (y2.snd.snd.snd.snd.fst<(↑(List.length y2.snd.snd.snd.fst):Int)) then bif decide ((List.getD y2.snd.snd.snd.fst (Int.toNat y2.snd.snd.snd.snd.fst) Za6).step<=y2.snd.snd.snd.snd.snd.snd.step) then some (Sum.inr (Sum.inr false)) else some (Sum.inl (y2.fst,y2.snd.fst,Zaf .i64 (y2.snd.snd.fst+1))) else none else none else none else none else none else none else some (Sum.inl (y2.fst,y2.snd.fst,Zaf .i64 (y2.snd.snd.fst+1)))
  | some (.inr y3) => some (Sum.inr (Sum.inr y3))
  | none=>none
 | none=>none else some (Sum.inr (Sum.inl ()))
def Zhj (x:Config×Wld×Int):Option ((Config×Wld×Int)⊕((Unit)⊕(Bool))):=Zq9 x.1 x.2.1 x.2.2
def Zra (x:Config×Wld×Int):Option ((Unit)⊕(Bool)):=Zay Zhj x
def ZsG (x0:Config) (x1:Wld):Option Bool := bif decide ((↑x1.hist.length:Int)>1000) then some (false) else match Zra (x0,x1,0) with
 | some (.inl y1) => some (true)
 | some (.inr y2) => some y2
 | none=>none
def Zsz (x:Config×Wld):Option Bool:=ZsG x.1 x.2
def ZiF (x0:Turn):Option Turn := bif x0.c.backend == 2 then bif decide (x0.c.depth>0) then some ({ x0 with th:={ x0.th with phase:=4 } }) else bif x0.c.backend == 3 then bif decide (x0.c.layers>0) then some ({ x0 with th:={ x0.th with phase:=17,layer:=1 } }) else some ({ x0 with th:={ x0.th with phase:=2 } }) else some ({ x0 with th:={ x0.th with phase:=2 } }) else bif x0.c.backend == 3 then bif decide (x0.c.layers>0) then some ({ x0 with th:={ x0.th with phase:=17,layer:=1 } }) else some ({ x0 with th:={ x0.th with phase:=2 } }) else some ({ x0 with th:={ x0.th with phase:=2 } })
def Zgo (x:Turn):Option Turn:=ZiF x
def ZdG (x0:List Int):Option (List Int) := bif fewB ((0:Nat)+x0.length) then some (x0) else none
def ZbF (x:(List Int)):Option (List Int):=ZdG x
def ZfW (x0:List Int) (x1:Int):Option (Int×Int) := bif decide (x1<0) then some ((0,30)) else bif decide (x1>=(↑x0.length:Int)) then some ((0,30)) else bif decide (0<=x1) then bif decide (x1<(↑x0.length:Int)) then some ((x0.getD x1.toNat 0,0)) else none else none
def ZbN (x:(List Int)×Int):Option (Int×Int):=ZfW x.1 x.2
def ZgP (x0:Memo) (x1:Int) (x2:Int):Option (Memo×Int) := match ZbN (x0.words,x1) with
 | some y1 => bif y1.snd != 0 then some ((x0,y1.snd)) else match ZbF x0.words with
  | some y2 => bif decide (0<=x1) then bif decide (x1<(↑(List.length y2):Int)) then some (({ x0 with words:=List.set y2 x1.toNat x2 },y1.snd)) else none else none
  | none=>none
 | none=>none
def Zcp (x:Memo×Int×Int):Option (Memo×Int):=ZgP x.1 x.2.1 x.2.2
def ZlQ (x0:Config) (x1:Int):Option Int := bif decide (x1<0) then some ((-1:Int)) else bif decide (x1>=x0.threads) then some ((-1:Int)) else match ZcA x0 with
 | some y1 => some (Zaf .i64 (y1.lines+Zaf .i64 (2*x1)))
 | none=>none
def Zda (x:Config×Int):Option Int:=ZlQ x.1 x.2
def Zi3 (x0:Turn):Option (Turn×Bool) := bif x0.th.phase != 1 then some ((x0,false)) else match Zda (x0.c,x0.t) with
 | some y1 => match Zcp (x0.m,y1,0) with
  | some y2 => bif y2.snd != 0 then some ((x0,true)) else match Zgo { x0 with m:=y2.fst } with
   | some y3 => some ((y3,true))
   | none=>none
  | none=>none
 | none=>none
def ZiG (x:Turn):Option (Turn×Bool):=Zi3 x
def Zmg (x0:Config) (x1:Int) (x2:Int):Option Int := bif decide (x1<0) then some ((-1:Int)) else bif decide (x1>=x0.items) then some ((-1:Int)) else match Zf5 x0 with
 | some y1 => bif decide (x2<1) then some ((-1:Int)) else bif decide (x2>=Zaf .i64 (1+y1)) then some ((-1:Int)) else match ZcA x0 with
  | some y2 => some (Zaf .i64 (Zaf .i64 (x1*y2.block)+x2))
  | none=>none
 | none=>none
def Zev (x:Config×Int×Int):Option Int:=Zmg x.1 x.2.1 x.2.2
def Zds (x0:Said):Option Int :=
 some (Zaf .i64 (Zaf .i64 (8*Zaf .i64 (x0.n+1))+x0.kind))
def Zb0 (x:Said):Option Int:=Zds x
def Zm0 (x0:Int):Option Int := match Zb0 (Said.mk 1 x0) with
 | some y1 => some y1
 | none=>none
def Zfq (x:Int):Option Int:=Zm0 x
def ZoG (x0:Int):Option Int :=
 some ((if 0>x0 then 0 else x0).fdiv (2 ^ min (Int.toNat 1) IntKind.i64.bits))
def ZjC (x:Int):Option Int:=ZoG x
def Zm8 (x0:Turn):Option Turn := bif decide (x0.th.stop>0) then bif decide (x0.th.at_>=0) then bif decide (x0.th.at_<(↑x0.th.held.length:Int)) then some ({ x0 with th:={ x0.th with phase:=7 } }) else some ({ x0 with th:={ x0.th with phase:=11 } }) else some ({ x0 with th:={ x0.th with phase:=11 } }) else bif decide (x0.th.at_>=0) then bif decide (x0.th.at_<(↑x0.th.held.length:Int)) then some ({ x0 with th:={ x0.th with phase:=7 } }) else some ({ x0 with th:={ x0.th with phase:=2 } }) else some ({ x0 with th:={ x0.th with phase:=2 } })
def Zgq (x:Turn):Option Turn:=Zm8 x
def ZlV (x0:Turn):Option Turn := match Zgq { x0 with th:={ x0.th with at_:=0 } } with
 | some y1 => some y1
 | none=>none
def ZeB (x:Turn):Option Turn:=ZlV x
def ZkX (x0:Turn):Option Turn := match ZbF x0.th.held with
 | some y1 => bif fewB (List.length y1+(x0.th.node::[]).length) then match ZjC x0.th.node with
  | some y2 => bif decide (y2>0) then some ({ x0 with th:={ x0.th with held:=y1++x0.th.node::[],node:=y2 } }) else match ZeB { x0 with th:={ x0.th with held:=y1++x0.th.node::[],node:=y2 } } with
   | some y3 => some y3
   | none=>none
  | none=>none else none
 | none=>none
def ZkK (x:Turn):Option Turn:=ZkX x
def Zio (x0:Memo) (x1:Int) (x2:Int) (x3:Int):Option (Memo×Bool×Int) := match ZbN (x0.words,x1) with
 | some y1 => bif y1.snd != 0 then some ((x0,false,y1.snd)) else bif y1.fst == x2 then match ZbF x0.words with
  | some y2 => bif decide (0<=x1) then bif decide (x1<(↑(List.length y2):Int)) then some (({ x0 with words:=List.set y2 x1.toNat x3 },y1.fst == x2,y1.snd)) else none else none
  | none=>none else some ((x0,y1.fst == x2,y1.snd))
 | none=>none
def ZcV (x:Memo×Int×Int×Int):Option (Memo×Bool×Int):=Zio x.1 x.2.1 x.2.2.1 x.2.2.2
def Zgb (x0:Memo) (x1:Int):Option (Int×Int) := match ZbN (x0.words,x1) with
 | some y1 => some y1
 | none=>none
def Zcq (x:Memo×Int):Option (Int×Int):=Zgb x.1 x.2
def Zlk (x0:Turn):Option Bool := bif decide (0<x0.th.until_) then some (decide (x0.th.until_<=x0.now)) else some (false)
def ZdX (x:Turn):Option Bool:=Zlk x
def Zqk (x0:Int):Option Said := bif Zaf .i64 (↑(BitVec.ofInt IntKind.i64.bits x0 &&& BitVec.ofInt IntKind.i64.bits 7).toNat:Int) == 5 && (Zaf .i64 (x0.fdiv (2 ^ min (Int.toNat 3) IntKind.i64.bits)-1) == (-1:Int) && true) then some (Said.mk (Zaf .i64 (↑(BitVec.ofInt IntKind.i64.bits x0 &&& BitVec.ofInt IntKind.i64.bits 7).toNat:Int)) (Zaf .i64 (x0.fdiv (2 ^ min (Int.toNat 3) IntKind.i64.bits)-1))) else bif decide (Zaf .i64 (↑(BitVec.ofInt IntKind.i64.bits x0 &&& BitVec.ofInt IntKind.i64.bits 7).toNat:Int)>=1) then bif decide (Zaf .i64 (↑(BitVec.ofInt IntKind.i64.bits x0 &&& BitVec.ofInt IntKind.i64.bits 7).toNat:Int)<=3) then bif decide (Zaf .i64 (x0.fdiv (2 ^ min (Int.toNat 3) IntKind.i64.bits)-1)>=0) then bif decide (Zaf .i64 (x0.fdiv (2 ^ min (Int.toNat 3) IntKind.i64.bits)-1)<16) then some (Said.mk (Zaf .i64 (↑(BitVec.ofInt IntKind.i64.bits x0 &&& BitVec.ofInt IntKind.i64.bits 7).toNat:Int)) (Zaf .i64 (x0.fdiv (2 ^ min (Int.toNat 3) IntKind.i64.bits)-1))) else bif Zaf .i64 (↑(BitVec.ofInt IntKind.i64.bits x0 &&& BitVec.ofInt IntKind.i64.bits 7).toNat:Int) == 4 then bif decide ((Zaf .i64 (x0.fdiv (2 ^ min (Int.toNat 3) IntKind.i64.bits)-1)).fdiv (2 ^ min (Int.toNat 4) IntKind.i64.bits)>=0) then bif decide ((Zaf .i64 (x0.fdiv (2 ^ min (Int.toNat 3) IntKind.i64.bits)-1)).fdiv (2 ^ min (Int.toNat 4) IntKind.i64.bits)<4) then bif decide (Zaf .i64 (↑(BitVec.ofInt IntKind.i64.bits (Zaf .i64 (x0.fdiv (2 ^ min (Int.toNat 3) IntKind.i64.bits)-1)) &&& BitVec.ofInt IntKind.i64.bits 15).toNat:Int)>=1) then bif decide (Zaf .i64 (↑(BitVec.ofInt IntKind.i64.bits (Zaf .i64 (x0.fdiv (2 ^ min (Int.toNat 3) IntKind.i64.bits)-1)) &&& BitVec.ofInt IntKind.i64.bits 15).toNat:Int)<=3) then some (Said.mk (Zaf .i64 (↑(BitVec.ofInt IntKind.i64.bits x0 &&& BitVec.ofInt IntKind.i64.bits 7).toNat:Int)) (Zaf .i64 (x0.fdiv (2 ^ min (Int.toNat 3) IntKind.i64.bits)-1))) else some (Said.mk 0 0) else some (Said.mk 0 0) else some (Said.mk 0 0) else some (Said.mk 0 0) else some (Said.mk 0 0) else bif Zaf .i64 (↑(BitVec.ofInt IntKind.i64.bits x0 &&& BitVec.ofInt IntKind.i64.bits 7).toNat:Int) == 4 then bif decide ((Zaf .i64 (x0.fdiv (2 ^ min (Int.toNat 3) IntKind.i64.bits)-1)).fdiv (2 ^ min (Int.toNat 4) IntKind.i64.bits)>=0) then bif decide ((Zaf .i64 (x0.fdiv (2 ^ min (Int.toNat 3) IntKind.i64.bits)-1)).fdiv (2 ^ min (Int.toNat 4) IntKind.i64.bits)<4) then bif decide (Zaf .i64 (↑(BitVec.ofInt IntKind.i64.bits (Zaf .i64 (x0.fdiv (2 ^ min (Int.toNat 3) IntKind.i64.bits)-1)) &&& BitVec.ofInt IntKind.i64.bits 15).toNat:Int)>=1) then bif decide (Zaf .i64 (↑(BitVec.ofInt IntKind.i64.bits (Zaf .i64 (x0.fdiv (2 ^ min (Int.toNat 3) IntKind.i64.bits)-1)) &&& BitVec.ofInt IntKind.i64.bits 15).toNat:Int)<=3) then some (Said.mk (Zaf .i64 (↑(BitVec.ofInt IntKind.i64.bits x0 &&& BitVec.ofInt IntKind.i64.bits 7).toNat:Int)) (Zaf .i64 (x0.fdiv (2 ^ min (Int.toNat 3) IntKind.i64.bits)-1))) else some (Said.mk 0 0) else some (Said.mk 0 0) else some (Said.mk 0 0) else some (Said.mk 0 0) else some (Said.mk 0 0) else bif Zaf .i64 (↑(BitVec.ofInt IntKind.i64.bits x0 &&& BitVec.ofInt IntKind.i64.bits 7).toNat:Int) == 4 then bif decide ((Zaf .i64 (x0.fdiv (2 ^ min (Int.toNat 3) IntKind.i64.bits)-1)).fdiv (2 ^ min (Int.toNat 4) IntKind.i64.bits)>=0) then bif decide ((Zaf .i64 (x0.fdiv (2 ^ min (Int.toNat 3) IntKind.i64.bits)-1)).fdiv (2 ^ min (Int.toNat 4) IntKind.i64.bits)<4) then bif decide (Zaf .i64 (↑(BitVec.ofInt IntKind.i64.bits (Zaf .i64 (x0.fdiv (2 ^ min (Int.toNat 3) IntKind.i64.bits)-1)) &&& BitVec.ofInt IntKind.i64.bits 15).toNat:Int)>=1) then bif decide (Zaf .i64 (↑(BitVec.ofInt IntKind.i64.bits (Zaf .i64 (x0.fdiv (2 ^ min (Int.toNat 3) IntKind.i64.bits)-1)) &&& BitVec.ofInt IntKind.i64.bits 15).toNat:Int)<=3) then some (Said.mk (Zaf .i64 (↑(BitVec.ofInt IntKind.i64.bits x0 &&& BitVec.ofInt IntKind.i64.bits 7).toNat:Int)) (Zaf .i64 (x0.fdiv (2 ^ min (Int.toNat 3) IntKind.i64.bits)-1))) else some (Said.mk 0 0) else some (Said.mk 0 0) else some (Said.mk 0 0) else some (Said.mk 0 0) else some (Said.mk 0 0) else bif Zaf .i64 (↑(BitVec.ofInt IntKind.i64.bits x0 &&& BitVec.ofInt IntKind.i64.bits 7).toNat:Int) == 4 then bif decide ((Zaf .i64 (x0.fdiv (2 ^ min (Int.toNat 3) IntKind.i64.bits)-1)).fdiv (2 ^ min (Int.toNat 4) IntKind.i64.bits)>=0) then bif decide ((Zaf .i64 (x0.fdiv (2 ^ min (Int.toNat 3) IntKind.i64.bits)-1)).fdiv (2 ^ min (Int.toNat 4) IntKind.i64.bits)<4) then bif decide (Zaf .i64 (↑(BitVec.ofInt IntKind.i64.bits (Zaf .i64 (x0.fdiv (2 ^ min (Int.toNat 3) IntKind.i64.bits)-1)) &&& BitVec.ofInt IntKind.i64.bits 15).toNat:Int)>=1) then bif decide (Zaf .i64 (↑(BitVec.ofInt IntKind.i64.bits (Zaf .i64 (x0.fdiv (2 ^ min (Int.toNat 3) IntKind.i64.bits)-1)) &&& BitVec.ofInt IntKind.i64.bits 15).toNat:Int)<=3) then some (Said.mk (Zaf .i64 (↑(BitVec.ofInt IntKind.i64.bits x0 &&& BitVec.ofInt IntKind.i64.bits 7).toNat:Int)) (Zaf .i64 (x0.fdiv (2 ^ min (Int.toNat 3) IntKind.i64.bits)-1))) else some (Said.mk 0 0) else some (Said.mk 0 0) else some (Said.mk 0 0) else some (Said.mk 0 0) else some (Said.mk 0 0)
def Zkt (x:Int):Option Said:=Zqk x
def Zob (x0:Int):Option Int := match Zkt x0 with
 | some y1 => bif x0 == 0 then some (y1.kind) else bif !(y1.kind == 0 && (y1.n == 0 && true)) then some (y1.kind) else some ((-1:Int))
 | none=>none
def ZhE (x:Int):Option Int:=Zob x
def ZmO (x0:Turn) (x1:Int):Option Turn := match ZhE x1 with
 | some y1 => bif y1 == 1 then some ({ x0 with th:={ x0.th with phase:=6,x:=x1 } }) else bif y1 == 0 then some ({ x0 with th:={ x0.th with phase:=5 } }) else match ZdX x0 with
  | some y2 => bif y2 then match ZeB x0 with
   | some y3 => some y3
   | none=>none else some (x0)
  | none=>none
 | none=>none
def Zmt (x:Turn×Int):Option Turn:=ZmO x.1 x.2
def ZkD (x0:Int):Option Int := match Zb0 (Said.mk 2 x0) with
 | some y1 => some y1
 | none=>none
def ZkJ (x:Int):Option Int:=ZkD x
def Zj0 (x0:Turn):Option Turn := match ZeB { x0 with th:={ x0.th with stop:=x0.th.node } } with
 | some y1 => some y1
 | none=>none
def Zj6 (x:Turn):Option Turn:=Zj0 x
def ZmK (x0:Turn):Option (Turn×Bool) := match Zev (x0.c,x0.th.item,x0.th.node) with
 | some y1 => match Zfq x0.t with
  | some y2 => bif x0.th.phase == 4 then match Zcq (x0.m,y1) with
   | some y3 => bif y3.snd != 0 then some ((x0,true)) else match Zmt (x0,y3.fst) with
     | some y4 => some ((y4,true))
     | none=>none
   | none=>none else bif x0.th.phase == 6 then match ZkJ x0.t with
    | some y3 => match ZcV (x0.m,y1,x0.th.x,y3) with
     | some y4 => bif y4.snd.snd != 0 then some ((x0,true)) else bif y4.snd.fst then match Zj6 { x0 with m:=y4.fst,th:={ x0.th with phase:=4 } } with
      | some y5 => some ((y5,true))
      | none=>none else some (({ x0 with m:=y4.fst,th:={ x0.th with phase:=4 } },true))
     | none=>none
    | none=>none else bif x0.th.phase == 5 then match ZcV (x0.m,y1,0,y2) with
     | some y3 => bif y3.snd.snd != 0 then some ((x0,true)) else bif y3.snd.fst then match ZkK { x0 with m:=y3.fst,th:={ x0.th with phase:=4 } } with
      | some y4 => some ((y4,true))
      | none=>none else some (({ x0 with m:=y3.fst,th:={ x0.th with phase:=4 } },true))
     | none=>none else some ((x0,false))
  | none=>none
 | none=>none
def Zmz (x:Turn):Option (Turn×Bool):=ZmK x
def Zlh (x0:Turn):Option Int := bif decide (x0.th.at_<0) then some ((-1:Int)) else bif decide (x0.th.at_>=(↑x0.th.held.length:Int)) then some ((-1:Int)) else bif decide (0<=x0.th.at_) then bif decide (x0.th.at_<(↑x0.th.held.length:Int)) then match Zev (x0.c,x0.th.item,x0.th.held.getD x0.th.at_.toNat 0) with
 | some y1 => some y1
 | none=>none else none else none
def Zf0 (x:Turn):Option Int:=Zlh x
def Zpa (x0:Int):Option Int := match Zkt x0 with
 | some y1 => bif decide (y1.kind>=1) then bif decide (y1.kind<=3) then some (y1.n) else some ((-1:Int)) else some ((-1:Int))
 | none=>none
def Zo5 (x:Int):Option Int:=Zpa x
def ZpH (x0:Turn):Option Turn := match Zf0 x0 with
 | some y1 => match Zcq (x0.m,y1) with
  | some y2 => bif y2.snd != 0 then some (x0) else match Zfq x0.t with
   | some y3 => bif y2.fst == y3 then some ({ x0 with th:={ x0.th with phase:=8 } }) else match ZhE y2.fst with
    | some y4 => bif y4 == 3 then match Zo5 y2.fst with
     | some y5 => some ({ x0 with th:={ x0.th with phase:=9,who:=y5 } })
     | none=>none else some (x0)
    | none=>none
   | none=>none
  | none=>none
 | none=>none
def Zlg (x:Turn):Option Turn:=ZpH x
def ZkZ (x0:Turn):Option Turn := match Zgq { x0 with th:={ x0.th with at_:=Zaf .i64 (x0.th.at_+1) } } with
 | some y1 => some y1
 | none=>none
def ZhN (x:Turn):Option Turn:=ZkZ x
def ZpJ (x0:Turn):Option Turn := match Zf0 x0 with
 | some y1 => match Zfq x0.t with
  | some y2 => match ZcV (x0.m,y1,y2,0) with
   | some y3 => bif !y3.snd.fst then bif y3.snd.snd != 0 then some (x0) else some ({ x0 with m:=y3.fst,th:={ x0.th with phase:=7 } }) else bif y3.snd.snd != 0 then some (x0) else match ZhN { x0 with m:=y3.fst } with
    | some y4 => some y4
    | none=>none
   | none=>none
  | none=>none
 | none=>none
def ZkA (x:Turn):Option Turn:=ZpJ x
def ZcW (x0:List Entry):Option (List Entry) := bif fewB ((0:Nat)+x0.length) then some (x0) else none
def Zbx (x:(List Entry)):Option (List Entry):=ZcW x
def Zcv (x0:List (List Entry)) (x1:Int):Option ((List Entry)×Int) := bif decide (x1<0) then some ((([]:List Entry),30)) else bif decide (x1>=(↑x0.length:Int)) then some ((([]:List Entry),30)) else bif decide (0<=x1) then bif decide (x1<(↑x0.length:Int)) then some ((x0.getD x1.toNat ([]:List Entry),0)) else none else none
def Zcx (x:(List (List Entry))×Int):Option ((List Entry)×Int):=Zcv x.1 x.2
def ZiY (x0:Memo) (x1:Int):Option ((List Entry)×Int) := match Zcx (x0.boxes,x1) with
 | some y1 => match Zbx y1.fst with
  | some y2 => some ((y2,y1.snd))
  | none=>none
 | none=>none
def ZiB (x:Memo×Int):Option ((List Entry)×Int):=ZiY x.1 x.2
def ZeM (x0:Unit) (x1:Int):Option (List Kid) := bif decide (x1<0) then none else bif decide (Zaf .i64 (x1-Zaf .i64 (0-0))>0) then bif decide (0<=Zaf .i64 (x1-Zaf .i64 (0-0))) then bif decide (Zaf .i64 (x1-Zaf .i64 (0-0))<=ZbI) then some (List.take (Int.toNat 0) (List.replicate (Zaf .i64 (x1-Zaf .i64 (0-0))).toNat (Kid.mk 0 0))) else none else none else some (([]:List Kid))
def ZeK (x:Unit×Int):Option (List Kid):=ZeM x.1 x.2
def ZcC (x0:List Kid) (x1:List (List Kid)) (x2:Int) (x3:Int):Option (((List Kid)×(List (List Kid))×Int×Int)⊕(((List Kid)))) := bif decide (x3<x2) then bif decide (0<=x3) then bif decide (x3<(↑x1.length:Int)) then bif fewB (x0.length+List.length (x1.getD x3.toNat ([]:List Kid))) then some (Sum.inl (x0++x1.getD x3.toNat ([]:List Kid),x1,x2,Zaf .i64 (x3+1))) else none else none else none else some (Sum.inr x0)
def ZbS (x:(List Kid)×(List (List Kid))×Int×Int):Option (((List Kid)×(List (List Kid))×Int×Int)⊕(((List Kid)))):=ZcC x.1 x.2.1 x.2.2.1 x.2.2.2
def Zdl (x:(List Kid)×(List (List Kid))×Int×Int):Option (((List Kid))):=Zay ZbS x
def ZcK (x0:List (List Kid)) (x1:Int) (x2:List (List Kid)) (x3:Int) (x4:Int):Option (((List (List Kid))×Int×(List (List Kid))×Int×Int)⊕(((List (List Kid))×Int))) := bif decide (x4<x3) then bif decide (0<=x4) then bif decide (x4<(↑x2.length:Int)) then bif decide (Zaf .i64 (x1+(↑(List.length (x2.getD x4.toNat ([]:List Kid))):Int))<0) then none else some (Sum.inl (x0,Zaf .i64 (x1+(↑(List.length (x2.getD x4.toNat ([]:List Kid))):Int)),x2,x3,Zaf .i64 (x4+1))) else none else none else some (Sum.inr (x0,x1))
def ZbW (x:(List (List Kid))×Int×(List (List Kid))×Int×Int):Option (((List (List Kid))×Int×(List (List Kid))×Int×Int)⊕(((List (List Kid))×Int))):=ZcK x.1 x.2.1 x.2.2.1 x.2.2.2.1 x.2.2.2.2
def Zdo (x:(List (List Kid))×Int×(List (List Kid))×Int×Int):Option (((List (List Kid))×Int)):=Zay ZbW x
def Zd4 (x0:List (List Kid)):Option (List Kid) := match Zdo (x0,0,x0,(↑x0.length:Int),0) with
 | some y1 => match ZeK ((),y1.snd) with
  | some y2 => match Zdl (y2,y1.fst,(↑(List.length y1.fst):Int),0) with
   | some y3 => some y3
   | none=>none
  | none=>none
 | none=>none
def Zd2 (x:(List (List Kid))):Option (List Kid):=Zd4 x
def Zeg (x0:Unit) (x1:Int):Option (List Entry) := bif decide (x1<0) then none else bif decide (Zaf .i64 (x1-Zaf .i64 (0-0))>0) then bif decide (0<=Zaf .i64 (x1-Zaf .i64 (0-0))) then bif decide (Zaf .i64 (x1-Zaf .i64 (0-0))<=ZbI) then some (List.take (Int.toNat 0) (List.replicate (Zaf .i64 (x1-Zaf .i64 (0-0))).toNat (Entry.mk 0 (Op.mk 0 0)))) else none else none else some (([]:List Entry))
def Zee (x:Unit×Int):Option (List Entry):=Zeg x.1 x.2
def Zcz (x0:List Entry) (x1:List (List Entry)) (x2:Int) (x3:Int):Option (((List Entry)×(List (List Entry))×Int×Int)⊕(((List Entry)))) := bif decide (x3<x2) then bif decide (0<=x3) then bif decide (x3<(↑x1.length:Int)) then bif fewB (x0.length+List.length (x1.getD x3.toNat ([]:List Entry))) then some (Sum.inl (x0++x1.getD x3.toNat ([]:List Entry),x1,x2,Zaf .i64 (x3+1))) else none else none else none else some (Sum.inr x0)
def ZbM (x:(List Entry)×(List (List Entry))×Int×Int):Option (((List Entry)×(List (List Entry))×Int×Int)⊕(((List Entry)))):=Zcz x.1 x.2.1 x.2.2.1 x.2.2.2
def Zc9 (x:(List Entry)×(List (List Entry))×Int×Int):Option (((List Entry))):=Zay ZbM x
def ZcD (x0:List (List Entry)) (x1:Int) (x2:List (List Entry)) (x3:Int) (x4:Int):Option (((List (List Entry))×Int×(List (List Entry))×Int×Int)⊕(((List (List Entry))×Int))) := bif decide (x4<x3) then bif decide (0<=x4) then bif decide (x4<(↑x2.length:Int)) then bif decide (Zaf .i64 (x1+(↑(List.length (x2.getD x4.toNat ([]:List Entry))):Int))<0) then none else some (Sum.inl (x0,Zaf .i64 (x1+(↑(List.length (x2.getD x4.toNat ([]:List Entry))):Int)),x2,x3,Zaf .i64 (x4+1))) else none else none else some (Sum.inr (x0,x1))
def ZbQ (x:(List (List Entry))×Int×(List (List Entry))×Int×Int):Option (((List (List Entry))×Int×(List (List Entry))×Int×Int)⊕(((List (List Entry))×Int))):=ZcD x.1 x.2.1 x.2.2.1 x.2.2.2.1 x.2.2.2.2
def Zdk (x:(List (List Entry))×Int×(List (List Entry))×Int×Int):Option (((List (List Entry))×Int)):=Zay ZbQ x
def ZdF (x0:List (List Entry)):Option (List Entry) := match Zdk (x0,0,x0,(↑x0.length:Int),0) with
 | some y1 => match Zee ((),y1.snd) with
  | some y2 => match Zc9 (y2,y1.fst,(↑(List.length y1.fst):Int),0) with
   | some y3 => some y3
   | none=>none
  | none=>none
 | none=>none
def ZdI (x:(List (List Entry))):Option (List Entry):=ZdF x
def Zqv (x0:List (List Entry)):Option (List Entry) := match ZdI x0 with
 | some y1 => some y1
 | none=>none
def Zmo (x:(List (List Entry))):Option (List Entry):=Zqv x
def Zli (x0:Turn) (x1:Int) (x2:List Entry):Option Turn := match Zd2 (x0.th.kids::(Kid.mk x1 (↑x0.th.batch.length:Int)::[])::[]) with
 | some y1 => match Zmo (x0.th.batch::x2::[]) with
  | some y2 => some ({ x0 with th:={ x0.th with batch:=y2,kids:=y1 } })
  | none=>none
 | none=>none
def ZfT (x:Turn×Int×(List Entry)):Option Turn:=Zli x.1 x.2.1 x.2.2
def Zl0 (x0:Turn):Option Turn := match ZiB (x0.m,x0.th.who) with
 | some y1 => bif y1.snd != 0 then some (x0) else match ZfT (x0,x0.th.who,y1.fst) with
  | some y2 => some ({ y2 with th:={ y2.th with phase:=10 } })
  | none=>none
 | none=>none
def Zh0 (x:Turn):Option Turn:=Zl0 x
def ZpP (x0:Turn):Option Turn := match Zf0 x0 with
 | some y1 => match Zcp (x0.m,y1,0) with
  | some y2 => bif y2.snd != 0 then some (x0) else match ZhN { x0 with m:=y2.fst } with
   | some y3 => some y3
   | none=>none
  | none=>none
 | none=>none
def Zle (x:Turn):Option Turn:=ZpP x
def ZdC (x0:List (List Entry)):Option ((List (List Entry))) := bif fewB ((0:Nat)+x0.length) then some (x0) else none
def Zdz (x:(List (List Entry))):Option ((List (List Entry))):=ZdC x
def Zpr (x0:Memo) (x1:Int) (x2:List Entry):Option (Memo×Int) := match Zcx (x0.boxes,x1) with
 | some y1 => bif y1.snd != 0 then some ((x0,y1.snd)) else match Zdz x0.boxes with
  | some y2 => match Zbx x2 with
   | some y3 => bif decide (0<=x1) then bif decide (x1<(↑(List.length y2):Int)) then some (({ x0 with boxes:=List.set y2 x1.toNat y3 },0)) else none else none
   | none=>none
  | none=>none
 | none=>none
def ZiZ (x:Memo×Int×(List Entry)):Option (Memo×Int):=Zpr x.1 x.2.1 x.2.2
def Zma (x0:Turn):Option Turn := match ZiZ (x0.m,x0.t,x0.th.batch) with
 | some y1 => bif y1.snd != 0 then some (x0) else some ({ x0 with m:=y1.fst,th:={ x0.th with phase:=12 } })
 | none=>none
def Zid (x:Turn):Option Turn:=Zma x
def Zh3 (x0:Int):Option Int := match Zb0 (Said.mk 3 x0) with
 | some y1 => some y1
 | none=>none
def Zib (x:Int):Option Int:=Zh3 x
def Zm4 (x0:Turn):Option Turn := match Zev (x0.c,x0.th.item,x0.th.stop) with
 | some y1 => match Zib x0.t with
  | some y2 => match Zcp (x0.m,y1,y2) with
   | some y3 => bif y3.snd != 0 then some (x0) else some ({ x0 with m:=y3.fst,th:={ x0.th with phase:=13 } })
   | none=>none
  | none=>none
 | none=>none
def Zh6 (x:Turn):Option Turn:=Zm4 x
def Zlf (x0:Turn):Option (Turn×Bool) := bif x0.th.phase == 7 then match Zlg x0 with
 | some y1 => some ((y1,true))
 | none=>none else bif x0.th.phase == 8 then match ZkA x0 with
  | some y1 => some ((y1,true))
  | none=>none else bif x0.th.phase == 9 then match Zh0 x0 with
   | some y1 => some ((y1,true))
   | none=>none else bif x0.th.phase == 10 then match Zle x0 with
    | some y1 => some ((y1,true))
    | none=>none else bif x0.th.phase == 11 then match Zid x0 with
     | some y1 => some ((y1,true))
     | none=>none else bif x0.th.phase == 12 then match Zh6 x0 with
      | some y1 => some ((y1,true))
      | none=>none else some ((x0,false))
def ZkL (x:Turn):Option (Turn×Bool):=Zlf x
def ZrO (x0:Config) (x1:Int×Int×Int×Int×Int×Int×Int×Int×Int×Int×Int×Int×Int×Int×Int×Int×Int×Int×Int×Int×Int×Int×Int×Int) (x2:Int):Option ((Config×(Int×Int×Int×Int×Int×Int×Int×Int×Int×Int×Int×Int×Int×Int×Int×Int×Int×Int×Int×Int×Int×Int×Int×Int)×Int)⊕((Config)⊕(Int))) := bif decide (x2<8) then bif decide (0<=x2) then bif decide (x2<(↑(8:Nat):Int)) then bif decide (x2=(↑(0:Nat):Int)) then bif decide (x1.fst<x1.snd.fst) then some (Sum.inr (Sum.inr (Zaf .i64 (50+x2)))) else bif decide (x1.fst>x1.snd.snd.fst) then some (Sum.inr (Sum.inr (Zaf .i64 (50+x2)))) else some (Sum.inl (x0,x1,Zaf .i64 (x2+1))) else bif decide (x2=(↑((0:Nat)+(1:Nat)):Int)) then bif decide (x1.snd.snd.snd.fst<x1.snd.snd.snd.snd.fst) then some (Sum.inr (Sum.inr (Zaf .i64 (50+x2)))) else bif decide (x1.snd.snd.snd.fst>x1.snd.snd.snd.snd.snd.fst) then some (Sum.inr (Sum.inr (Zaf .i64 (50+x2)))) else some (Sum.inl (x0,x1,Zaf .i64 (x2+1))) else bif decide (x2=(↑((0:Nat)+(1:Nat)+(1:Nat)):Int)) then bif decide (x1.snd.snd.snd.snd.snd.snd.fst<x1.snd.snd.snd.snd.snd.snd.snd.fst) then some (Sum.inr (Sum.inr (Zaf .i64 (50+x2)))) else bif decide (x1.snd.snd.snd.snd.snd.snd.fst>x1.snd.snd.snd.snd.snd.snd.snd.snd.fst) then some (Sum.inr (Sum.inr (Zaf .i64 (50+x2)))) else some (Sum.inl (x0,x1,Zaf .i64 (x2+1))) else bif decide (x2=(↑((0:Nat)+(1:Nat)+(1:Nat)+(1:Nat)):Int)) then bif decide (x1.snd.snd.snd.snd.snd.snd.snd.snd.snd.fst<x1.snd.snd.snd.snd.snd.snd.snd.snd.snd.snd.fst) then some (Sum.inr (Sum.inr (Zaf .i64 (50+x2)))) else bif decide (x1.snd.snd.snd.snd.snd.snd.snd.snd.snd.fst>x1.snd.snd.snd.snd.snd.snd.snd.snd.snd.snd.snd.fst) then some (Sum.inr (Sum.inr (Zaf .i64 (50+x2)))) else some (Sum.inl (x0,x1,Zaf .i64 (x2+1))) else bif decide (x2=(↑((0:Nat)+(1:Nat)+(1:Nat)+(1:Nat)+(1:Nat)):Int)) then bif decide (x1.snd.snd.snd.snd.snd.snd.snd.snd.snd.snd.snd.snd.fst<x1.snd.snd.snd.snd.snd.snd.snd.snd.snd.snd.snd.snd.snd.fst) then some (Sum.inr (Sum.inr (Zaf .i64 (50+x2)))) else bif decide (x1.snd.snd.snd.snd.snd.snd.snd.snd.snd.snd.snd.snd.fst>x1.snd.snd.snd.snd.snd.snd.snd.snd.snd.snd.snd.snd.snd.snd.fst) then some (Sum.inr (Sum.inr (Zaf .i64 (50+x2)))) else some (Sum.inl (x0,x1,Zaf .i64 (x2+1))) else bif decide (x2=(↑((0:Nat)+(1:Nat)+(1:Nat)+(1:Nat)+(1:Nat)+(1:Nat)):Int)) then bif decide (x1.snd.snd.snd.snd.snd.snd.snd.snd.snd.snd.snd.snd.snd.snd.snd.fst<x1.snd.snd.snd.snd.snd.snd.snd.snd.snd.snd.snd.snd.snd.snd.snd.snd.fst) then some (Sum.inr (Sum.inr (Zaf .i64 (50+x2)))) else bif decide (x1.snd.snd.snd.snd.snd.snd.snd.snd.snd.snd.snd.snd.snd.snd.snd.fst>x1.snd.snd.snd.snd.snd.snd.snd.snd.snd.snd.snd.snd.snd.snd.snd.snd.snd.fst) then some (Sum.inr (Sum.inr (Zaf .i64 (50+x2)))) else some (Sum.inl (x0,x1,Zaf .i64 (x2+1))) else bif decide (x2=(↑((0:Nat)+(1:Nat)+(1:Nat)+(1:Nat)+(1:Nat)+(1:Nat)+(1:Nat)):Int)) then bif decide (x1.snd.snd.snd.snd.snd.snd.snd.snd.snd.snd.snd.snd.snd.snd.snd.snd.snd.snd.fst<x1.snd.snd.snd.snd.snd.snd.snd.snd.snd.snd.snd.snd.snd.snd.snd.snd.snd.snd.snd.fst) then some (Sum.inr (Sum.inr (Zaf .i64 (50+x2)))) else bif decide (x1.snd.snd.snd.snd.snd.snd.snd.snd.snd.snd.snd.snd.snd.snd.snd.snd.snd.snd.fst>x1.snd.snd.snd.snd.snd.snd.snd.snd.snd.snd.snd.snd.snd.snd.snd.snd.snd.snd.snd.snd.fst) then some (Sum.inr (Sum.inr (Zaf .i64 (50+x2)))) else some (Sum.inl (x0,x1,Zaf .i64 (x2+1))) else bif decide (x2=(↑((0:Nat)+(1:Nat)+(1:Nat)+(1:Nat)+(1:Nat)+(1:Nat)+(1:Nat)+(1:Nat)):Int)) then bif decide (x1.snd.snd.snd.snd.snd.snd.snd.snd.snd.snd.snd.snd.snd.snd.snd.snd.snd.snd.snd.snd.snd.fst<x1.snd.snd.snd.snd.snd.snd.snd.snd.snd.snd.snd.snd.snd.snd.snd.snd.snd.snd.snd.snd.snd.snd.fst) then some (Sum.inr (Sum.inr (Zaf .i64 (50+x2)))) else bif decide (x1.snd.snd.snd.snd.snd.snd.snd.snd.snd.snd.snd.snd.snd.snd.snd.snd.snd.snd.snd.snd.snd.fst>x1.snd.snd.snd.snd.snd.snd.snd.snd.snd.snd.snd.snd.snd.snd.snd.snd.snd.snd.snd.snd.snd.snd.snd) then some (Sum.inr (Sum.inr (Zaf .i64 (50+x2)))) else some (Sum.inl (x0,x1,Zaf .i64 (x2+1))) else none else none else none else some (Sum.inr (Sum.inl x0))
def Zez (x:Config×(Int×Int×Int×Int×Int×Int×Int×Int×Int×Int×Int×Int×Int×Int×Int×Int×Int×Int×Int×Int×Int×Int×Int×Int)×Int):Option ((Config×(Int×Int×Int×Int×Int×Int×Int×Int×Int×Int×Int×Int×Int×Int×Int×Int×Int×Int×Int×Int×Int×Int×Int×Int)×Int)⊕((Config)⊕(Int))):=ZrO x.1 x.2.1 x.2.2
def ZcZ (x:Config×(Int×Int×Int×Int×Int×Int×Int×Int×Int×Int×Int×Int×Int×Int×Int×Int×Int×Int×Int×Int×Int×Int×Int×Int)×Int):Option ((Config)⊕(Int)):=Zay Zez x
def ZjQ (x0:Config):Option Int := match ZcZ (x0,(x0.threads,1,16,x0.items,1,4,x0.backend,1,3,x0.depth,0,4,x0.layers,0,3,x0.width,1,8,x0.spin,0,20,x0.wait,0,1000),0) with
 | some (.inl y1) => bif y1.bounded then bif decide (y1.init<y1.lo) then some (58) else bif decide (y1.hi<y1.init) then some (58) else some (0) else some (0)
 | some (.inr y2) => some y2
 | none=>none
def ZfK (x:Config):Option Int:=ZjQ x
def Zi0 (x0:Int) (x1:Int):Option Bool := bif decide (0<=x0) then some (decide (x0<x1)) else some (false)
def ZdQ (x:Int×Int):Option Bool:=Zi0 x.1 x.2
def Zp0 (x0:Int):Option Bool := bif decide (1<=x0) then some (decide (x0<=9)) else some (false)
def ZmE (x:Int):Option Bool:=Zp0 x
def ZoV (x0:Op) (x1:Bool):Option Bool := bif !x1 then match ZmE x0.tag with
 | some y1 => bif y1 then some (decide (x0.tag<8)) else some (false)
 | none=>none else bif x0.tag == 9 then some (decide (x0.v>=0)) else some (x0.tag == 8)
def Zlx (x:Op×Bool):Option Bool:=ZoV x.1 x.2
def ZjR (x0:Config) (x1:SEntry):Option Int := bif x1.kind == 1 then bif x1.kind == 1 then match ZdQ (x1.t,x0.threads) with
 | some y1 => bif !y1 then some (91) else bif x1.kind == 2 then some (0) else match ZdQ (x1.item,x0.items) with
  | some y2 => bif !y2 then some (92) else match Zlx (x1.op,x0.bounded) with
   | some y3 => bif !y3 then some (93) else some (0)
   | none=>none
  | none=>none
 | none=>none else bif x1.kind == 3 then some (0) else some (90) else bif x1.kind == 2 then match ZdQ (x1.t,x0.threads) with
 | some y1 => bif !y1 then some (91) else bif x1.kind == 2 then some (0) else match ZdQ (x1.item,x0.items) with
  | some y2 => bif !y2 then some (92) else match Zlx (x1.op,x0.bounded) with
   | some y3 => bif !y3 then some (93) else some (0)
   | none=>none
  | none=>none
 | none=>none else bif x1.kind == 3 then some (0) else some (90)
def Zg7 (x:Config×SEntry):Option Int:=ZjR x.1 x.2
def Ztz (x0:Config) (x1:List SEntry) (x2:Int) (x3:Int):Option ((Config×(List SEntry)×Int×Int)⊕((Unit)⊕(Int×Int))) := bif decide (x3<x2) then bif decide (0<=x3) then bif decide (x3<(↑x1.length:Int)) then match Zg7 (x0,x1.getD x3.toNat Za9) with
 | some y1 => bif y1 != 0 then some (Sum.inr (Sum.inr (x3,y1))) else some (Sum.inl (x0,x1,x2,Zaf .i64 (x3+1)))
 | none=>none else none else none else some (Sum.inr (Sum.inl ()))
def ZjD (x:Config×(List SEntry)×Int×Int):Option ((Config×(List SEntry)×Int×Int)⊕((Unit)⊕(Int×Int))):=Ztz x.1 x.2.1 x.2.2.1 x.2.2.2
def Ztm (x:Config×(List SEntry)×Int×Int):Option ((Unit)⊕(Int×Int)):=Zay ZjD x
def Zv2 (x0:Config) (x1:List SEntry):Option (Int×Int) := match ZfK x0 with
 | some y1 => bif y1 != 0 then some ((0,y1)) else bif decide ((↑x1.length:Int)>65536) then some ((0,2)) else match Ztm (x0,x1,(↑x1.length:Int),0) with
  | some (.inl y2) => some ((0,0))
  | some (.inr y3) => some y3
  | none=>none
 | none=>none
def Zqy (x:Config×(List SEntry)):Option (Int×Int):=Zv2 x.1 x.2
def Zi5 (x0:Turn):Option Turn := bif decide (x0.th.layer<x0.c.layers) then match ZdX { x0 with th:={ x0.th with phase:=2 } } with
 | some y1 => bif !y1 then some ({ x0 with th:={ x0.th with phase:=17,layer:=Zaf .i64 (x0.th.layer+1) } }) else some ({ x0 with th:={ x0.th with phase:=2 } })
 | none=>none else some ({ x0 with th:={ x0.th with phase:=2 } })
def Zcy (x:Turn):Option Turn:=Zi5 x
def Zkb (x0:Int) (x1:Int):Option Int := match Zb0 (Said.mk 4 (Zaf .i64 (Zaf .i64 (x0*2 ^ min (Int.toNat 4) IntKind.i64.bits)+x1))) with
 | some y1 => some y1
 | none=>none
def Zki (x:Int×Int):Option Int:=Zkb x.1 x.2
def Zim (x0:Turn×Int) (x1:Int):Option Int := match Zda (x0.fst.c,x1) with
 | some y1 => some y1
 | none=>none
def Zcg (x:(Turn×Int)×Int):Option Int:=Zim x.1 x.2
def Zrb (x0:Int) (x1:Int):Option (Int×Int) :=
 some ((Zaf IntKind.u64 (Zaf IntKind.u64 (Zaf IntKind.u64 (x0.fdiv (2 ^ min (Int.toNat 32) IntKind.u64.bits)*x1.fdiv (2 ^ min (Int.toNat 32) IntKind.u64.bits))+(Zaf IntKind.u64 (Zaf IntKind.u64 (x0.fdiv (2 ^ min (Int.toNat 32) IntKind.u64.bits)*Zaf IntKind.u64 (↑(BitVec.ofInt IntKind.u64.bits x1 &&& BitVec.ofInt IntKind.u64.bits 4294967295).toNat:Int))+(Zaf IntKind.u64 (Zaf IntKind.u64 (↑(BitVec.ofInt IntKind.u64.bits x0 &&& BitVec.ofInt IntKind.u64.bits 4294967295).toNat:Int)*Zaf IntKind.u64 (↑(BitVec.ofInt IntKind.u64.bits x1 &&& BitVec.ofInt IntKind.u64.bits 4294967295).toNat:Int))).fdiv (2 ^ min (Int.toNat 32) IntKind.u64.bits))).fdiv (2 ^ min (Int.toNat 32) IntKind.u64.bits))+(Zaf IntKind.u64 (Zaf IntKind.u64 (↑(BitVec.ofInt IntKind.u64.bits (Zaf IntKind.u64 (Zaf IntKind.u64 (x0.fdiv (2 ^ min (Int.toNat 32) IntKind.u64.bits)*Zaf IntKind.u64 (↑(BitVec.ofInt IntKind.u64.bits x1 &&& BitVec.ofInt IntKind.u64.bits 4294967295).toNat:Int))+(Zaf IntKind.u64 (Zaf IntKind.u64 (↑(BitVec.ofInt IntKind.u64.bits x0 &&& BitVec.ofInt IntKind.u64.bits 4294967295).toNat:Int)*Zaf IntKind.u64 (↑(BitVec.ofInt IntKind.u64.bits x1 &&& BitVec.ofInt IntKind.u64.bits 4294967295).toNat:Int))).fdiv (2 ^ min (Int.toNat 32) IntKind.u64.bits))) &&& BitVec.ofInt IntKind.u64.bits 4294967295).toNat:Int)+Zaf IntKind.u64 (Zaf IntKind.u64 (↑(BitVec.ofInt IntKind.u64.bits x0 &&& BitVec.ofInt IntKind.u64.bits 4294967295).toNat:Int)*x1.fdiv (2 ^ min (Int.toNat 32) IntKind.u64.bits)))).fdiv (2 ^ min (Int.toNat 32) IntKind.u64.bits)),Zaf IntKind.u64 (x0*x1)))
def Zlp (x:Int×Int):Option (Int×Int):=Zrb x.1 x.2
def Zsq (x0:Int) (x1:Int):Option (Int×Int) := match Zlp (x0,x1) with
 | some y1 => some y1
 | none=>none
def ZdW (x:Int×Int):Option (Int×Int):=Zsq x.1 x.2
def Zfw (x0:List Thread):Option (List Thread) := bif fewB ((0:Nat)+x0.length) then some (x0) else none
def ZcJ (x:(List Thread)):Option (List Thread):=Zfw x
def Zf3 (x0:List Mark):Option (List Mark) := bif fewB ((0:Nat)+x0.length) then some (x0) else none
def ZcY (x:(List Mark)):Option (List Mark):=Zf3 x
def ZfX (x0:List Event):Option (List Event) := bif fewB ((0:Nat)+x0.length) then some (x0) else none
def ZcT (x:(List Event)):Option (List Event):=ZfX x
def Zry:Option Int := match Zb0 (Said.mk 5 (-1:Int)) with
 | some y1 => some y1
 | none=>none
def Zhw (x:Unit):Option Int:=Zry
def Zjw (x0:Config) (x1:Int):Option Int := bif decide (x1<0) then some ((-1:Int)) else bif decide (x1>=x0.threads) then some ((-1:Int)) else match ZcA x0 with
 | some y1 => some (Zaf .i64 (Zaf .i64 (y1.lines+Zaf .i64 (2*x1))+1))
 | none=>none
def ZfC (x:Config×Int):Option Int:=Zjw x.1 x.2
def Zj7 (x0:Turn):Option Turn := bif decide (x0.th.at_<0) then some ({ x0 with th:={ x0.th with phase:=0 },done:=true }) else bif decide (x0.th.at_>=(↑x0.th.kids.length:Int)) then some ({ x0 with th:={ x0.th with phase:=0 },done:=true }) else bif decide (0<=x0.th.at_) then bif decide (x0.th.at_<(↑x0.th.kids.length:Int)) then some ({ x0 with th:={ x0.th with phase:=15 } }) else none else none
def Zdp (x:Turn):Option Turn:=Zj7 x
def ZmA (x0:List Entry) (x1:Int):Option (List Entry) := bif decide (0<=if (if (↑x0.length:Int)<x1 then (↑x0.length:Int) else x1)>0 then if (↑x0.length:Int)<x1 then (↑x0.length:Int) else x1 else 0) then bif decide ((if (if (↑x0.length:Int)<x1 then (↑x0.length:Int) else x1)>0 then if (↑x0.length:Int)<x1 then (↑x0.length:Int) else x1 else 0)<=(↑x0.length:Int)) then match Zbx (List.drop (Int.toNat 0) (List.take (if (if (↑x0.length:Int)<x1 then (↑x0.length:Int) else x1)>0 then if (↑x0.length:Int)<x1 then (↑x0.length:Int) else x1 else 0).toNat x0)) with
 | some y1 => some y1
 | none=>none else none else none
def Zmi (x:(List Entry)×Int):Option (List Entry):=ZmA x.1 x.2
def ZpB (x0:Int) (x1:Int) (x2:Int) (x3:Int):Option Bool := bif decide (x1>=0) then bif decide (Zaf .i64 (x0+x1)>=x0) then bif decide (Zaf .i64 (x0+x1)<x2) then some (true) else some (decide (Zaf .i64 (x0+x1)>x3)) else bif decide (x1<0) then bif decide (Zaf .i64 (x0+x1)<x0) then bif decide (Zaf .i64 (x0+x1)<x2) then some (true) else some (decide (Zaf .i64 (x0+x1)>x3)) else some (true) else some (true) else bif decide (x1<0) then bif decide (Zaf .i64 (x0+x1)<x0) then bif decide (Zaf .i64 (x0+x1)<x2) then some (true) else some (decide (Zaf .i64 (x0+x1)>x3)) else some (true) else some (true)
def ZkR (x:Int×Int×Int×Int):Option Bool:=ZpB x.1 x.2.1 x.2.2.1 x.2.2.2
def Zi9 (x0:Op) (x1:Int) (x2:Int) (x3:Int):Option (Int×Bool) := bif x0.tag == 2 then some ((Zaf .i64 (x1+Zaf .i64 (0-x0.v)),true)) else bif x0.tag == 1 then some ((Zaf .i64 (x1+x0.v),true)) else bif x0.tag == 3 then some ((Zaf .i64 (↑(BitVec.ofInt IntKind.i64.bits x1 ||| BitVec.ofInt IntKind.i64.bits x0.v).toNat:Int),true)) else bif x0.tag == 4 then some ((Zaf .i64 (↑(BitVec.ofInt IntKind.i64.bits x1 &&& BitVec.ofInt IntKind.i64.bits x0.v).toNat:Int),true)) else bif x0.tag == 5 then some ((if x1>x0.v then x1 else x0.v,true)) else bif x0.tag == 6 then some ((if x1<x0.v then x1 else x0.v,true)) else bif x0.tag == 7 then some ((x0.v,true)) else bif x0.tag == 9 then bif decide (x0.v<0) then some ((x1,false)) else bif decide (x1<x2) then some ((x1,false)) else bif decide (Zaf .i64 (x1-x0.v)<=x1) then bif decide (Zaf .i64 (x1-x0.v)>=x2) then some ((Zaf .i64 (x1-x0.v),true)) else some ((x2,true)) else some ((x2,true)) else bif x0.tag == 8 then match ZkR (x1,x0.v,x2,x3) with
 | some y1 => bif !y1 then some ((Zaf .i64 (x1+x0.v),true)) else some ((x1,false))
 | none=>none else some ((x1,false))
def ZeN (x:Op×Int×Int×Int):Option (Int×Bool):=Zi9 x.1 x.2.1 x.2.2.1 x.2.2.2
def Zhl (x0:Memo) (x1:Int) (x2:Int):Option (Memo×Int×Int) := match ZbN (x0.words,x1) with
 | some y1 => bif y1.snd != 0 then some ((x0,0,y1.snd)) else match ZbF x0.words with
  | some y2 => bif decide (0<=x1) then bif decide (x1<(↑(List.length y2):Int)) then some (({ x0 with words:=List.set y2 x1.toNat x2 },y1)) else none else none
  | none=>none
 | none=>none
def Zn4 (x:Memo×Int×Int):Option (Memo×Int×Int):=Zhl x.1 x.2.1 x.2.2
def ZlM (x0:Config) (x1:Int) (x2:Int) (x3:Int):Option Int := bif decide (x1<0) then some ((-1:Int)) else bif decide (x1>=x0.items) then some ((-1:Int)) else bif decide (x2<1) then some ((-1:Int)) else bif decide (x2>=Zaf .i64 (1+x0.layers)) then some ((-1:Int)) else bif decide (x3<0) then some ((-1:Int)) else bif decide (x3>=x0.width) then some ((-1:Int)) else match ZcA x0 with
 | some y1 => match ZcA x0 with
  | some y2 => some (Zaf .i64 (Zaf .i64 (Zaf .i64 (Zaf .i64 (x1*y1.block)+y2.slots)+Zaf .i64 (Zaf .i64 (x2-1)*x0.width))+x3))
  | none=>none
 | none=>none
def Zmk (x:Config×Int×Int×Int):Option Int:=ZlM x.1 x.2.1 x.2.2.1 x.2.2.2
def Zht (x0:Tape):Option Int := bif decide (x0.at_<0) then some (0) else some (if Zaf .i64 ((↑x0.l.length:Int)-x0.at_)>0 then Zaf .i64 ((↑x0.l.length:Int)-x0.at_) else 0)
def Zf9 (x:Tape):Option Int:=Zht x
end Go.Proofs.Mill
