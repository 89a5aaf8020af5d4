/- What the functions compute that are proved by hand: tape.Next, batch.All, batch.Priors, share.Step. -/
import Derived.Test.YtaopdopnecognaaGreatMillFAb
import Derived.Test.YtaopdopnecognaaGreatMillAll8
set_option linter.all false
noncomputable section
namespace Go.Proofs.Mill
def Zhb (x0:Tape):Option (Int×Tape) := match ZfW x0 with
 | some y1 => bif decide (y1>0) then bif decide (0<=x0.at_) then bif decide (x0.at_<(↑x0.l.length:Int)) then some (x0.l.getD x0.at_.toNat 0,{ x0 with at_:=Zac .i64 (x0.at_+1) }) else none else none else some (0,x0)
 | none=>none
def ZlA (x:Tape):Option (Int×Tape):=Zhb x
def apC (lo hi:Int) (e:Entry) (x:Int):Option Int:=match Zcf (e.op,x,lo,hi) with
 | some y=>some y.1
 | none=>none
def Zg1 (x0:List Entry) (x1:Int) (x2:Int) (x3:Int):Option Int :=
 bif fewB x0.length then (match cellsOf (apC x2 x3) x0 x1 with
   | some l=>some (l.foldl (fun _ p=>p.2) x1)
   | none=>none) else none
def ZeP (x:List Entry×Int×Int×Int):Option Int:=Zg1 x.1 x.2.1 x.2.2.1 x.2.2.2
def Zfg (x0:List Entry) (x1:Int) (x2:Int) (x3:Int):Option (List Int) := bif fewB x0.length then (match cellsOf (apC x2 x3) x0 x1 with
 | some l=>some (l.map (·.1))
 | none=>none) else none
def ZiC (x:List Entry×Int×Int×Int):Option (List Int):=Zfg x.1 x.2.1 x.2.2.1 x.2.2.2
def Zmz (x0:Turn):Option (Turn×Bool) := match Zc5 (x0.c,x0.t) with
 | some y1 => match ZbX (x0.m,y1) with
  | some y2 => bif y2.snd == 0 then match Zg3 () with
   | some y3 => bif y2.fst == y3 then some (({ x0 with th:={ x0.th with phase:=14 } },true)) else some ((x0,true))
   | none=>none else some ((x0,true))
  | none=>none
 | none=>none
def ZmJ (x0:Turn):Option (Turn×Bool) := match Zfd (x0.c,x0.t) with
 | some y1 => match ZbX (x0.m,y1) with
  | some y2 => bif y2.snd != 0 then some ((x0,true)) else match Zdt { x0 with th:={ x0.th with at_:=0,x:=y2.fst } } with
   | some y3 => some ((y3,true))
   | none=>none
  | none=>none
 | none=>none
def Zm1 (x0:Turn):Option (Turn×Bool) := bif decide (x0.th.at_<0) then some ((x0,true)) else bif decide (x0.th.at_>=(↑x0.th.kids.length:Int)) then some ((x0,true)) else bif decide (0<=x0.th.at_) then bif decide (x0.th.at_<(↑x0.th.kids.length:Int)) then match ZkW (x0.th.batch,(x0.th.kids.getD x0.th.at_.toNat dKid).ahead) with
 | some y1 => match ZeP (y1,x0.th.x,x0.c.lo,x0.c.hi) with
  | some y2 => match Zfd (x0.c,(x0.th.kids.getD x0.th.at_.toNat dKid).t) with
   | some y3 => match Zb5 (x0.m,y3,y2) with
    | some y4 => bif y4.snd == 0 then some (({ x0 with m:=y4.fst,th:={ x0.th with phase:=16 } },true)) else some ((x0,true))
    | none=>none
   | none=>none
  | none=>none
 | none=>none else none else none
def Zm5 (x0:Turn):Option (Turn×Bool) := bif decide (x0.th.at_<0) then some ((x0,true)) else bif decide (x0.th.at_>=(↑x0.th.kids.length:Int)) then some ((x0,true)) else bif decide (0<=x0.th.at_) then bif decide (x0.th.at_<(↑x0.th.kids.length:Int)) then match Zc5 (x0.c,(x0.th.kids.getD x0.th.at_.toNat dKid).t) with
 | some y1 => match Zg3 () with
  | some y2 => match Zb5 (x0.m,y1,y2) with
   | some y3 => bif y3.snd != 0 then some ((x0,true)) else match Zdt { x0 with m:=y3.fst,th:={ x0.th with at_:=Zac .i64 (x0.th.at_+1) } } with
    | some y4 => some ((y4,true))
    | none=>none
   | none=>none
  | none=>none
 | none=>none else none else none
def ZeZ (x0:Turn):Option (Turn×Bool) :=
 bif x0.th.phase == 13 then Zmz x0 else bif x0.th.phase == 14 then ZmJ x0 else bif x0.th.phase == 15 then Zm1 x0 else bif x0.th.phase == 16 then Zm5 x0 else some (x0,false)
def ZkT (x:Turn):Option (Turn×Bool):=ZeZ x
end Go.Proofs.Mill
