/- What the functions compute that are proved by hand: world.turns, world.pick, slices.Repeat. -/
import Derived.Test.YtaopdopnecognaaGreatMillFBb
set_option linter.all false
noncomputable section
namespace Go.Proofs.Mill
def ZbK (x:Wld) (t:Int):Turn:=⟨x.c,t,x.now,x.m,x.t.getD t.toNat Zaw,x.tape,[],false⟩
def Zct (x:Wld) (t:Int):Option (Option Turn) := bif decide (0<=t) then (bif decide (t<(x.t.length:Int)) then (match ZbE (x.t.getD t.toNat Zaw) with
 | some b => bif b then (match Ze2 (ZbK x t) with
  | some u=>some (some u)
  | none=>none) else some none
 | none=>none) else none) else none
def Zhc (x:Wld) (t:Int) (u:Turn):Option (Wld×Int×Turn×List Mark×Int×Int) := bif decide (0<=t) then bif decide (t<(x.t.length:Int)) then some (({ x with m:=u.m,t:=x.t.set t.toNat u.th,steps:=Zac .i64 (x.steps+1),tape:=u.tape },t,u,u.log,(u.log.length:Int),0)) else none else none
def ZcK (st:Wld×Int×Turn×List Mark×Int×Int):Option ((Wld×Int×Turn×List Mark×Int×Int)⊕(Wld×Int×Turn)) := bif decide (st.2.2.2.2.2<st.2.2.2.2.1) then bif decide (0<=st.2.2.2.2.2) then bif decide (st.2.2.2.2.2<(st.2.2.2.1.length:Int)) then bif fewB (st.1.log.length+[{ st.2.2.2.1.getD st.2.2.2.2.2.toNat ZaO with step:=st.1.steps }].length) then some (Sum.inl ({ st.1 with log:=st.1.log++[{ st.2.2.2.1.getD st.2.2.2.2.2.toNat ZaO with step:=st.1.steps }] },st.2.1,st.2.2.1,st.2.2.2.1,st.2.2.2.2.1,Zac .i64 (st.2.2.2.2.2+1))) else none else none else none else some (Sum.inr (st.1,st.2.1,st.2.2.1))
def Zhf (st:Wld×Int×Turn):Option Wld := bif st.2.2.done then match Zcf (st.2.2.th.op,st.2.2.th.x,st.1.c.lo,st.1.c.hi) with
 | some y1 => bif fewB (st.1.hist.length+[(⟨2,st.2.1,st.2.2.th.item,st.2.2.th.op,st.2.2.th.x,y1.snd,st.1.steps⟩:Event)].length) then some ({ st.1 with hist:=st.1.hist++[(⟨2,st.2.1,st.2.2.th.item,st.2.2.th.op,st.2.2.th.x,y1.snd,st.1.steps⟩:Event)] }) else none
 | none=>none else some st.1
def Zb6 (x:Wld) (t:Int):Option Wld := match Zct x t with
 | some (some u) => (match Zhc x t u with
  | some st => (match ZaA ZcK st with
   | some st=>Zhf st
   | none=>none)
  | none=>none)
 | some none=>some x
 | none=>none
def Zoa (x:Wld×Int):Option Wld:=Zb6 x.1 x.2
def ZbF (xs:List Thread) (n:Int):Option (List Thread) := match xs with
 | [y] => bif decide (n < 0) then none else match ZdT (IntKind.u64.wrap 1,IntKind.u64.wrap n) with
  | some y1=>bif decide (y1.fst>0) then none else bif decide (y1.snd>9223372036854775807) then none else bif decide (1<=IntKind.i64.wrap y1.snd) then bif decide (IntKind.i64.wrap y1.snd<=Zbt) then some (List.replicate (IntKind.i64.wrap y1.snd).toNat y) else none else none
  | none=>none
 | _=>none
def Zdk (x:List Thread×Int):Option (List Thread):=ZbF x.1 x.2
end Go.Proofs.Mill
