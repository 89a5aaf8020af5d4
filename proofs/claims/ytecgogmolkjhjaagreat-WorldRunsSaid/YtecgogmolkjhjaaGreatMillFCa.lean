/- What the functions compute. -/
import Derived.Test.YtecgogmolkjhjaaGreatMillAll3
import Derived.Test.YtecgogmolkjhjaaGreatMillFT3
set_option linter.all false
noncomputable section
namespace Go.Proofs.Mill
def Zos (x0:Config) (x1:List Int):Option (Wld×Int) := match Zfm x0 with
 | some y1 => bif y1 != 0 then some ((Wld.mk (Config.mk 0 0 0 0 0 0 0 0 false 0 0 0) (Memo.mk ([]:List Int) ([]:List (List Entry))) ([]:List Thread) 0 0 (Tape.mk ([]:List Int) 0) ([]:List Mark) ([]:List Event),y1)) else match Zd1 x0 with
  | some y2 => match Zew () with
   | some y3 => match Zdg (y3::[],x0.threads) with
    | some y4 => match ZbI x1 with
     | some y5 => some ((Wld.mk x0 y2 y4 0 0 (Tape.mk y5 0) ([]:List Mark) ([]:List Event),0))
     | none=>none
    | none=>none
   | none=>none
  | none=>none
 | none=>none
def Zn8 (x:Config×(List Int)):Option (Wld×Int):=Zos x.1 x.2
def Zf1 (x0:Wld) (x1:Wld) (x2:Int) (x3:List SEntry) (x4:Int) (x5:Int):Option ((Wld×Wld×Int×(List SEntry)×Int×Int)⊕((Wld×Wld×Int))) := bif decide (x5<x4) then bif decide (0<=x5) then bif decide (x5<(↑x3.length:Int)) then bif (x3.getD x5.toNat Za6).kind == 1 then bif decide (0<=(x3.getD x5.toNat Za6).t) then bif decide ((x3.getD x5.toNat Za6).t<(↑x1.t.length:Int)) then match ZbE (x1.t.getD (x3.getD x5.toNat Za6).t.toNat Zaw) with
  | some y1 => bif y1 then bif fewB (x1.hist.length+(Event.mk 3 (x3.getD x5.toNat Za6).t (x3.getD x5.toNat Za6).item (x3.getD x5.toNat Za6).op 0 false x1.steps::[]).length) then some (Sum.inl (x0,{ x1 with hist:=x1.hist++Event.mk 3 (x3.getD x5.toNat Za6).t (x3.getD x5.toNat Za6).item (x3.getD x5.toNat Za6).op 0 false x1.steps::[] },x2,x3,x4,Zaf .i64 (x5+1))) else none else match Zc2 (x1.c,(x3.getD x5.toNat Za6).t,x1.t.getD (x3.getD x5.toNat Za6).t.toNat Zaw,(x3.getD x5.toNat Za6).item,(x3.getD x5.toNat Za6).op,x1.now) with
   | some y2 => bif fewB (x1.hist.length+(Event.mk 1 (x3.getD x5.toNat Za6).t (x3.getD x5.toNat Za6).item (x3.getD x5.toNat Za6).op 0 false x1.steps::[]).length) then some (Sum.inl (x0,{ x1 with t:=x1.t.set (x3.getD x5.toNat Za6).t.toNat y2,hist:=x1.hist++Event.mk 1 (x3.getD x5.toNat Za6).t (x3.getD x5.toNat Za6).item (x3.getD x5.toNat Za6).op 0 false x1.steps::[] },x2,x3,x4,Zaf .i64 (x5+1))) else none
   | none=>none
  | none=>none else none else none else bif (x3.getD x5.toNat Za6).kind == 2 then match Zcr x1 (x3.getD x5.toNat Za6).t with
 | some y1 => some (Sum.inl (x0,y1,x2,x3,x4,Zaf .i64 (x5+1)))
 | none=>none else bif (x3.getD x5.toNat Za6).kind == 3 then some (Sum.inl (x0,{ x1 with now:=Zaf .i64 (x1.now+1) },x2,x3,x4,Zaf .i64 (x5+1))) else some (Sum.inl (x0,x1,x2,x3,x4,Zaf .i64 (x5+1))) else none else none else some (Sum.inr (x0,x1,x2))
def ZhO (x:Wld×Wld×Int×(List SEntry)×Int×Int):Option ((Wld×Wld×Int×(List SEntry)×Int×Int)⊕((Wld×Wld×Int))):=Zf1 x.1 x.2.1 x.2.2.1 x.2.2.2.1 x.2.2.2.2.1 x.2.2.2.2.2
def ZkW (x:Wld×Wld×Int×(List SEntry)×Int×Int):Option (Wld×Wld×Int):=Zay ZhO x
def Zf5 (x0:Config) (x1:List SEntry) (x2:List Int):Option (Wld×Int×Int) := match Zjk (x0,x1) with
 | some y1 => bif y1.snd != 0 then some ((Wld.mk (Config.mk 0 0 0 0 0 0 0 0 false 0 0 0) (Memo.mk ([]:List Int) ([]:List (List Entry))) ([]:List Thread) 0 0 (Tape.mk ([]:List Int) 0) ([]:List Mark) ([]:List Event),y1)) else match Zn8 (x0,x2) with
  | some y2 => match ZkW (Wld.mk (Config.mk 0 0 0 0 0 0 0 0 false 0 0 0) (Memo.mk ([]:List Int) ([]:List (List Entry))) ([]:List Thread) 0 0 (Tape.mk ([]:List Int) 0) ([]:List Mark) ([]:List Event),y2.fst,y2.snd,x1,(↑x1.length:Int),0) with
   | some y3 => some ((y3.snd.fst,0,y3.snd.snd))
   | none=>none
  | none=>none
 | none=>none
def ZhG (x:Config×(List SEntry)×(List Int)):Option (Wld×Int×Int):=Zf5 x.1 x.2.1 x.2.2
def Zwv (x0:Wld) (x1:SEntry):Option (Wld×Int) := match Zhd (x0.c,x1) with
 | some y1 => bif y1 != 0 then some ((x0,y1)) else match Zj2 x0.t with
  | some y2 => match Zlw x0.log with
   | some y3 => match Zls x0.hist with
    | some y4 => bif x1.kind == 1 then bif decide (0<=x1.t) then bif decide (x1.t<(↑(List.length y2):Int)) then match ZbE (List.getD y2 x1.t.toNat Zaw) with
      | some y5 => bif y5 then bif fewB (List.length y4+(Event.mk 3 x1.t x1.item x1.op 0 false x0.steps::[]).length) then some (({ x0 with t:=y2,log:=y3,hist:=y4++Event.mk 3 x1.t x1.item x1.op 0 false x0.steps::[] },170)) else none else match Zc2 (x0.c,x1.t,List.getD y2 x1.t.toNat Zaw,x1.item,x1.op,x0.now) with
       | some y6 => bif fewB (List.length y4+(Event.mk 1 x1.t x1.item x1.op 0 false x0.steps::[]).length) then some (({ x0 with t:=List.set y2 x1.t.toNat y6,log:=y3,hist:=y4++Event.mk 1 x1.t x1.item x1.op 0 false x0.steps::[] },0)) else none
       | none=>none
      | none=>none else none else none else bif x1.kind == 2 then match Zcr { x0 with t:=y2,log:=y3,hist:=y4 } x1.t with
     | some y5 => some ((y5,0))
     | none=>none else bif x1.kind == 3 then some (({ x0 with t:=y2,now:=Zaf .i64 (x0.now+1),log:=y3,hist:=y4 },0)) else some (({ x0 with t:=y2,log:=y3,hist:=y4 },0))
    | none=>none
   | none=>none
  | none=>none
 | none=>none
def ZwB (x:Wld×SEntry):Option (Wld×Int):=Zwv x.1 x.2
end Go.Proofs.Mill
