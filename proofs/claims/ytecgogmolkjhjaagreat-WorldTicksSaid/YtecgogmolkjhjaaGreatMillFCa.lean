/- What the functions compute. -/
import Derived.Test.YtecgogmolkjhjaaGreatMillAll3
import Derived.Test.YtecgogmolkjhjaaGreatMillFT3
set_option linter.all false
noncomputable section
namespace Go.Proofs.Mill
def Zmc (x0:Config) (x1:List Int):Option (Wld×Int) := match ZeP x0 with
 | some y1 => bif y1 != (0:Int) then some ((Wld.mk (Config.mk (0:Int) (0:Int) (0:Int) (0:Int) (0:Int) (0:Int) (0:Int) (0:Int) false (0:Int) (0:Int) (0:Int)) (Memo.mk ([]:List Int) ([]:List (List Entry))) ([]:List Thread) (0:Int) (0:Int) (Tape.mk ([]:List Int) (0:Int)) ([]:List Mark) ([]:List Event),y1)) else match ZdF x0 with
  | some y2 => match Zee () with
   | some y3 => match Zdb (y3::([]:List Thread),x0.threads) with
    | some y4 => match ZbB x1 with
     | some y5 => some ((Wld.mk x0 y2 y4 (0:Int) (0:Int) (Tape.mk y5 (0:Int)) ([]:List Mark) ([]:List Event),(0:Int)))
     | none=>none
    | none=>none
   | none=>none
  | none=>none
 | none=>none
def Zmm (x:Config×(List Int)):Option (Wld×Int):=Zmc x.1 x.2
def Zfm (x0:Wld) (x1:Wld) (x2:Int) (x3:List SEntry) (x4:Int) (x5:Int):Option ((Wld×Wld×Int×(List SEntry)×Int×Int)⊕((Wld×Wld×Int))) := bif decide (x5<x4) then bif decide ((0:Int)<=x5) then bif decide (x5<(↑x3.length:Int)) then bif (x3.getD x5.toNat ZaV).kind == (1:Int) then bif decide ((0:Int)<=(x3.getD x5.toNat ZaV).t) then bif decide ((x3.getD x5.toNat ZaV).t<(↑x1.t.length:Int)) then match ZbH (x1.t.getD (x3.getD x5.toNat ZaV).t.toNat Zay) with
  | some y1 => bif y1 then bif fewB (x1.hist.length+(Event.mk (3:Int) (x3.getD x5.toNat ZaV).t (x3.getD x5.toNat ZaV).item (x3.getD x5.toNat ZaV).op (0:Int) false x1.steps::([]:List Event)).length) then some (Sum.inl (x0,{ x1 with hist:=x1.hist++Event.mk (3:Int) (x3.getD x5.toNat ZaV).t (x3.getD x5.toNat ZaV).item (x3.getD x5.toNat ZaV).op (0:Int) false x1.steps::([]:List Event) },x2,x3,x4,Zaf IntKind.i64 (x5+(1:Int)))) else none else match ZcU (x1.c,(x3.getD x5.toNat ZaV).t,x1.t.getD (x3.getD x5.toNat ZaV).t.toNat Zay,(x3.getD x5.toNat ZaV).item,(x3.getD x5.toNat ZaV).op,x1.now) with
   | some y2 => bif fewB (x1.hist.length+(Event.mk (1:Int) (x3.getD x5.toNat ZaV).t (x3.getD x5.toNat ZaV).item (x3.getD x5.toNat ZaV).op (0:Int) false x1.steps::([]:List Event)).length) then some (Sum.inl (x0,{ x1 with t:=x1.t.set (x3.getD x5.toNat ZaV).t.toNat y2,hist:=x1.hist++Event.mk (1:Int) (x3.getD x5.toNat ZaV).t (x3.getD x5.toNat ZaV).item (x3.getD x5.toNat ZaV).op (0:Int) false x1.steps::([]:List Event) },x2,x3,x4,Zaf IntKind.i64 (x5+(1:Int)))) else none
   | none=>none
  | none=>none else none else none else bif (x3.getD x5.toNat ZaV).kind == (2:Int) then match Zcc x1 (x3.getD x5.toNat ZaV).t with
 | some y1 => some (Sum.inl (x0,y1,x2,x3,x4,Zaf IntKind.i64 (x5+(1:Int))))
 | none=>none else bif (x3.getD x5.toNat ZaV).kind == (3:Int) then some (Sum.inl (x0,{ x1 with now:=Zaf IntKind.i64 (x1.now+(1:Int)) },x2,x3,x4,Zaf IntKind.i64 (x5+(1:Int)))) else some (Sum.inl (x0,x1,x2,x3,x4,Zaf IntKind.i64 (x5+(1:Int)))) else none else none else some (Sum.inr (x0,x1,x2))
def ZgT (x:Wld×Wld×Int×(List SEntry)×Int×Int):Option ((Wld×Wld×Int×(List SEntry)×Int×Int)⊕((Wld×Wld×Int))):=Zfm x.1 x.2.1 x.2.2.1 x.2.2.2.1 x.2.2.2.2.1 x.2.2.2.2.2
def ZjM (x:Wld×Wld×Int×(List SEntry)×Int×Int):Option ((Wld×Wld×Int)):=Zav ZgT x
def Zfu (x0:Config) (x1:List SEntry) (x2:List Int):Option (Wld×Int×Int) := match ZhO (x0,x1) with
 | some y1 => bif y1.snd != (0:Int) then some ((Wld.mk (Config.mk (0:Int) (0:Int) (0:Int) (0:Int) (0:Int) (0:Int) (0:Int) (0:Int) false (0:Int) (0:Int) (0:Int)) (Memo.mk ([]:List Int) ([]:List (List Entry))) ([]:List Thread) (0:Int) (0:Int) (Tape.mk ([]:List Int) (0:Int)) ([]:List Mark) ([]:List Event),y1)) else match Zmm (x0,x2) with
  | some y2 => match ZjM (Wld.mk (Config.mk (0:Int) (0:Int) (0:Int) (0:Int) (0:Int) (0:Int) (0:Int) (0:Int) false (0:Int) (0:Int) (0:Int)) (Memo.mk ([]:List Int) ([]:List (List Entry))) ([]:List Thread) (0:Int) (0:Int) (Tape.mk ([]:List Int) (0:Int)) ([]:List Mark) ([]:List Event),y2.fst,y2.snd,x1,(↑x1.length:Int),(0:Int)) with
   | some y3 => some ((y3.snd.fst,(0:Int),y3.snd.snd))
   | none=>none
  | none=>none
 | none=>none
def ZgD (x:Config×(List SEntry)×(List Int)):Option (Wld×Int×Int):=Zfu x.1 x.2.1 x.2.2
def Zue (x0:Wld) (x1:SEntry):Option (Wld×Int) := match Zf9 (x0.c,x1) with
 | some y1 => bif y1 != (0:Int) then some ((x0,y1)) else match ZiE x0.t with
  | some y2 => match ZjD x0.log with
   | some y3 => match ZjE x0.hist with
    | some y4 => bif x1.kind == (1:Int) then bif decide ((0:Int)<=x1.t) then bif decide (x1.t<(↑(List.length y2):Int)) then match ZbH (List.getD y2 x1.t.toNat Zay) with
      | some y5 => bif y5 then bif fewB (List.length y4+(Event.mk (3:Int) x1.t x1.item x1.op (0:Int) false x0.steps::([]:List Event)).length) then some (({ x0 with t:=y2,log:=y3,hist:=y4++Event.mk (3:Int) x1.t x1.item x1.op (0:Int) false x0.steps::([]:List Event) },(170:Int))) else none else match ZcU (x0.c,x1.t,List.getD y2 x1.t.toNat Zay,x1.item,x1.op,x0.now) with
       | some y6 => bif fewB (List.length y4+(Event.mk (1:Int) x1.t x1.item x1.op (0:Int) false x0.steps::([]:List Event)).length) then some (({ x0 with t:=List.set y2 x1.t.toNat y6,log:=y3,hist:=y4++Event.mk (1:Int) x1.t x1.item x1.op (0:Int) false x0.steps::([]:List Event) },(0:Int))) else none
       | none=>none
      | none=>none else none else none else bif x1.kind == (2:Int) then match Zcc { x0 with t:=y2,log:=y3,hist:=y4 } x1.t with
     | some y5 => some ((y5,(0:Int)))
     | none=>none else bif x1.kind == (3:Int) then some (({ x0 with t:=y2,now:=Zaf IntKind.i64 (x0.now+(1:Int)),log:=y3,hist:=y4 },(0:Int))) else some (({ x0 with t:=y2,log:=y3,hist:=y4 },(0:Int)))
    | none=>none
   | none=>none
  | none=>none
 | none=>none
def ZvZ (x:Wld×SEntry):Option (Wld×Int):=Zue x.1 x.2
end Go.Proofs.Mill
