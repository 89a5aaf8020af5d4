/- What the functions compute. -/
import Derived.Test.YtecgogmolkjhjaaGreatMillAll3
import Derived.Test.YtecgogmolkjhjaaGreatMillFT3
set_option linter.all false
noncomputable section
namespace Go.Proofs.Mill
def Zlx (x0:Config) (x1:List Int):Option (Wld×Int) := match ZeC x0 with
 | some y1 => bif y1 != (0:Int) then some ((Wld.mk (Config.mk (0:Int) (0:Int) (0:Int) (0:Int) (0:Int) (0:Int) (0:Int) (0:Int) false (0:Int) (0:Int) (0:Int)) (Memo.mk ([]:List Int) ([]:List (List Entry))) ([]:List Thread) (0:Int) (0:Int) (Tape.mk ([]:List Int) (0:Int)) ([]:List Mark) ([]:List Event),y1)) else match ZdC x0 with
  | some y2 => match Zd3 () with
   | some y3 => match Zc6 (y3::([]:List Thread),x0.threads) with
    | some y4 => match Zbz x1 with
     | some y5 => some ((Wld.mk x0 y2 y4 (0:Int) (0:Int) (Tape.mk y5 (0:Int)) ([]:List Mark) ([]:List Event),(0:Int)))
     | none=>none
    | none=>none
   | none=>none
  | none=>none
 | none=>none
def Zlp (x:Config×(List Int)):Option (Wld×Int):=Zlx x.1 x.2
def ZeV (x0:Wld) (x1:Wld) (x2:Int) (x3:List SEntry) (x4:Int) (x5:Int):Option ((Wld×Wld×Int×(List SEntry)×Int×Int)⊕((Wld×Wld×Int))) := bif decide (x5<x4) then bif decide ((0:Int)<=x5) then bif decide (x5<(↑x3.length:Int)) then bif (x3.getD x5.toNat Zbo).kind == (1:Int) then bif decide ((0:Int)<=(x3.getD x5.toNat Zbo).t) then bif decide ((x3.getD x5.toNat Zbo).t<(↑x1.t.length:Int)) then match ZbE (x1.t.getD (x3.getD x5.toNat Zbo).t.toNat Zax) with
  | some y1 => bif y1 then bif fewB (x1.hist.length+(Event.mk (3:Int) (x3.getD x5.toNat Zbo).t (x3.getD x5.toNat Zbo).item (x3.getD x5.toNat Zbo).op (0:Int) false x1.steps::([]:List Event)).length) then some (Sum.inl (x0,{ x1 with hist:=x1.hist++Event.mk (3:Int) (x3.getD x5.toNat Zbo).t (x3.getD x5.toNat Zbo).item (x3.getD x5.toNat Zbo).op (0:Int) false x1.steps::([]:List Event) },x2,x3,x4,Zaf IntKind.i64 (x5+(1:Int)))) else none else match ZcP (x1.c,(x3.getD x5.toNat Zbo).t,x1.t.getD (x3.getD x5.toNat Zbo).t.toNat Zax,(x3.getD x5.toNat Zbo).item,(x3.getD x5.toNat Zbo).op,x1.now) with
   | some y2 => bif fewB (x1.hist.length+(Event.mk (1:Int) (x3.getD x5.toNat Zbo).t (x3.getD x5.toNat Zbo).item (x3.getD x5.toNat Zbo).op (0:Int) false x1.steps::([]:List Event)).length) then some (Sum.inl (x0,{ x1 with t:=x1.t.set (x3.getD x5.toNat Zbo).t.toNat y2,hist:=x1.hist++Event.mk (1:Int) (x3.getD x5.toNat Zbo).t (x3.getD x5.toNat Zbo).item (x3.getD x5.toNat Zbo).op (0:Int) false x1.steps::([]:List Event) },x2,x3,x4,Zaf IntKind.i64 (x5+(1:Int)))) else none
   | none=>none
  | none=>none else none else none else bif (x3.getD x5.toNat Zbo).kind == (2:Int) then match Zb9 x1 (x3.getD x5.toNat Zbo).t with
 | some y1 => some (Sum.inl (x0,y1,x2,x3,x4,Zaf IntKind.i64 (x5+(1:Int))))
 | none=>none else bif (x3.getD x5.toNat Zbo).kind == (3:Int) then some (Sum.inl (x0,{ x1 with now:=Zaf IntKind.i64 (x1.now+(1:Int)) },x2,x3,x4,Zaf IntKind.i64 (x5+(1:Int)))) else some (Sum.inl (x0,x1,x2,x3,x4,Zaf IntKind.i64 (x5+(1:Int)))) else none else none else some (Sum.inr (x0,x1,x2))
def Zgo (x:Wld×Wld×Int×(List SEntry)×Int×Int):Option ((Wld×Wld×Int×(List SEntry)×Int×Int)⊕((Wld×Wld×Int))):=ZeV x.1 x.2.1 x.2.2.1 x.2.2.2.1 x.2.2.2.2.1 x.2.2.2.2.2
def Zjh (x:Wld×Wld×Int×(List SEntry)×Int×Int):Option ((Wld×Wld×Int)):=Zav Zgo x
def Ze6 (x0:Config) (x1:List SEntry) (x2:List Int):Option (Wld×Int×Int) := match Zhw (x0,x1) with
 | some y1 => bif y1.snd != (0:Int) then some ((Wld.mk (Config.mk (0:Int) (0:Int) (0:Int) (0:Int) (0:Int) (0:Int) (0:Int) (0:Int) false (0:Int) (0:Int) (0:Int)) (Memo.mk ([]:List Int) ([]:List (List Entry))) ([]:List Thread) (0:Int) (0:Int) (Tape.mk ([]:List Int) (0:Int)) ([]:List Mark) ([]:List Event),y1)) else match Zlp (x0,x2) with
  | some y2 => match Zjh (Wld.mk (Config.mk (0:Int) (0:Int) (0:Int) (0:Int) (0:Int) (0:Int) (0:Int) (0:Int) false (0:Int) (0:Int) (0:Int)) (Memo.mk ([]:List Int) ([]:List (List Entry))) ([]:List Thread) (0:Int) (0:Int) (Tape.mk ([]:List Int) (0:Int)) ([]:List Mark) ([]:List Event),y2.fst,y2.snd,x1,(↑x1.length:Int),(0:Int)) with
   | some y3 => some ((y3.snd.fst,(0:Int),y3.snd.snd))
   | none=>none
  | none=>none
 | none=>none
def ZiI (x:Config×(List SEntry)×(List Int)):Option (Wld×Int×Int):=Ze6 x.1 x.2.1 x.2.2
def ZuO (x0:Wld) (x1:SEntry):Option (Wld×Int) := match ZfY (x0.c,x1) with
 | some y1 => bif y1 != (0:Int) then some ((x0,y1)) else match Ziq x0.t with
  | some y2 => match ZjA x0.log with
   | some y3 => match Zjk x0.hist with
    | some y4 => bif x1.kind == (1:Int) then bif decide ((0:Int)<=x1.t) then bif decide (x1.t<(↑(List.length y2):Int)) then match ZbE (List.getD y2 x1.t.toNat Zax) with
      | some y5 => bif y5 then bif fewB (List.length y4+(Event.mk (3:Int) x1.t x1.item x1.op (0:Int) false x0.steps::([]:List Event)).length) then some (({ x0 with t:=y2,log:=y3,hist:=y4++Event.mk (3:Int) x1.t x1.item x1.op (0:Int) false x0.steps::([]:List Event) },(170:Int))) else none else match ZcP (x0.c,x1.t,List.getD y2 x1.t.toNat Zax,x1.item,x1.op,x0.now) with
       | some y6 => bif fewB (List.length y4+(Event.mk (1:Int) x1.t x1.item x1.op (0:Int) false x0.steps::([]:List Event)).length) then some (({ x0 with t:=List.set y2 x1.t.toNat y6,log:=y3,hist:=y4++Event.mk (1:Int) x1.t x1.item x1.op (0:Int) false x0.steps::([]:List Event) },(0:Int))) else none
       | none=>none
      | none=>none else none else none else bif x1.kind == (2:Int) then match Zb9 { x0 with t:=y2,log:=y3,hist:=y4 } x1.t with
     | some y5 => some ((y5,(0:Int)))
     | none=>none else bif x1.kind == (3:Int) then some (({ x0 with t:=y2,now:=Zaf IntKind.i64 (x0.now+(1:Int)),log:=y3,hist:=y4 },(0:Int))) else some (({ x0 with t:=y2,log:=y3,hist:=y4 },(0:Int)))
    | none=>none
   | none=>none
  | none=>none
 | none=>none
def Zvs (x:Wld×SEntry):Option (Wld×Int):=ZuO x.1 x.2
end Go.Proofs.Mill
