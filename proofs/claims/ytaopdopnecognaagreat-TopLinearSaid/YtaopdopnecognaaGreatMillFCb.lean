/- What the functions compute. -/
import Derived.Test.YtaopdopnecognaaGreatMillAll3
import Derived.Test.YtaopdopnecognaaGreatMillFT3b
set_option linter.all false
noncomputable section
namespace Go.Proofs.Mill
def ZlU (x0:Config) (x1:List Int):Option (Wld×Int) := match Zdo x0 with
 | some y1 => bif y1 != 0 then some ((Wld.mk (Config.mk 0 0 0 0 0 0 0 0 false 0 0 0) (Memo.mk ([]:List Int) ([]:List (List Entry))) ([]:List Thread) 0 0 (Tape.mk ([]:List Int) 0) ([]:List Mark) ([]:List Event),y1)) else match Zj3 x0 with
  | some y2 => match Zky () with
   | some y3 => match Zdk (y3::[],x0.threads) with
    | some y4 => match Zbs x1 with
     | some y5 => some ((Wld.mk x0 y2 y4 0 0 (Tape.mk y5 0) ([]:List Mark) ([]:List Event),0))
     | none=>none
    | none=>none
   | none=>none
  | none=>none
 | none=>none
def Zi9 (x:Config×(List Int)):Option (Wld×Int):=ZlU x.1 x.2
def ZfD (x0:Wld) (x1:Wld) (x2:Int) (x3:List SEntry) (x4:Int) (x5:Int):Option ((Wld×Wld×Int×(List SEntry)×Int×Int)⊕((Wld×Wld×Int))) := bif decide (x5<x4) then bif decide (0<=x5) then bif decide (x5<(↑x3.length:Int)) then bif (x3.getD x5.toNat ZaE).kind == 1 then bif decide (0<=(x3.getD x5.toNat ZaE).t) then bif decide ((x3.getD x5.toNat ZaE).t<(↑x1.t.length:Int)) then match ZbE (x1.t.getD (x3.getD x5.toNat ZaE).t.toNat Zaw) with
  | some y1 => bif y1 then bif fewB (x1.hist.length+(Event.mk 3 (x3.getD x5.toNat ZaE).t (x3.getD x5.toNat ZaE).item (x3.getD x5.toNat ZaE).op 0 false x1.steps::[]).length) then some (Sum.inl (x0,{ x1 with hist:=x1.hist++Event.mk 3 (x3.getD x5.toNat ZaE).t (x3.getD x5.toNat ZaE).item (x3.getD x5.toNat ZaE).op 0 false x1.steps::[] },x2,x3,x4,Zac .i64 (x5+1))) else none else match ZgI (x1.c,(x3.getD x5.toNat ZaE).t,x1.t.getD (x3.getD x5.toNat ZaE).t.toNat Zaw,(x3.getD x5.toNat ZaE).item,(x3.getD x5.toNat ZaE).op,x1.now) with
   | some y2 => bif fewB (x1.hist.length+(Event.mk 1 (x3.getD x5.toNat ZaE).t (x3.getD x5.toNat ZaE).item (x3.getD x5.toNat ZaE).op 0 false x1.steps::[]).length) then some (Sum.inl (x0,{ x1 with t:=x1.t.set (x3.getD x5.toNat ZaE).t.toNat y2,hist:=x1.hist++Event.mk 1 (x3.getD x5.toNat ZaE).t (x3.getD x5.toNat ZaE).item (x3.getD x5.toNat ZaE).op 0 false x1.steps::[] },x2,x3,x4,Zac .i64 (x5+1))) else none
   | none=>none
  | none=>none else none else none else bif (x3.getD x5.toNat ZaE).kind == 2 then match Zb6 x1 (x3.getD x5.toNat ZaE).t with
 | some y1 => some (Sum.inl (x0,y1,x2,x3,x4,Zac .i64 (x5+1)))
 | none=>none else bif (x3.getD x5.toNat ZaE).kind == 3 then some (Sum.inl (x0,{ x1 with now:=Zac .i64 (x1.now+1) },x2,x3,x4,Zac .i64 (x5+1))) else some (Sum.inl (x0,x1,x2,x3,x4,Zac .i64 (x5+1))) else none else none else some (Sum.inr (x0,x1,x2))
def Zho (x:Wld×Wld×Int×(List SEntry)×Int×Int):Option ((Wld×Wld×Int×(List SEntry)×Int×Int)⊕((Wld×Wld×Int))):=ZfD x.1 x.2.1 x.2.2.1 x.2.2.2.1 x.2.2.2.2.1 x.2.2.2.2.2
def ZjQ (x:Wld×Wld×Int×(List SEntry)×Int×Int):Option (Wld×Wld×Int):=ZaA Zho x
def ZcO (x0:Config) (x1:List SEntry) (x2:List Int):Option (Wld×Int×Int) := match Zgc (x0,x1) with
 | some y1 => bif y1.snd != 0 then some ((Wld.mk (Config.mk 0 0 0 0 0 0 0 0 false 0 0 0) (Memo.mk ([]:List Int) ([]:List (List Entry))) ([]:List Thread) 0 0 (Tape.mk ([]:List Int) 0) ([]:List Mark) ([]:List Event),y1)) else match Zi9 (x0,x2) with
  | some y2 => match ZjQ (Wld.mk (Config.mk 0 0 0 0 0 0 0 0 false 0 0 0) (Memo.mk ([]:List Int) ([]:List (List Entry))) ([]:List Thread) 0 0 (Tape.mk ([]:List Int) 0) ([]:List Mark) ([]:List Event),y2.fst,y2.snd,x1,(↑x1.length:Int),0) with
   | some y3 => some ((y3.snd.fst,0,y3.snd.snd))
   | none=>none
  | none=>none
 | none=>none
def ZcI (x:Config×(List SEntry)×(List Int)):Option (Wld×Int×Int):=ZcO x.1 x.2.1 x.2.2
def ZsT:Option Bool := match ZdW (Config.mk 2 1 2 1 0 1 0 0 false 0 0 0,20) with
 | some y1 => bif fewB ((SEntry.mk 1 0 0 (Op.mk 1 1)::SEntry.mk 2 0 0 (Op.mk 0 0)::SEntry.mk 2 1 0 (Op.mk 0 0)::SEntry.mk 3 0 0 (Op.mk 0 0)::SEntry.mk 2 0 0 (Op.mk 0 0)::[]++SEntry.mk 1 1 0 (Op.mk 1 2)::[]).length+List.length y1) then match ZcI (Config.mk 2 1 2 1 0 1 0 0 false 0 0 0,SEntry.mk 1 0 0 (Op.mk 1 1)::SEntry.mk 2 0 0 (Op.mk 0 0)::SEntry.mk 2 1 0 (Op.mk 0 0)::SEntry.mk 3 0 0 (Op.mk 0 0)::SEntry.mk 2 0 0 (Op.mk 0 0)::[]++SEntry.mk 1 1 0 (Op.mk 1 2)::[]++y1,([]:List Int)) with
  | some y2 => match ZhN (Config.mk 2 1 2 1 0 1 0 0 false 0 0 0,SEntry.mk 1 0 0 (Op.mk 1 1)::SEntry.mk 2 0 0 (Op.mk 0 0)::SEntry.mk 2 1 0 (Op.mk 0 0)::SEntry.mk 3 0 0 (Op.mk 0 0)::SEntry.mk 2 0 0 (Op.mk 0 0)::[]) with
   | some y3 => bif y3 == 1 then match Zdh (Config.mk 2 1 2 1 0 1 0 0 false 0 0 0) with
    | some y4 => bif y4 == 244 then match ZhL (Config.mk 2 1 2 1 0 1 0 0 false 0 0 0) with
     | some y5 => bif (↑(List.length y5):Int) == 2 then match ZfY (Config.mk 2 1 2 1 0 1 0 0 false 0 0 0,SEntry.mk 1 0 0 (Op.mk 1 1)::SEntry.mk 2 0 0 (Op.mk 0 0)::SEntry.mk 2 1 0 (Op.mk 0 0)::SEntry.mk 3 0 0 (Op.mk 0 0)::SEntry.mk 2 0 0 (Op.mk 0 0)::[]) with
      | some y6 => bif !y6 then bif y2.snd.snd == 0 then match Ze1 y2.fst with
       | some y7 => bif y7 == 0 then bif (↑y2.fst.m.words.length:Int) == 6 then bif decide (0<(↑y2.fst.m.words.length:Int)) then some (y2.fst.m.words.getD (Int.toNat 0) 0 == 3) else none else some (false) else some (false)
       | none=>none else some (false) else some (false)
      | none=>none else some (false)
     | none=>none else some (false)
    | none=>none else some (false)
   | none=>none
  | none=>none else none
 | none=>none
def ZcW (x:Unit):Option Bool:=ZsT
def ZlY (x0:List SEntry) (x1:Int) (x2:Config) (x3:Int) (x4:List SEntry) (x5:Int) (x6:List SEntry) (x7:List SEntry) (x8:List SEntry) (x9:Int):Option (((List SEntry)×Int×Config×Int×(List SEntry)×Int×(List SEntry)×(List SEntry)×(List SEntry)×Int)⊕(((List SEntry)×Config×Int×(List SEntry)×Int×(List SEntry)×(List SEntry)×(List SEntry)))) := bif decide (x9<(↑x6.length:Int)) then bif x9.tmod 97 == IntKind.i64.wrap x1 then bif fewB (x8.length+(SEntry.mk 3 0 0 (Op.mk 0 0)::[]).length) then bif decide (0<=x9) then bif decide (x9<(↑x6.length:Int)) then bif fewB ((x8++SEntry.mk 3 0 0 (Op.mk 0 0)::[]).length+(x6.getD x9.toNat ZaE::[]).length) then some (Sum.inl (x0,x1,x2,x3,x4,x5,x6,x7,x8++SEntry.mk 3 0 0 (Op.mk 0 0)::[]++x6.getD x9.toNat ZaE::[],Zac .i64 (x9+1))) else none else none else none else none else bif decide (0<=x9) then bif decide (x9<(↑x6.length:Int)) then bif fewB (x8.length+(x6.getD x9.toNat ZaE::[]).length) then some (Sum.inl (x0,x1,x2,x3,x4,x5,x6,x7,x8++x6.getD x9.toNat ZaE::[],Zac .i64 (x9+1))) else none else none else none else some (Sum.inr (x0,x2,x3,x4,x5,x6,x7,x8))
def Zmf (x:(List SEntry)×Int×Config×Int×(List SEntry)×Int×(List SEntry)×(List SEntry)×(List SEntry)×Int):Option (((List SEntry)×Int×Config×Int×(List SEntry)×Int×(List SEntry)×(List SEntry)×(List SEntry)×Int)⊕(((List SEntry)×Config×Int×(List SEntry)×Int×(List SEntry)×(List SEntry)×(List SEntry)))):=ZlY x.1 x.2.1 x.2.2.1 x.2.2.2.1 x.2.2.2.2.1 x.2.2.2.2.2.1 x.2.2.2.2.2.2.1 x.2.2.2.2.2.2.2.1 x.2.2.2.2.2.2.2.2.1 x.2.2.2.2.2.2.2.2.2
def Zmn (x:(List SEntry)×Int×Config×Int×(List SEntry)×Int×(List SEntry)×(List SEntry)×(List SEntry)×Int):Option (((List SEntry)×Config×Int×(List SEntry)×Int×(List SEntry)×(List SEntry)×(List SEntry))):=ZaA Zmf x
def Zoj (x0:Config) (x1:List SEntry) (x2:Op) (x3:Int) (x4:Int):Option Bool := match ZpA x0 with
 | some y1 => bif !y1 then match ZcW () with
  | some y2 => some y2
  | none=>none else bif decide ((↑x1.length:Int)>200) then match ZcW () with
   | some y2 => some y2
   | none=>none else bif decide (x0.threads>6) then match ZcW () with
    | some y2 => some y2
    | none=>none else bif decide (x0.depth>3) then match ZcW () with
     | some y2 => some y2
     | none=>none else bif decide (x0.layers>2) then match ZcW () with
      | some y2 => some y2
      | none=>none else bif decide (x0.spin>5) then match ZcW () with
       | some y2 => some y2
       | none=>none else match ZcW () with
       | some y2 => bif !y2 then match ZcW () with
        | some y3 => some y3
        | none=>none else bif decide (x0.threads=0) then none else bif fewB ((0:Nat)+x1.length) then bif fewB (x1.length+(SEntry.mk 1 ((IntKind.i64.wrap x3).tmod x0.threads) 0 x2::[]).length) then match Zdh x0 with
         | some y3 => match ZdW (x0,y3) with
          | some y4 => bif (↑(List.length y4):Int) != Zac .i64 (y3*x0.threads) then some (false) else bif fewB ((0:Nat)+(x1++SEntry.mk 1 ((IntKind.i64.wrap x3).tmod x0.threads) 0 x2::[]).length) then bif fewB ((x1++SEntry.mk 1 ((IntKind.i64.wrap x3).tmod x0.threads) 0 x2::[]).length+List.length y4) then bif fewB ((0:Nat)+(x1++SEntry.mk 1 ((IntKind.i64.wrap x3).tmod x0.threads) 0 x2::[]).length) then match Zmn (x1,x4,x0,(IntKind.i64.wrap x3).tmod x0.threads,x1++SEntry.mk 1 ((IntKind.i64.wrap x3).tmod x0.threads) 0 x2::[],y3,y4,x1++SEntry.mk 1 ((IntKind.i64.wrap x3).tmod x0.threads) 0 x2::[]++y4,x1++SEntry.mk 1 ((IntKind.i64.wrap x3).tmod x0.threads) 0 x2::[],0) with
           | some y5 => bif fewB ((0:Nat)+List.length y5.snd.snd.snd.fst) then bif fewB (List.length y5.snd.snd.snd.fst+(SEntry.mk 2 y5.snd.snd.fst 0 (Op.mk 0 0)::[]).length) then bif fewB ((y5.snd.snd.snd.fst++SEntry.mk 2 y5.snd.snd.fst 0 (Op.mk 0 0)::[]).length+List.length y5.snd.snd.snd.snd.snd.fst) then match ZfY (y5.snd.fst,y5.snd.snd.snd.snd.snd.snd.fst) with
            | some y6 => bif y6 then match ZhN (y5.snd.fst,y5.snd.snd.snd.snd.snd.snd.fst) with
             | some y7 => bif y7 == y5.snd.snd.snd.snd.fst then match ZfY (y5.snd.fst,y5.snd.snd.snd.snd.snd.snd.snd) with
              | some y8 => bif y8 then bif fewB ((0:Nat)+List.length y5.snd.snd.snd.snd.snd.snd.fst) then bif decide ((↑(List.length y5.fst):Int)<(↑(List.length y5.snd.snd.snd.fst):Int)) then bif fewB (List.length y5.snd.snd.snd.snd.snd.snd.fst+(List.getD y5.snd.snd.snd.fst (↑(List.length y5.fst):Int).toNat ZaE::[]).length) then match ZfY (y5.snd.fst,y5.snd.snd.snd.snd.snd.snd.fst++List.getD y5.snd.snd.snd.fst (↑(List.length y5.fst):Int).toNat ZaE::[]) with
               | some y9 => bif !y9 then match ZfY (y5.snd.fst,y5.snd.snd.snd.fst++SEntry.mk 2 y5.snd.snd.fst 0 (Op.mk 0 0)::[]++y5.snd.snd.snd.snd.snd.fst) with
                | some y10 => some (y10 == (y5.snd.fst.threads == 1))
                | none=>none else some (false)
               | none=>none else none else none else none else some (false)
              | none=>none else some (false)
             | none=>none else some (false)
            | none=>none else none else none else none
           | none=>none else none else none else none
          | none=>none
         | none=>none else none else none
       | none=>none
 | none=>none
def ZnO (x:Config×(List SEntry)×Op×Int×Int):Option Bool:=Zoj x.1 x.2.1 x.2.2.1 x.2.2.2.1 x.2.2.2.2
end Go.Proofs.Mill
