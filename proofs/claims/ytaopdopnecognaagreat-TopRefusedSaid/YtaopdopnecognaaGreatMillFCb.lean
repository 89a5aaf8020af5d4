/- What the functions compute. -/
import Derived.Test.YtaopdopnecognaaGreatMillAll3
import Derived.Test.YtaopdopnecognaaGreatMillFT3b
set_option linter.all false
noncomputable section
namespace Go.Proofs.Mill
def Zlv (x0:Config) (x1:List Int):Option (Wld×Int) := match Zef x0 with
 | some y1 => bif y1 != 0 then some ((Wld.mk (Config.mk 0 0 0 0 0 0 0 0 false 0 0 0) (Memo.mk ([]:List Int) ([]:List (List Entry))) ([]:List Thread) 0 0 (Tape.mk ([]:List Int) 0) ([]:List Mark) ([]:List Event),y1)) else match ZjB x0 with
  | some y2 => match ZkK () with
   | some y3 => match Zdb (y3::[],x0.threads) with
    | some y4 => match Zby x1 with
     | some y5 => some ((Wld.mk x0 y2 y4 0 0 (Tape.mk y5 0) ([]:List Mark) ([]:List Event),0))
     | none=>none
    | none=>none
   | none=>none
  | none=>none
 | none=>none
def ZgP (x:Config×(List Int)):Option (Wld×Int):=Zlv x.1 x.2
def ZfC (x0:Wld) (x1:Wld) (x2:Int) (x3:List SEntry) (x4:Int) (x5:Int):Option ((Wld×Wld×Int×(List SEntry)×Int×Int)⊕((Wld×Wld×Int))) := bif decide (x5<x4) then bif decide (0<=x5) then bif decide (x5<(↑x3.length:Int)) then bif (x3.getD x5.toNat ZaG).kind == 1 then bif decide (0<=(x3.getD x5.toNat ZaG).t) then bif decide ((x3.getD x5.toNat ZaG).t<(↑x1.t.length:Int)) then match Zbt (x1.t.getD (x3.getD x5.toNat ZaG).t.toNat Zas) with
  | some y1 => bif y1 then bif fewB (x1.hist.length+(Event.mk 3 (x3.getD x5.toNat ZaG).t (x3.getD x5.toNat ZaG).item (x3.getD x5.toNat ZaG).op 0 false x1.steps::[]).length) then some (Sum.inl (x0,{ x1 with hist:=x1.hist++Event.mk 3 (x3.getD x5.toNat ZaG).t (x3.getD x5.toNat ZaG).item (x3.getD x5.toNat ZaG).op 0 false x1.steps::[] },x2,x3,x4,Zad .i64 (x5+1))) else none else match Ze3 (x1.c,(x3.getD x5.toNat ZaG).t,x1.t.getD (x3.getD x5.toNat ZaG).t.toNat Zas,(x3.getD x5.toNat ZaG).item,(x3.getD x5.toNat ZaG).op,x1.now) with
   | some y2 => bif fewB (x1.hist.length+(Event.mk 1 (x3.getD x5.toNat ZaG).t (x3.getD x5.toNat ZaG).item (x3.getD x5.toNat ZaG).op 0 false x1.steps::[]).length) then some (Sum.inl (x0,{ x1 with t:=x1.t.set (x3.getD x5.toNat ZaG).t.toNat y2,hist:=x1.hist++Event.mk 1 (x3.getD x5.toNat ZaG).t (x3.getD x5.toNat ZaG).item (x3.getD x5.toNat ZaG).op 0 false x1.steps::[] },x2,x3,x4,Zad .i64 (x5+1))) else none
   | none=>none
  | none=>none else none else none else bif (x3.getD x5.toNat ZaG).kind == 2 then match Zb3 x1 (x3.getD x5.toNat ZaG).t with
 | some y1 => some (Sum.inl (x0,y1,x2,x3,x4,Zad .i64 (x5+1)))
 | none=>none else bif (x3.getD x5.toNat ZaG).kind == 3 then some (Sum.inl (x0,{ x1 with now:=Zad .i64 (x1.now+1) },x2,x3,x4,Zad .i64 (x5+1))) else some (Sum.inl (x0,x1,x2,x3,x4,Zad .i64 (x5+1))) else none else none else some (Sum.inr (x0,x1,x2))
def Zg6 (x:Wld×Wld×Int×(List SEntry)×Int×Int):Option ((Wld×Wld×Int×(List SEntry)×Int×Int)⊕((Wld×Wld×Int))):=ZfC x.1 x.2.1 x.2.2.1 x.2.2.2.1 x.2.2.2.2.1 x.2.2.2.2.2
def ZjR (x:Wld×Wld×Int×(List SEntry)×Int×Int):Option (Wld×Wld×Int):=ZaC Zg6 x
def Zeb (x0:Config) (x1:List SEntry) (x2:List Int):Option (Wld×Int×Int) := match ZhJ (x0,x1) with
 | some y1 => bif y1.snd != 0 then some ((Wld.mk (Config.mk 0 0 0 0 0 0 0 0 false 0 0 0) (Memo.mk ([]:List Int) ([]:List (List Entry))) ([]:List Thread) 0 0 (Tape.mk ([]:List Int) 0) ([]:List Mark) ([]:List Event),y1)) else match ZgP (x0,x2) with
  | some y2 => match ZjR (Wld.mk (Config.mk 0 0 0 0 0 0 0 0 false 0 0 0) (Memo.mk ([]:List Int) ([]:List (List Entry))) ([]:List Thread) 0 0 (Tape.mk ([]:List Int) 0) ([]:List Mark) ([]:List Event),y2.fst,y2.snd,x1,(↑x1.length:Int),0) with
   | some y3 => some ((y3.snd.fst,0,y3.snd.snd))
   | none=>none
  | none=>none
 | none=>none
def ZcW (x:Config×(List SEntry)×(List Int)):Option (Wld×Int×Int):=Zeb x.1 x.2.1 x.2.2
def ZsA:Option Bool := match Zct (Config.mk 2 1 2 1 0 1 0 0 false 0 0 0,20) with
 | some y1 => bif fewB ((SEntry.mk 1 0 0 (Op.mk 1 1)::SEntry.mk 2 0 0 (Op.mk 0 0)::SEntry.mk 2 1 0 (Op.mk 0 0)::SEntry.mk 3 0 0 (Op.mk 0 0)::SEntry.mk 2 0 0 (Op.mk 0 0)::[]++SEntry.mk 1 1 0 (Op.mk 1 2)::[]).length+List.length y1) then match ZcW (Config.mk 2 1 2 1 0 1 0 0 false 0 0 0,SEntry.mk 1 0 0 (Op.mk 1 1)::SEntry.mk 2 0 0 (Op.mk 0 0)::SEntry.mk 2 1 0 (Op.mk 0 0)::SEntry.mk 3 0 0 (Op.mk 0 0)::SEntry.mk 2 0 0 (Op.mk 0 0)::[]++SEntry.mk 1 1 0 (Op.mk 1 2)::[]++y1,([]:List Int)) with
  | some y2 => match ZcY (Config.mk 2 1 2 1 0 1 0 0 false 0 0 0,SEntry.mk 1 0 0 (Op.mk 1 1)::SEntry.mk 2 0 0 (Op.mk 0 0)::SEntry.mk 2 1 0 (Op.mk 0 0)::SEntry.mk 3 0 0 (Op.mk 0 0)::SEntry.mk 2 0 0 (Op.mk 0 0)::[]) with
   | some y3 => bif y3 == 1 then match ZcK (Config.mk 2 1 2 1 0 1 0 0 false 0 0 0) with
    | some y4 => bif y4 == 244 then match ZeW (Config.mk 2 1 2 1 0 1 0 0 false 0 0 0) with
     | some y5 => bif (↑(List.length y5):Int) == 2 then match ZeO (Config.mk 2 1 2 1 0 1 0 0 false 0 0 0,SEntry.mk 1 0 0 (Op.mk 1 1)::SEntry.mk 2 0 0 (Op.mk 0 0)::SEntry.mk 2 1 0 (Op.mk 0 0)::SEntry.mk 3 0 0 (Op.mk 0 0)::SEntry.mk 2 0 0 (Op.mk 0 0)::[]) with
      | some y6 => bif !y6 then bif y2.snd.snd == 0 then match Zel y2.fst with
       | some y7 => bif y7 == 0 then bif (↑y2.fst.m.words.length:Int) == 6 then bif decide (0<(↑y2.fst.m.words.length:Int)) then some (y2.fst.m.words.getD (Int.toNat 0) 0 == 3) else none else some (false) else some (false)
       | none=>none else some (false) else some (false)
      | none=>none else some (false)
     | none=>none else some (false)
    | none=>none else some (false)
   | none=>none
  | none=>none else none
 | none=>none
def Za6 (x:Unit):Option Bool:=ZsA
def ZoG (x0:Config) (x1:List SEntry) (x2:Int):Option Bool := match ZgO x0 with
 | some y1 => bif !y1 then match Za6 () with
  | some y2 => some y2
  | none=>none else bif decide ((↑x1.length:Int)>500) then match Za6 () with
   | some y2 => some y2
   | none=>none else match Za6 () with
   | some y2 => bif !y2 then match Za6 () with
    | some y3 => some y3
    | none=>none else match ZcK x0 with
    | some y3 => match Zis x0 with
     | some y4 => bif y3 == y4 then match ZeW x0 with
      | some y5 => match ZgL y5 with
       | some y6 => match ZmV x0 with
        | some y7 => match Zkq (y6,y7) with
         | some y8 => bif y8 then match Zct (x0,if 200<x2 then 200 else x2) with
          | some y9 => match ZgL y9 with
           | some y10 => match ZiF (x0,if 200<x2 then 200 else x2) with
            | some y11 => match Zkq (y10,y11) with
             | some y12 => bif y12 then match ZcY (x0,x1) with
              | some y13 => match ZgL x1 with
               | some y14 => match ZjL (x0,y14) with
                | some y15 => bif y13 == y15 then match ZeO (x0,x1) with
                 | some y16 => match ZgL x1 with
                  | some y17 => match ZnF (x0,y17) with
                   | some y18 => some (y16 == y18)
                   | none=>none
                  | none=>none
                 | none=>none else some (false)
                | none=>none
               | none=>none
              | none=>none else some (false)
             | none=>none
            | none=>none
           | none=>none
          | none=>none else some (false)
         | none=>none
        | none=>none
       | none=>none
      | none=>none else some (false)
     | none=>none
    | none=>none
   | none=>none
 | none=>none
def ZoP (x:Config×(List SEntry)×Int):Option Bool:=ZoG x.1 x.2.1 x.2.2
def ZlJ (x0:List SEntry) (x1:Int) (x2:Config) (x3:Int) (x4:List SEntry) (x5:Int) (x6:List SEntry) (x7:List SEntry) (x8:List SEntry) (x9:Int):Option (((List SEntry)×Int×Config×Int×(List SEntry)×Int×(List SEntry)×(List SEntry)×(List SEntry)×Int)⊕(((List SEntry)×Config×Int×(List SEntry)×Int×(List SEntry)×(List SEntry)×(List SEntry)))) := bif decide (x9<(↑x6.length:Int)) then bif x9.tmod 97 == IntKind.i64.wrap x1 then bif fewB (x8.length+(SEntry.mk 3 0 0 (Op.mk 0 0)::[]).length) then bif decide (0<=x9) then bif decide (x9<(↑x6.length:Int)) then bif fewB ((x8++SEntry.mk 3 0 0 (Op.mk 0 0)::[]).length+(x6.getD x9.toNat ZaG::[]).length) then some (Sum.inl (x0,x1,x2,x3,x4,x5,x6,x7,x8++SEntry.mk 3 0 0 (Op.mk 0 0)::[]++x6.getD x9.toNat ZaG::[],Zad .i64 (x9+1))) else none else none else none else none else bif decide (0<=x9) then bif decide (x9<(↑x6.length:Int)) then bif fewB (x8.length+(x6.getD x9.toNat ZaG::[]).length) then some (Sum.inl (x0,x1,x2,x3,x4,x5,x6,x7,x8++x6.getD x9.toNat ZaG::[],Zad .i64 (x9+1))) else none else none else none else some (Sum.inr (x0,x2,x3,x4,x5,x6,x7,x8))
def Zl1 (x:(List SEntry)×Int×Config×Int×(List SEntry)×Int×(List SEntry)×(List SEntry)×(List SEntry)×Int):Option (((List SEntry)×Int×Config×Int×(List SEntry)×Int×(List SEntry)×(List SEntry)×(List SEntry)×Int)⊕(((List SEntry)×Config×Int×(List SEntry)×Int×(List SEntry)×(List SEntry)×(List SEntry)))):=ZlJ x.1 x.2.1 x.2.2.1 x.2.2.2.1 x.2.2.2.2.1 x.2.2.2.2.2.1 x.2.2.2.2.2.2.1 x.2.2.2.2.2.2.2.1 x.2.2.2.2.2.2.2.2.1 x.2.2.2.2.2.2.2.2.2
def Zl0 (x:(List SEntry)×Int×Config×Int×(List SEntry)×Int×(List SEntry)×(List SEntry)×(List SEntry)×Int):Option (((List SEntry)×Config×Int×(List SEntry)×Int×(List SEntry)×(List SEntry)×(List SEntry))):=ZaC Zl1 x
def ZnK (x0:Config) (x1:List SEntry) (x2:Op) (x3:Int) (x4:Int):Option Bool := match ZgO x0 with
 | some y1 => bif !y1 then match Za6 () with
  | some y2 => some y2
  | none=>none else bif decide ((↑x1.length:Int)>200) then match Za6 () with
   | some y2 => some y2
   | none=>none else bif decide (x0.threads>6) then match Za6 () with
    | some y2 => some y2
    | none=>none else bif decide (x0.depth>3) then match Za6 () with
     | some y2 => some y2
     | none=>none else bif decide (x0.layers>2) then match Za6 () with
      | some y2 => some y2
      | none=>none else bif decide (x0.spin>5) then match Za6 () with
       | some y2 => some y2
       | none=>none else match Za6 () with
       | some y2 => bif !y2 then match Za6 () with
        | some y3 => some y3
        | none=>none else bif decide (x0.threads=0) then none else bif fewB ((0:Nat)+x1.length) then bif fewB (x1.length+(SEntry.mk 1 ((IntKind.i64.wrap x3).tmod x0.threads) 0 x2::[]).length) then match ZcK x0 with
         | some y3 => match Zct (x0,y3) with
          | some y4 => bif (↑(List.length y4):Int) != Zad .i64 (y3*x0.threads) then some (false) else bif fewB ((0:Nat)+(x1++SEntry.mk 1 ((IntKind.i64.wrap x3).tmod x0.threads) 0 x2::[]).length) then bif fewB ((x1++SEntry.mk 1 ((IntKind.i64.wrap x3).tmod x0.threads) 0 x2::[]).length+List.length y4) then bif fewB ((0:Nat)+(x1++SEntry.mk 1 ((IntKind.i64.wrap x3).tmod x0.threads) 0 x2::[]).length) then match Zl0 (x1,x4,x0,(IntKind.i64.wrap x3).tmod x0.threads,x1++SEntry.mk 1 ((IntKind.i64.wrap x3).tmod x0.threads) 0 x2::[],y3,y4,x1++SEntry.mk 1 ((IntKind.i64.wrap x3).tmod x0.threads) 0 x2::[]++y4,x1++SEntry.mk 1 ((IntKind.i64.wrap x3).tmod x0.threads) 0 x2::[],0) with
           | some y5 => bif fewB ((0:Nat)+List.length y5.snd.snd.snd.fst) then bif fewB (List.length y5.snd.snd.snd.fst+(SEntry.mk 2 y5.snd.snd.fst 0 (Op.mk 0 0)::[]).length) then bif fewB ((y5.snd.snd.snd.fst++SEntry.mk 2 y5.snd.snd.fst 0 (Op.mk 0 0)::[]).length+List.length y5.snd.snd.snd.snd.snd.fst) then match ZeO (y5.snd.fst,y5.snd.snd.snd.snd.snd.snd.fst) with
            | some y6 => bif y6 then match ZcY (y5.snd.fst,y5.snd.snd.snd.snd.snd.snd.fst) with
             | some y7 => bif y7 == y5.snd.snd.snd.snd.fst then match ZeO (y5.snd.fst,y5.snd.snd.snd.snd.snd.snd.snd) with
              | some y8 => bif y8 then bif fewB ((0:Nat)+List.length y5.snd.snd.snd.snd.snd.snd.fst) then bif decide ((↑(List.length y5.fst):Int)<(↑(List.length y5.snd.snd.snd.fst):Int)) then bif fewB (List.length y5.snd.snd.snd.snd.snd.snd.fst+(List.getD y5.snd.snd.snd.fst (↑(List.length y5.fst):Int).toNat ZaG::[]).length) then match ZeO (y5.snd.fst,y5.snd.snd.snd.snd.snd.snd.fst++List.getD y5.snd.snd.snd.fst (↑(List.length y5.fst):Int).toNat ZaG::[]) with
               | some y9 => bif !y9 then match ZeO (y5.snd.fst,y5.snd.snd.snd.fst++SEntry.mk 2 y5.snd.snd.fst 0 (Op.mk 0 0)::[]++y5.snd.snd.snd.snd.snd.fst) with
                | some y10 => some (y10 == (y5.snd.fst.threads == 1))
                | none=>none else some (false)
               | none=>none else none else none else none else some (false)
              | none=>none else some (false)
             | none=>none else some (false)
            | none=>none else none else none else none
           | none=>none else none else none else none
          | none=>none
         | none=>none else none else none
       | none=>none
 | none=>none
def Znw (x:Config×(List SEntry)×Op×Int×Int):Option Bool:=ZnK x.1 x.2.1 x.2.2.1 x.2.2.2.1 x.2.2.2.2
def ZpH (x0:Config) (x1:Int) (x2:Int) (x3:Op) (x4:List Int):Option Bool := match ZgO x0 with
 | some y1 => bif !y1 then match Za6 () with
  | some y2 => some y2
  | none=>none else bif decide ((↑x4.length:Int)>100) then match Za6 () with
   | some y2 => some y2
   | none=>none else match Zo8 (x3,x0.bounded) with
   | some y2 => bif !y2 then match Za6 () with
    | some y3 => some y3
    | none=>none else match Za6 () with
    | some y3 => bif !y3 then match Za6 () with
     | some y4 => some y4
     | none=>none else bif decide (x0.threads=0) then none else bif decide (x0.items=0) then none else match Zct (x0,Zad .i64 (Zad .i64 (20+Zad .i64 (8*x0.depth))+Zad .i64 (x0.layers*Zad .i64 (20+Zad .i64 (2*x0.spin))))) with
      | some y4 => bif fewB ((SEntry.mk 1 ((IntKind.i64.wrap x1).tmod x0.threads) ((IntKind.i64.wrap x2).tmod x0.items) x3::[]).length+List.length y4) then match ZcW (x0,SEntry.mk 1 ((IntKind.i64.wrap x1).tmod x0.threads) ((IntKind.i64.wrap x2).tmod x0.items) x3::[]++y4,x4) with
       | some y5 => bif y5.snd.snd == 0 then match Zel y5.fst with
        | some y6 => bif y6 == 0 then bif (↑y5.fst.hist.length:Int) == 2 then bif decide (1<(↑y5.fst.hist.length:Int)) then bif (y5.fst.hist.getD (Int.toNat 1) ZeG).kind == 2 then bif decide (1<(↑y5.fst.hist.length:Int)) then bif (y5.fst.hist.getD (Int.toNat 1) ZeG).prior == x0.init then some ((↑y5.fst.log.length:Int) == 1) else some (false) else none else some (false) else none else some (false) else some (false)
        | none=>none else some (false)
       | none=>none else none
      | none=>none
    | none=>none
   | none=>none
 | none=>none
def ZpG (x:Config×Int×Int×Op×(List Int)):Option Bool:=ZpH x.1 x.2.1 x.2.2.1 x.2.2.2.1 x.2.2.2.2
def ZnR (x0:List SEntry) (x1:Config) (x2:Int) (x3:List SEntry) (x4:Int):Option (((List SEntry)×Config×Int×(List SEntry)×Int)⊕(((List SEntry)×Config×Int×(List SEntry))⊕(Bool))) := bif decide (x4<(↑x0.length:Int)) then bif decide (0<=x4) then bif decide (x4<(↑x0.length:Int)) then bif (x0.getD x4.toNat ZaG).kind == 1 then some (Sum.inr (Sum.inr true)) else some (Sum.inl (x0,x1,x2,x3,Zad .i64 (x4+1))) else none else none else some (Sum.inr (Sum.inl (x0,x1,x2,x3)))
def Znj (x:(List SEntry)×Config×Int×(List SEntry)×Int):Option (((List SEntry)×Config×Int×(List SEntry)×Int)⊕(((List SEntry)×Config×Int×(List SEntry))⊕(Bool))):=ZnR x.1 x.2.1 x.2.2.1 x.2.2.2.1 x.2.2.2.2
def Zod (x:(List SEntry)×Config×Int×(List SEntry)×Int):Option (((List SEntry)×Config×Int×(List SEntry))⊕(Bool)):=ZaC Znj x
def Zpq (x0:Config) (x1:Int) (x2:List SEntry):Option Bool := match ZgO x0 with
 | some y1 => bif !y1 then match Za6 () with
  | some y2 => some y2
  | none=>none else bif decide ((↑x2.length:Int)>200) then match Za6 () with
   | some y2 => some y2
   | none=>none else match Za6 () with
   | some y2 => bif !y2 then match Za6 () with
    | some y3 => some y3
    | none=>none else match Zct (x0,(IntKind.i64.wrap x1).tmod 60) with
    | some y3 => match Zod (x2,x0,(IntKind.i64.wrap x1).tmod 60,y3,0) with
     | some (.inl y4) => match ZcY (y4.snd.fst,y4.snd.snd.snd) with
      | some y5 => bif fewB ((0:Nat)+List.length y4.snd.snd.snd) then bif fewB (List.length y4.snd.snd.snd+List.length y4.fst) then match ZcY (y4.snd.fst,y4.snd.snd.snd++y4.fst) with
       | some y6 => bif y5 == y4.snd.snd.fst then bif fewB ((0:Nat)+List.length y4.snd.snd.snd) then match ZeW y4.snd.fst with
        | some y7 => bif fewB (List.length y4.snd.snd.snd+List.length y7) then match ZcY (y4.snd.fst,y4.snd.snd.snd++y7) with
         | some y8 => bif y8 == Zad .i64 (y4.snd.snd.fst+1) then bif decide (y6>=y4.snd.snd.fst) then match ZcY (y4.snd.fst,y4.fst) with
          | some y9 => some (y6 == Zad .i64 (y4.snd.snd.fst+y9))
          | none=>none else some (false) else some (false)
         | none=>none else none
        | none=>none else none else some (false)
       | none=>none else none else none
      | none=>none
     | some (.inr y5) => some y5
     | none=>none
    | none=>none
   | none=>none
 | none=>none
def Zpx (x:Config×Int×(List SEntry)):Option Bool:=Zpq x.1 x.2.1 x.2.2
end Go.Proofs.Mill
