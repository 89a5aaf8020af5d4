/- What the functions compute. -/
import Derived.Test.YtaopdopnecognaaGreatMillAll3
import Derived.Test.YtaopdopnecognaaGreatMillFT3b
set_option linter.all false
noncomputable section
namespace Go.Proofs.Mill
def Zlx (x0:Config) (x1:List Int):Option (Wld×Int) := match Zdi x0 with
 | some y1 => bif y1 != 0 then some ((Wld.mk (Config.mk 0 0 0 0 0 0 0 0 false 0 0 0) (Memo.mk ([]:List Int) ([]:List (List Entry))) ([]:List Thread) 0 0 (Tape.mk ([]:List Int) 0) ([]:List Mark) ([]:List Event),y1)) else match ZjJ x0 with
  | some y2 => match Zky () with
   | some y3 => match Zde (y3::[],x0.threads) with
    | some y4 => match Zbx x1 with
     | some y5 => some ((Wld.mk x0 y2 y4 0 0 (Tape.mk y5 0) ([]:List Mark) ([]:List Event),0))
     | none=>none
    | none=>none
   | none=>none
  | none=>none
 | none=>none
def Zlz (x:Config×(List Int)):Option (Wld×Int):=Zlx x.1 x.2
def Zfz (x0:Wld) (x1:Wld) (x2:Int) (x3:List SEntry) (x4:Int) (x5:Int):Option ((Wld×Wld×Int×(List SEntry)×Int×Int)⊕((Wld×Wld×Int))) := bif decide (x5<x4) then bif decide (0<=x5) then bif decide (x5<(↑x3.length:Int)) then bif (x3.getD x5.toNat ZaE).kind == 1 then bif decide (0<=(x3.getD x5.toNat ZaE).t) then bif decide ((x3.getD x5.toNat ZaE).t<(↑x1.t.length:Int)) then match Zb4 (x1.t.getD (x3.getD x5.toNat ZaE).t.toNat Zat) with
  | some y1 => bif y1 then bif fewB (x1.hist.length+(Event.mk 3 (x3.getD x5.toNat ZaE).t (x3.getD x5.toNat ZaE).item (x3.getD x5.toNat ZaE).op 0 false x1.steps::[]).length) then some (Sum.inl (x0,{ x1 with hist:=x1.hist++Event.mk 3 (x3.getD x5.toNat ZaE).t (x3.getD x5.toNat ZaE).item (x3.getD x5.toNat ZaE).op 0 false x1.steps::[] },x2,x3,x4,Zad .i64 (x5+1))) else none else match Ziy (x1.c,(x3.getD x5.toNat ZaE).t,x1.t.getD (x3.getD x5.toNat ZaE).t.toNat Zat,(x3.getD x5.toNat ZaE).item,(x3.getD x5.toNat ZaE).op,x1.now) with
   | some y2 => bif fewB (x1.hist.length+(Event.mk 1 (x3.getD x5.toNat ZaE).t (x3.getD x5.toNat ZaE).item (x3.getD x5.toNat ZaE).op 0 false x1.steps::[]).length) then some (Sum.inl (x0,{ x1 with t:=x1.t.set (x3.getD x5.toNat ZaE).t.toNat y2,hist:=x1.hist++Event.mk 1 (x3.getD x5.toNat ZaE).t (x3.getD x5.toNat ZaE).item (x3.getD x5.toNat ZaE).op 0 false x1.steps::[] },x2,x3,x4,Zad .i64 (x5+1))) else none
   | none=>none
  | none=>none else none else none else bif (x3.getD x5.toNat ZaE).kind == 2 then match Zcf x1 (x3.getD x5.toNat ZaE).t with
 | some y1 => some (Sum.inl (x0,y1,x2,x3,x4,Zad .i64 (x5+1)))
 | none=>none else bif (x3.getD x5.toNat ZaE).kind == 3 then some (Sum.inl (x0,{ x1 with now:=Zad .i64 (x1.now+1) },x2,x3,x4,Zad .i64 (x5+1))) else some (Sum.inl (x0,x1,x2,x3,x4,Zad .i64 (x5+1))) else none else none else some (Sum.inr (x0,x1,x2))
def Zg2 (x:Wld×Wld×Int×(List SEntry)×Int×Int):Option ((Wld×Wld×Int×(List SEntry)×Int×Int)⊕((Wld×Wld×Int))):=Zfz x.1 x.2.1 x.2.2.1 x.2.2.2.1 x.2.2.2.2.1 x.2.2.2.2.2
def Zjo (x:Wld×Wld×Int×(List SEntry)×Int×Int):Option (Wld×Wld×Int):=ZaI Zg2 x
def ZfH (x0:Config) (x1:List SEntry) (x2:List Int):Option (Wld×Int×Int) := match ZhH (x0,x1) with
 | some y1 => bif y1.snd != 0 then some ((Wld.mk (Config.mk 0 0 0 0 0 0 0 0 false 0 0 0) (Memo.mk ([]:List Int) ([]:List (List Entry))) ([]:List Thread) 0 0 (Tape.mk ([]:List Int) 0) ([]:List Mark) ([]:List Event),y1)) else match Zlz (x0,x2) with
  | some y2 => match Zjo (Wld.mk (Config.mk 0 0 0 0 0 0 0 0 false 0 0 0) (Memo.mk ([]:List Int) ([]:List (List Entry))) ([]:List Thread) 0 0 (Tape.mk ([]:List Int) 0) ([]:List Mark) ([]:List Event),y2.fst,y2.snd,x1,(↑x1.length:Int),0) with
   | some y3 => some ((y3.snd.fst,0,y3.snd.snd))
   | none=>none
  | none=>none
 | none=>none
def ZgT (x:Config×(List SEntry)×(List Int)):Option (Wld×Int×Int):=ZfH x.1 x.2.1 x.2.2
def ZmY:Option Bool := match Zdc (Config.mk 2 1 2 1 0 1 0 0 false 0 0 0,20) with
 | some y1 => bif fewB ((SEntry.mk 1 0 0 (Op.mk 1 1)::SEntry.mk 2 0 0 (Op.mk 0 0)::SEntry.mk 2 1 0 (Op.mk 0 0)::SEntry.mk 3 0 0 (Op.mk 0 0)::SEntry.mk 2 0 0 (Op.mk 0 0)::[]++SEntry.mk 1 1 0 (Op.mk 1 2)::[]).length+List.length y1) then match ZgT (Config.mk 2 1 2 1 0 1 0 0 false 0 0 0,SEntry.mk 1 0 0 (Op.mk 1 1)::SEntry.mk 2 0 0 (Op.mk 0 0)::SEntry.mk 2 1 0 (Op.mk 0 0)::SEntry.mk 3 0 0 (Op.mk 0 0)::SEntry.mk 2 0 0 (Op.mk 0 0)::[]++SEntry.mk 1 1 0 (Op.mk 1 2)::[]++y1,([]:List Int)) with
  | some y2 => match Zc7 (Config.mk 2 1 2 1 0 1 0 0 false 0 0 0,SEntry.mk 1 0 0 (Op.mk 1 1)::SEntry.mk 2 0 0 (Op.mk 0 0)::SEntry.mk 2 1 0 (Op.mk 0 0)::SEntry.mk 3 0 0 (Op.mk 0 0)::SEntry.mk 2 0 0 (Op.mk 0 0)::[]) with
   | some y3 => bif y3 == 1 then match ZdU (Config.mk 2 1 2 1 0 1 0 0 false 0 0 0) with
    | some y4 => bif y4 == 244 then match Ze4 (Config.mk 2 1 2 1 0 1 0 0 false 0 0 0) with
     | some y5 => bif (↑(List.length y5):Int) == 2 then match ZeP (Config.mk 2 1 2 1 0 1 0 0 false 0 0 0,SEntry.mk 1 0 0 (Op.mk 1 1)::SEntry.mk 2 0 0 (Op.mk 0 0)::SEntry.mk 2 1 0 (Op.mk 0 0)::SEntry.mk 3 0 0 (Op.mk 0 0)::SEntry.mk 2 0 0 (Op.mk 0 0)::[]) with
      | some y6 => bif !y6 then bif y2.snd.snd == 0 then match ZeV y2.fst with
       | some y7 => bif y7 == 0 then bif (↑y2.fst.m.words.length:Int) == 6 then bif decide (0<(↑y2.fst.m.words.length:Int)) then some (y2.fst.m.words.getD (Int.toNat 0) 0 == 3) else none else some (false) else some (false)
       | none=>none else some (false) else some (false)
      | none=>none else some (false)
     | none=>none else some (false)
    | none=>none else some (false)
   | none=>none
  | none=>none else none
 | none=>none
def ZaK (x:Unit):Option Bool:=ZmY
def ZoD (x0:Config) (x1:List SEntry) (x2:Int):Option Bool := match ZeN x0 with
 | some y1 => bif !y1 then match ZaK () with
  | some y2 => some y2
  | none=>none else bif decide ((↑x1.length:Int)>500) then match ZaK () with
   | some y2 => some y2
   | none=>none else match ZaK () with
   | some y2 => bif !y2 then match ZaK () with
    | some y3 => some y3
    | none=>none else match ZdU x0 with
    | some y3 => match ZiC x0 with
     | some y4 => bif y3 == y4 then match Ze4 x0 with
      | some y5 => match ZeT y5 with
       | some y6 => match Zm9 x0 with
        | some y7 => match ZkL (y6,y7) with
         | some y8 => bif y8 then match Zdc (x0,if 200<x2 then 200 else x2) with
          | some y9 => match ZeT y9 with
           | some y10 => match Zix (x0,if 200<x2 then 200 else x2) with
            | some y11 => match ZkL (y10,y11) with
             | some y12 => bif y12 then match Zc7 (x0,x1) with
              | some y13 => match ZeT x1 with
               | some y14 => match ZjM (x0,y14) with
                | some y15 => bif y13 == y15 then match ZeP (x0,x1) with
                 | some y16 => match ZeT x1 with
                  | some y17 => match ZnX (x0,y17) with
                   | some y18 => some (y16 == y18)
                   | none=>none
                  | none=>none
                 | none=>none else some (false)
                | none=>none
               | none=>none
              | none=>none else some (false)
             | none=>none
            | none=>none
           | none=>none
          | none=>none else some (false)
         | none=>none
        | none=>none
       | none=>none
      | none=>none else some (false)
     | none=>none
    | none=>none
   | none=>none
 | none=>none
def ZoE (x:Config×(List SEntry)×Int):Option Bool:=ZoD x.1 x.2.1 x.2.2
def ZlW (x0:List SEntry) (x1:Int) (x2:Config) (x3:Int) (x4:List SEntry) (x5:Int) (x6:List SEntry) (x7:List SEntry) (x8:List SEntry) (x9:Int):Option (((List SEntry)×Int×Config×Int×(List SEntry)×Int×(List SEntry)×(List SEntry)×(List SEntry)×Int)⊕(((List SEntry)×Config×Int×(List SEntry)×Int×(List SEntry)×(List SEntry)×(List SEntry)))) := bif decide (x9<(↑x6.length:Int)) then bif x9.tmod 97 == IntKind.i64.wrap x1 then bif fewB (x8.length+(SEntry.mk 3 0 0 (Op.mk 0 0)::[]).length) then bif decide (0<=x9) then bif decide (x9<(↑x6.length:Int)) then bif fewB ((x8++SEntry.mk 3 0 0 (Op.mk 0 0)::[]).length+(x6.getD x9.toNat ZaE::[]).length) then some (Sum.inl (x0,x1,x2,x3,x4,x5,x6,x7,x8++SEntry.mk 3 0 0 (Op.mk 0 0)::[]++x6.getD x9.toNat ZaE::[],Zad .i64 (x9+1))) else none else none else none else none else bif decide (0<=x9) then bif decide (x9<(↑x6.length:Int)) then bif fewB (x8.length+(x6.getD x9.toNat ZaE::[]).length) then some (Sum.inl (x0,x1,x2,x3,x4,x5,x6,x7,x8++x6.getD x9.toNat ZaE::[],Zad .i64 (x9+1))) else none else none else none else some (Sum.inr (x0,x2,x3,x4,x5,x6,x7,x8))
def ZlS (x:(List SEntry)×Int×Config×Int×(List SEntry)×Int×(List SEntry)×(List SEntry)×(List SEntry)×Int):Option (((List SEntry)×Int×Config×Int×(List SEntry)×Int×(List SEntry)×(List SEntry)×(List SEntry)×Int)⊕(((List SEntry)×Config×Int×(List SEntry)×Int×(List SEntry)×(List SEntry)×(List SEntry)))):=ZlW x.1 x.2.1 x.2.2.1 x.2.2.2.1 x.2.2.2.2.1 x.2.2.2.2.2.1 x.2.2.2.2.2.2.1 x.2.2.2.2.2.2.2.1 x.2.2.2.2.2.2.2.2.1 x.2.2.2.2.2.2.2.2.2
def ZlV (x:(List SEntry)×Int×Config×Int×(List SEntry)×Int×(List SEntry)×(List SEntry)×(List SEntry)×Int):Option (((List SEntry)×Config×Int×(List SEntry)×Int×(List SEntry)×(List SEntry)×(List SEntry))):=ZaI ZlS x
def ZnN (x0:Config) (x1:List SEntry) (x2:Op) (x3:Int) (x4:Int):Option Bool := match ZeN x0 with
 | some y1 => bif !y1 then match ZaK () with
  | some y2 => some y2
  | none=>none else bif decide ((↑x1.length:Int)>200) then match ZaK () with
   | some y2 => some y2
   | none=>none else bif decide (x0.threads>6) then match ZaK () with
    | some y2 => some y2
    | none=>none else bif decide (x0.depth>3) then match ZaK () with
     | some y2 => some y2
     | none=>none else bif decide (x0.layers>2) then match ZaK () with
      | some y2 => some y2
      | none=>none else bif decide (x0.spin>5) then match ZaK () with
       | some y2 => some y2
       | none=>none else match ZaK () with
       | some y2 => bif !y2 then match ZaK () with
        | some y3 => some y3
        | none=>none else bif decide (x0.threads=0) then none else bif fewB ((0:Nat)+x1.length) then bif fewB (x1.length+(SEntry.mk 1 ((IntKind.i64.wrap x3).tmod x0.threads) 0 x2::[]).length) then match ZdU x0 with
         | some y3 => match Zdc (x0,y3) with
          | some y4 => bif (↑(List.length y4):Int) != Zad .i64 (y3*x0.threads) then some (false) else bif fewB ((0:Nat)+(x1++SEntry.mk 1 ((IntKind.i64.wrap x3).tmod x0.threads) 0 x2::[]).length) then bif fewB ((x1++SEntry.mk 1 ((IntKind.i64.wrap x3).tmod x0.threads) 0 x2::[]).length+List.length y4) then bif fewB ((0:Nat)+(x1++SEntry.mk 1 ((IntKind.i64.wrap x3).tmod x0.threads) 0 x2::[]).length) then match ZlV (x1,x4,x0,(IntKind.i64.wrap x3).tmod x0.threads,x1++SEntry.mk 1 ((IntKind.i64.wrap x3).tmod x0.threads) 0 x2::[],y3,y4,x1++SEntry.mk 1 ((IntKind.i64.wrap x3).tmod x0.threads) 0 x2::[]++y4,x1++SEntry.mk 1 ((IntKind.i64.wrap x3).tmod x0.threads) 0 x2::[],0) with
           | some y5 => bif fewB ((0:Nat)+List.length y5.snd.snd.snd.fst) then bif fewB (List.length y5.snd.snd.snd.fst+(SEntry.mk 2 y5.snd.snd.fst 0 (Op.mk 0 0)::[]).length) then bif fewB ((y5.snd.snd.snd.fst++SEntry.mk 2 y5.snd.snd.fst 0 (Op.mk 0 0)::[]).length+List.length y5.snd.snd.snd.snd.snd.fst) then match ZeP (y5.snd.fst,y5.snd.snd.snd.snd.snd.snd.fst) with
            | some y6 => bif y6 then match Zc7 (y5.snd.fst,y5.snd.snd.snd.snd.snd.snd.fst) with
             | some y7 => bif y7 == y5.snd.snd.snd.snd.fst then match ZeP (y5.snd.fst,y5.snd.snd.snd.snd.snd.snd.snd) with
              | some y8 => bif y8 then bif fewB ((0:Nat)+List.length y5.snd.snd.snd.snd.snd.snd.fst) then bif decide ((↑(List.length y5.fst):Int)<(↑(List.length y5.snd.snd.snd.fst):Int)) then bif fewB (List.length y5.snd.snd.snd.snd.snd.snd.fst+(List.getD y5.snd.snd.snd.fst (↑(List.length y5.fst):Int).toNat ZaE::[]).length) then match ZeP (y5.snd.fst,y5.snd.snd.snd.snd.snd.snd.fst++List.getD y5.snd.snd.snd.fst (↑(List.length y5.fst):Int).toNat ZaE::[]) with
               | some y9 => bif !y9 then match ZeP (y5.snd.fst,y5.snd.snd.snd.fst++SEntry.mk 2 y5.snd.snd.fst 0 (Op.mk 0 0)::[]++y5.snd.snd.snd.snd.snd.fst) with
                | some y10 => some (y10 == (y5.snd.fst.threads == 1))
                | none=>none else some (false)
               | none=>none else none else none else none else some (false)
              | none=>none else some (false)
             | none=>none else some (false)
            | none=>none else none else none else none
           | none=>none else none else none else none
          | none=>none
         | none=>none else none else none
       | none=>none
 | none=>none
def Zoa (x:Config×(List SEntry)×Op×Int×Int):Option Bool:=ZnN x.1 x.2.1 x.2.2.1 x.2.2.2.1 x.2.2.2.2
def Zpr (x0:Config) (x1:Int) (x2:Int) (x3:Op) (x4:List Int):Option Bool := match ZeN x0 with
 | some y1 => bif !y1 then match ZaK () with
  | some y2 => some y2
  | none=>none else bif decide ((↑x4.length:Int)>100) then match ZaK () with
   | some y2 => some y2
   | none=>none else match ZiQ (x3,x0.bounded) with
   | some y2 => bif !y2 then match ZaK () with
    | some y3 => some y3
    | none=>none else match ZaK () with
    | some y3 => bif !y3 then match ZaK () with
     | some y4 => some y4
     | none=>none else bif decide (x0.threads=0) then none else bif decide (x0.items=0) then none else match Zdc (x0,Zad .i64 (Zad .i64 (20+Zad .i64 (8*x0.depth))+Zad .i64 (x0.layers*Zad .i64 (20+Zad .i64 (2*x0.spin))))) with
      | some y4 => bif fewB ((SEntry.mk 1 ((IntKind.i64.wrap x1).tmod x0.threads) ((IntKind.i64.wrap x2).tmod x0.items) x3::[]).length+List.length y4) then match ZgT (x0,SEntry.mk 1 ((IntKind.i64.wrap x1).tmod x0.threads) ((IntKind.i64.wrap x2).tmod x0.items) x3::[]++y4,x4) with
       | some y5 => bif y5.snd.snd == 0 then match ZeV y5.fst with
        | some y6 => bif y6 == 0 then bif (↑y5.fst.hist.length:Int) == 2 then bif decide (1<(↑y5.fst.hist.length:Int)) then bif (y5.fst.hist.getD (Int.toNat 1) Zdh).kind == 2 then bif decide (1<(↑y5.fst.hist.length:Int)) then bif (y5.fst.hist.getD (Int.toNat 1) Zdh).prior == x0.init then some ((↑y5.fst.log.length:Int) == 1) else some (false) else none else some (false) else none else some (false) else some (false)
        | none=>none else some (false)
       | none=>none else none
      | none=>none
    | none=>none
   | none=>none
 | none=>none
def Zpq (x:Config×Int×Int×Op×(List Int)):Option Bool:=Zpr x.1 x.2.1 x.2.2.1 x.2.2.2.1 x.2.2.2.2
def Znt (x0:List SEntry) (x1:Config) (x2:Int) (x3:List SEntry) (x4:Int):Option (((List SEntry)×Config×Int×(List SEntry)×Int)⊕(((List SEntry)×Config×Int×(List SEntry))⊕(Bool))) := bif decide (x4<(↑x0.length:Int)) then bif decide (0<=x4) then bif decide (x4<(↑x0.length:Int)) then bif (x0.getD x4.toNat ZaE).kind == 1 then some (Sum.inr (Sum.inr true)) else some (Sum.inl (x0,x1,x2,x3,Zad .i64 (x4+1))) else none else none else some (Sum.inr (Sum.inl (x0,x1,x2,x3)))
def Zn4 (x:(List SEntry)×Config×Int×(List SEntry)×Int):Option (((List SEntry)×Config×Int×(List SEntry)×Int)⊕(((List SEntry)×Config×Int×(List SEntry))⊕(Bool))):=Znt x.1 x.2.1 x.2.2.1 x.2.2.2.1 x.2.2.2.2
def ZnM (x:(List SEntry)×Config×Int×(List SEntry)×Int):Option (((List SEntry)×Config×Int×(List SEntry))⊕(Bool)):=ZaI Zn4 x
def Zpw (x0:Config) (x1:Int) (x2:List SEntry):Option Bool := match ZeN x0 with
 | some y1 => bif !y1 then match ZaK () with
  | some y2 => some y2
  | none=>none else bif decide ((↑x2.length:Int)>200) then match ZaK () with
   | some y2 => some y2
   | none=>none else match ZaK () with
   | some y2 => bif !y2 then match ZaK () with
    | some y3 => some y3
    | none=>none else match Zdc (x0,(IntKind.i64.wrap x1).tmod 60) with
    | some y3 => match ZnM (x2,x0,(IntKind.i64.wrap x1).tmod 60,y3,0) with
     | some (.inl y4) => match Zc7 (y4.snd.fst,y4.snd.snd.snd) with
      | some y5 => bif fewB ((0:Nat)+List.length y4.snd.snd.snd) then bif fewB (List.length y4.snd.snd.snd+List.length y4.fst) then match Zc7 (y4.snd.fst,y4.snd.snd.snd++y4.fst) with
       | some y6 => bif y5 == y4.snd.snd.fst then bif fewB ((0:Nat)+List.length y4.snd.snd.snd) then match Ze4 y4.snd.fst with
        | some y7 => bif fewB (List.length y4.snd.snd.snd+List.length y7) then match Zc7 (y4.snd.fst,y4.snd.snd.snd++y7) with
         | some y8 => bif y8 == Zad .i64 (y4.snd.snd.fst+1) then bif decide (y6>=y4.snd.snd.fst) then match Zc7 (y4.snd.fst,y4.fst) with
          | some y9 => some (y6 == Zad .i64 (y4.snd.snd.fst+y9))
          | none=>none else some (false) else some (false)
         | none=>none else none
        | none=>none else none else some (false)
       | none=>none else none else none
      | none=>none
     | some (.inr y5) => some y5
     | none=>none
    | none=>none
   | none=>none
 | none=>none
def Zo8 (x:Config×Int×(List SEntry)):Option Bool:=Zpw x.1 x.2.1 x.2.2
end Go.Proofs.Mill
