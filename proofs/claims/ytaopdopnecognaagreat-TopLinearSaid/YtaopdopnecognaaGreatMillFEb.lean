/- What the functions compute. -/
import Derived.Test.YtaopdopnecognaaGreatMillAll3
import Derived.Test.YtaopdopnecognaaGreatMillFDb
set_option linter.all false
noncomputable section
namespace Go.Proofs.Mill
def Zvp (x0:Config):Option Bool := match ZfM x0 with
 | some y1 => bif y1 == 0 then bif decide (x0.threads<=6) then bif decide (x0.depth<=3) then bif decide (x0.layers<=2) then some (decide (x0.spin<=5)) else some (false) else some (false) else some (false) else some (false)
 | none=>none
def ZlB (x:Config):Option Bool:=Zvp x
def Zrs (x0:List Kid) (x1:List Int) (x2:Config) (x3:Wld) (x4:List SEntry) (x5:Int):Option (((List Kid)×(List Int)×Config×Wld×(List SEntry)×Int)⊕(((List Int)×Config×Wld×(List SEntry)))) := bif decide (x5<(↑x0.length:Int)) then bif decide (x5<x2.threads) then bif decide (0<=x5) then bif decide (x5<(↑x0.length:Int)) then bif fewB (x4.length+(SEntry.mk 1 x5 0 (Op.mk (x0.getD x5.toNat dKid).t (x0.getD x5.toNat dKid).ahead)::[]).length) then some (Sum.inl (x0,x1,x2,x3,x4++SEntry.mk 1 x5 0 (Op.mk (x0.getD x5.toNat dKid).t (x0.getD x5.toNat dKid).ahead)::[],Zac .i64 (x5+1))) else none else none else none else some (Sum.inr (x1,x2,x3,x4)) else some (Sum.inr (x1,x2,x3,x4))
def ZiQ (x:(List Kid)×(List Int)×Config×Wld×(List SEntry)×Int):Option (((List Kid)×(List Int)×Config×Wld×(List SEntry)×Int)⊕(((List Int)×Config×Wld×(List SEntry)))):=Zrs x.1 x.2.1 x.2.2.1 x.2.2.2.1 x.2.2.2.2.1 x.2.2.2.2.2
def Zmk (x:(List Kid)×(List Int)×Config×Wld×(List SEntry)×Int):Option (((List Int)×Config×Wld×(List SEntry))):=ZaA ZiQ x
def ZkY (x0:Config) (x1:List Kid) (x2:List Int):Option (Wld×Bool) := match Zmk (x1,x2,x0,Wld.mk (Config.mk 0 0 0 0 0 0 0 0 false 0 0 0) (Memo.mk ([]:List Int) ([]:List (List Entry))) ([]:List Thread) 0 0 (Tape.mk ([]:List Int) 0) ([]:List Mark) ([]:List Event),([]:List SEntry),0) with
 | some y1 => match Zdh y1.snd.fst with
  | some y2 => match ZdW (y1.snd.fst,y2) with
   | some y3 => bif fewB (List.length y1.snd.snd.snd+List.length y3) then match ZcI (y1.snd.fst,y1.snd.snd.snd++y3,y1.fst) with
    | some y4 => bif y4.snd.snd == 0 then match Ze1 y4.fst with
     | some y5 => bif y5 == 0 then some ((y4.fst,(↑y4.fst.hist.length:Int) == Zac .i64 (2*(↑(List.length y1.snd.snd.snd):Int)))) else some ((y4.fst,false))
     | none=>none else some ((y4.fst,false))
    | none=>none else none
   | none=>none
  | none=>none
 | none=>none
def ZdK (x:Config×(List Kid)×(List Int)):Option (Wld×Bool):=ZkY x.1 x.2.1 x.2.2
def ZfB (f:Config×(List Kid)×(List Int)->Option (Wld×Bool)) (x0:Int):Option ((Int)⊕((Unit)⊕(Bool))) := bif decide (x0<=3) then match f (Config.mk 3 1 x0 1 1 1 2 0 false 0 0 5,Kid.mk 1 1::Kid.mk 1 2::Kid.mk 1 4::[],([]:List Int)) with
 | some y1 => bif !y1.snd then some (Sum.inr (Sum.inr false)) else bif decide ((↑y1.fst.m.words.length:Int)<1) then some (Sum.inr (Sum.inr false)) else bif decide (0<(↑y1.fst.m.words.length:Int)) then bif y1.fst.m.words.getD (Int.toNat 0) 0 != 12 then some (Sum.inr (Sum.inr false)) else bif (↑y1.fst.log.length:Int) != 3 then some (Sum.inr (Sum.inr false)) else match ZbR y1.fst with
  | some y2 => bif !y2 then some (Sum.inr (Sum.inr false)) else some (Sum.inl (Zac .i64 (x0+1)))
  | none=>none else none
 | none=>none else some (Sum.inr (Sum.inl ()))
def ZjI (x0:Int):Option ((Int)⊕((Unit)⊕(Bool))):=ZfB ZdK x0
def ZcU (x:Int):Option ((Int)⊕((Unit)⊕(Bool))):=ZjI x
def ZfL (x:Int):Option ((Unit)⊕(Bool)):=ZaA ZcU x
def Zjb (w:Int->Option ((Unit)⊕(Bool))):Option Bool := match w 1 with
 | some (.inl y1) => some (true)
 | some (.inr y2) => some y2
 | none=>none
def Zpp:Option Bool:=Zjb ZfL
def Zc4 (x:Unit):Option Bool:=Zpp
def Zo4 (x0:Config) (x1:Config) (x2:Wld) (x3:Int):Option ((Config×Config×Wld×Int)⊕((Unit)⊕(Bool))) := bif decide (x3<x0.threads) then match Zn2 (x1,x3) with
 | some y1 => bif decide (0<=y1) then bif decide (y1<(↑x2.m.words.length:Int)) then match Zg0 (x2.hist,x3) with
  | some y2 => bif x2.m.words.getD (Int.toNat y1) 0 != 0 then bif x2.m.words.getD (Int.toNat y1) 0 != 5 then some (Sum.inr (Sum.inr false)) else bif y2.snd then some (Sum.inr (Sum.inr false)) else bif decide (0<=x3) then bif decide (x3<(↑x2.t.length:Int)) then match ZbE (x2.t.getD x3.toNat Zaw) with
    | some y3 => bif y3 then some (Sum.inr (Sum.inr false)) else some (Sum.inl (x0,x1,x2,Zac .i64 (x3+1)))
    | none=>none else none else none else bif y2.snd then some (Sum.inr (Sum.inr false)) else bif decide (0<=x3) then bif decide (x3<(↑x2.t.length:Int)) then match ZbE (x2.t.getD x3.toNat Zaw) with
   | some y3 => bif y3 then some (Sum.inr (Sum.inr false)) else some (Sum.inl (x0,x1,x2,Zac .i64 (x3+1)))
   | none=>none else none else none
  | none=>none else none else none
 | none=>none else some (Sum.inr (Sum.inl ()))
def Zpd (x:Config×Config×Wld×Int):Option ((Config×Config×Wld×Int)⊕((Unit)⊕(Bool))):=Zo4 x.1 x.2.1 x.2.2.1 x.2.2.2
def Zo3 (x:Config×Config×Wld×Int):Option ((Unit)⊕(Bool)):=ZaA Zpd x
def Zo8 (x0:Config) (x1:Config) (x2:Wld) (x3:Int) (x4:Int):Option ((Config×Config×Wld×Int×Int)⊕((Config×Config×Wld×Int)⊕(Bool))) := match Zhl x1 with
 | some y1 => bif decide (x4<=y1) then match ZnK (x1,x3,x4) with
  | some y2 => bif decide (0<=y2) then bif decide (y2<(↑x2.m.words.length:Int)) then bif x2.m.words.getD (Int.toNat y2) 0 != 0 then some (Sum.inr (Sum.inr false)) else some (Sum.inl (x0,x1,x2,x3,Zac .i64 (x4+1))) else none else none
  | none=>none else some (Sum.inr (Sum.inl (x0,x1,x2,x3)))
 | none=>none
def Zpb (x:Config×Config×Wld×Int×Int):Option ((Config×Config×Wld×Int×Int)⊕((Config×Config×Wld×Int)⊕(Bool))):=Zo8 x.1 x.2.1 x.2.2.1 x.2.2.2.1 x.2.2.2.2
def Zpa (x:Config×Config×Wld×Int×Int):Option ((Config×Config×Wld×Int)⊕(Bool)):=ZaA Zpb x
def Zo6 (x0:Config) (x1:Config) (x2:Wld) (x3:Int):Option ((Config×Config×Wld×Int)⊕((Config×Config×Wld)⊕(Bool))) := bif decide (x3<x0.items) then match Zpa (x0,x1,x2,x3,1) with
 | some (.inl y1) => some (Sum.inl (y1.fst,y1.snd.fst,y1.snd.snd.fst,Zac .i64 (y1.snd.snd.snd+1)))
 | some (.inr y2) => some (Sum.inr (Sum.inr y2))
 | none=>none else some (Sum.inr (Sum.inl (x0,x1,x2)))
def Zo7 (x:Config×Config×Wld×Int):Option ((Config×Config×Wld×Int)⊕((Config×Config×Wld)⊕(Bool))):=Zo6 x.1 x.2.1 x.2.2.1 x.2.2.2
def Zo5 (x:Config×Config×Wld×Int):Option ((Config×Config×Wld)⊕(Bool)):=ZaA Zo7 x
def Zrx (f:Unit->Option Bool) (x0:Config) (x1:List SEntry) (x2:List Int):Option Bool := match ZlB x0 with
 | some y1 => bif !y1 then match f () with
  | some y2 => some y2
  | none=>none else bif decide ((↑x1.length:Int)>200) then match f () with
   | some y2 => some y2
   | none=>none else bif decide ((↑x2.length:Int)>100) then match f () with
    | some y2 => some y2
    | none=>none else match f () with
    | some y2 => bif !y2 then match f () with
     | some y3 => some y3
     | none=>none else bif fewB ((0:Nat)+x1.length) then match Zdh x0 with
      | some y3 => match ZdW (x0,y3) with
       | some y4 => bif fewB (x1.length+List.length y4) then match ZcI (x0,x1++y4,x2) with
        | some y5 => bif y5.snd.snd != 0 then some ((↑y5.fst.t.length:Int) == 0) else match Zoy x0 with
         | some y6 => bif (↑y5.fst.m.words.length:Int) != y6 then some (false) else bif (↑y5.fst.t.length:Int) != x0.threads then some (false) else match Zo5 (x0,x0,y5.fst,0) with
          | some (.inl y7) => match Zo3 (y7.fst,y7.snd.fst,y7.snd.snd,0) with
           | some (.inl y8) => some (true)
           | some (.inr y9) => some y9
           | none=>none
          | some (.inr y8) => some y8
          | none=>none
         | none=>none
        | none=>none else none
       | none=>none
      | none=>none else none
    | none=>none
 | none=>none
def ZrR (x0:Config) (x1:List SEntry) (x2:List Int):Option Bool:=Zrx Zc4 x0 x1 x2
def ZrA (x:Config×(List SEntry)×(List Int)):Option Bool:=ZrR x.1 x.2.1 x.2.2
def ZsS (x0:Wld) (x1:SEntry):Option (Wld×Int) := match ZgS (x0.c,x1) with
 | some y1 => bif y1 != 0 then some ((x0,y1)) else match ZeY x0.t with
  | some y2 => match ZfI x0.log with
   | some y3 => match ZfO x0.hist with
    | some y4 => bif x1.kind == 1 then bif decide (0<=x1.t) then bif decide (x1.t<(↑(List.length y2):Int)) then match ZbE (List.getD y2 x1.t.toNat Zaw) with
      | some y5 => bif y5 then bif fewB (List.length y4+(Event.mk 3 x1.t x1.item x1.op 0 false x0.steps::[]).length) then some (({ x0 with t:=y2,log:=y3,hist:=y4++Event.mk 3 x1.t x1.item x1.op 0 false x0.steps::[] },170)) else none else match ZgI (x0.c,x1.t,List.getD y2 x1.t.toNat Zaw,x1.item,x1.op,x0.now) with
       | some y6 => bif fewB (List.length y4+(Event.mk 1 x1.t x1.item x1.op 0 false x0.steps::[]).length) then some (({ x0 with t:=List.set y2 x1.t.toNat y6,log:=y3,hist:=y4++Event.mk 1 x1.t x1.item x1.op 0 false x0.steps::[] },0)) else none
       | none=>none
      | none=>none else none else none else bif x1.kind == 2 then match Zb6 { x0 with t:=y2,log:=y3,hist:=y4 } x1.t with
     | some y5 => some ((y5,0))
     | none=>none else bif x1.kind == 3 then some (({ x0 with t:=y2,now:=Zac .i64 (x0.now+1),log:=y3,hist:=y4 },0)) else some (({ x0 with t:=y2,log:=y3,hist:=y4 },0))
    | none=>none
   | none=>none
  | none=>none
 | none=>none
def Znp (x:Wld×SEntry):Option (Wld×Int):=ZsS x.1 x.2
def Zny (x0:Wld) (x1:Wld) (x2:Int):Option ((Wld×Wld×Int)⊕((Wld×Wld)⊕(Bool))) := bif decide (x2<(↑x0.m.words.length:Int)) then bif decide (0<=x2) then bif decide (x2<(↑x0.m.words.length:Int)) then bif decide (0<=x2) then bif decide (x2<(↑x1.m.words.length:Int)) then bif x0.m.words.getD x2.toNat 0 != x1.m.words.getD x2.toNat 0 then some (Sum.inr (Sum.inr false)) else some (Sum.inl (x0,x1,Zac .i64 (x2+1))) else none else none else none else none else some (Sum.inr (Sum.inl (x0,x1)))
def ZnC (x:Wld×Wld×Int):Option ((Wld×Wld×Int)⊕((Wld×Wld)⊕(Bool))):=Zny x.1 x.2.1 x.2.2
def Znw (x:Wld×Wld×Int):Option ((Wld×Wld)⊕(Bool)):=ZaA ZnC x
def Znv (x0:Wld) (x1:Wld) (x2:Int):Option ((Wld×Wld×Int)⊕((Wld×Wld)⊕(Bool))) := bif decide (x2<(↑x0.log.length:Int)) then bif decide (0<=x2) then bif decide (x2<(↑x0.log.length:Int)) then bif decide (0<=x2) then bif decide (x2<(↑x1.log.length:Int)) then bif !((x0.log.getD x2.toNat ZaO).t == (x1.log.getD x2.toNat ZaO).t && ((x0.log.getD x2.toNat ZaO).item == (x1.log.getD x2.toNat ZaO).item && ((x0.log.getD x2.toNat ZaO).op.tag == (x1.log.getD x2.toNat ZaO).op.tag && ((x0.log.getD x2.toNat ZaO).op.v == (x1.log.getD x2.toNat ZaO).op.v && true) && ((x0.log.getD x2.toNat ZaO).prior == (x1.log.getD x2.toNat ZaO).prior && ((x0.log.getD x2.toNat ZaO).step == (x1.log.getD x2.toNat ZaO).step && true))))) then some (Sum.inr (Sum.inr false)) else some (Sum.inl (x0,x1,Zac .i64 (x2+1))) else none else none else none else none else some (Sum.inr (Sum.inl (x0,x1)))
def Znz (x:Wld×Wld×Int):Option ((Wld×Wld×Int)⊕((Wld×Wld)⊕(Bool))):=Znv x.1 x.2.1 x.2.2
def Znx (x:Wld×Wld×Int):Option ((Wld×Wld)⊕(Bool)):=ZaA Znz x
def Zn3 (x0:List SEntry) (x1:List Int) (x2:Config) (x3:Wld) (x4:List SEntry) (x5:Int):Option (((List SEntry)×(List Int)×Config×Wld×(List SEntry)×Int)⊕(((List Int)×Config×Wld×(List SEntry)))) := bif decide (x5<(↑x0.length:Int)) then bif decide (0<=x5) then bif decide (x5<(↑x0.length:Int)) then match Znp (x3,x0.getD x5.toNat ZaE) with
 | some y1 => bif y1.snd == 0 then bif decide (0<=x5) then bif decide (x5<(↑x0.length:Int)) then bif fewB (x4.length+(x0.getD x5.toNat ZaE::[]).length) then some (Sum.inl (x0,x1,x2,y1.fst,x4++x0.getD x5.toNat ZaE::[],Zac .i64 (x5+1))) else none else none else none else some (Sum.inl (x0,x1,x2,y1.fst,x4,Zac .i64 (x5+1)))
 | none=>none else none else none else some (Sum.inr (x1,x2,x3,x4))
def Zor (x:(List SEntry)×(List Int)×Config×Wld×(List SEntry)×Int):Option (((List SEntry)×(List Int)×Config×Wld×(List SEntry)×Int)⊕(((List Int)×Config×Wld×(List SEntry)))):=Zn3 x.1 x.2.1 x.2.2.1 x.2.2.2.1 x.2.2.2.2.1 x.2.2.2.2.2
def Zod (x:(List SEntry)×(List Int)×Config×Wld×(List SEntry)×Int):Option (((List Int)×Config×Wld×(List SEntry))):=ZaA Zor x
def ZpR (f:Unit->Option Bool) (x0:Config) (x1:List SEntry) (x2:List Int):Option Bool := match ZlB x0 with
 | some y1 => bif !y1 then match f () with
  | some y2 => some y2
  | none=>none else bif decide ((↑x1.length:Int)>200) then match f () with
   | some y2 => some y2
   | none=>none else bif decide ((↑x2.length:Int)>100) then match f () with
    | some y2 => some y2
    | none=>none else match f () with
    | some y2 => bif !y2 then match f () with
     | some y3 => some y3
     | none=>none else match Zi9 (x0,x2) with
     | some y3 => bif y3.snd != 0 then some (false) else match Zod (x1,x2,x0,y3.fst,([]:List SEntry),0) with
      | some y4 => match ZcI (y4.snd.fst,y4.snd.snd.snd,y4.fst) with
       | some y5 => bif y5.snd.snd != 0 then some (false) else bif (↑y5.fst.log.length:Int) != (↑y4.snd.snd.fst.log.length:Int) then some (false) else bif y5.fst.steps != y4.snd.snd.fst.steps then some (false) else bif y5.fst.now != y4.snd.snd.fst.now then some (false) else bif (↑y5.fst.m.words.length:Int) != (↑y4.snd.snd.fst.m.words.length:Int) then some (false) else match Znx (y4.snd.snd.fst,y5.fst,0) with
        | some (.inl y6) => match Znw (y6.fst,y6.snd,0) with
         | some (.inl y7) => match Zfp y7.fst.hist with
          | some y8 => match Zfp y7.snd.hist with
           | some y9 => bif y8.fst == y9.fst then bif y8.snd.fst == y9.snd.fst then some (y9.snd.snd == 0) else some (false) else some (false)
           | none=>none
          | none=>none
         | some (.inr y8) => some y8
         | none=>none
        | some (.inr y7) => some y7
        | none=>none
       | none=>none
      | none=>none
     | none=>none
    | none=>none
 | none=>none
def ZpI (x0:Config) (x1:List SEntry) (x2:List Int):Option Bool:=ZpR Zc4 x0 x1 x2
def ZpP (x:Config×(List SEntry)×(List Int)):Option Bool:=ZpI x.1 x.2.1 x.2.2
end Go.Proofs.Mill
