/- What the functions compute. -/
import Derived.Test.YtaopdopnecognaaGreatMillAll3
import Derived.Test.YtaopdopnecognaaGreatMillFDb
set_option linter.all false
noncomputable section
namespace Go.Proofs.Mill
def Zln (x0:Config):Option Bool := match Zhi x0 with
 | some y1 => bif y1 == 0 then bif decide (x0.threads<=6) then bif decide (x0.depth<=3) then bif decide (x0.layers<=2) then some (decide (x0.spin<=5)) else some (false) else some (false) else some (false) else some (false)
 | none=>none
def ZiV (x:Config):Option Bool:=Zln x
def Zra (x0:List Kid) (x1:List Int) (x2:Config) (x3:Wld) (x4:List SEntry) (x5:Int):Option (((List Kid)×(List Int)×Config×Wld×(List SEntry)×Int)⊕(((List Int)×Config×Wld×(List SEntry)))) := bif decide (x5<(↑x0.length:Int)) then bif decide (x5<x2.threads) then bif decide (0<=x5) then bif decide (x5<(↑x0.length:Int)) then bif fewB (x4.length+(SEntry.mk 1 x5 0 (Op.mk (x0.getD x5.toNat dKid).t (x0.getD x5.toNat dKid).ahead)::[]).length) then some (Sum.inl (x0,x1,x2,x3,x4++SEntry.mk 1 x5 0 (Op.mk (x0.getD x5.toNat dKid).t (x0.getD x5.toNat dKid).ahead)::[],Zad .i64 (x5+1))) else none else none else none else some (Sum.inr (x1,x2,x3,x4)) else some (Sum.inr (x1,x2,x3,x4))
def ZiA (x:(List Kid)×(List Int)×Config×Wld×(List SEntry)×Int):Option (((List Kid)×(List Int)×Config×Wld×(List SEntry)×Int)⊕(((List Int)×Config×Wld×(List SEntry)))):=Zra x.1 x.2.1 x.2.2.1 x.2.2.2.1 x.2.2.2.2.1 x.2.2.2.2.2
def ZlF (x:(List Kid)×(List Int)×Config×Wld×(List SEntry)×Int):Option (((List Int)×Config×Wld×(List SEntry))):=ZaC ZiA x
def Zkv (x0:Config) (x1:List Kid) (x2:List Int):Option (Wld×Bool) := match ZlF (x1,x2,x0,Wld.mk (Config.mk 0 0 0 0 0 0 0 0 false 0 0 0) (Memo.mk ([]:List Int) ([]:List (List Entry))) ([]:List Thread) 0 0 (Tape.mk ([]:List Int) 0) ([]:List Mark) ([]:List Event),([]:List SEntry),0) with
 | some y1 => match ZcK y1.snd.fst with
  | some y2 => match Zct (y1.snd.fst,y2) with
   | some y3 => bif fewB (List.length y1.snd.snd.snd+List.length y3) then match ZcW (y1.snd.fst,y1.snd.snd.snd++y3,y1.fst) with
    | some y4 => bif y4.snd.snd == 0 then match Zel y4.fst with
     | some y5 => bif y5 == 0 then some ((y4.fst,(↑y4.fst.hist.length:Int) == Zad .i64 (2*(↑(List.length y1.snd.snd.snd):Int)))) else some ((y4.fst,false))
     | none=>none else some ((y4.fst,false))
    | none=>none else none
   | none=>none
  | none=>none
 | none=>none
def ZdE (x:Config×(List Kid)×(List Int)):Option (Wld×Bool):=Zkv x.1 x.2.1 x.2.2
def Zfx (f:Config×(List Kid)×(List Int)->Option (Wld×Bool)) (x0:Int):Option ((Int)⊕((Unit)⊕(Bool))) := bif decide (x0<=3) then match f (Config.mk 3 1 x0 1 1 1 2 0 false 0 0 5,Kid.mk 1 1::Kid.mk 1 2::Kid.mk 1 4::[],([]:List Int)) with
 | some y1 => bif !y1.snd then some (Sum.inr (Sum.inr false)) else bif decide ((↑y1.fst.m.words.length:Int)<1) then some (Sum.inr (Sum.inr false)) else bif decide (0<(↑y1.fst.m.words.length:Int)) then bif y1.fst.m.words.getD (Int.toNat 0) 0 != 12 then some (Sum.inr (Sum.inr false)) else bif (↑y1.fst.log.length:Int) != 3 then some (Sum.inr (Sum.inr false)) else match Zcr y1.fst with
  | some y2 => bif !y2 then some (Sum.inr (Sum.inr false)) else some (Sum.inl (Zad .i64 (x0+1)))
  | none=>none else none
 | none=>none else some (Sum.inr (Sum.inl ()))
def ZjP (x0:Int):Option ((Int)⊕((Unit)⊕(Bool))):=Zfx ZdE x0
def ZcJ (x:Int):Option ((Int)⊕((Unit)⊕(Bool))):=ZjP x
def Zfy (x:Int):Option ((Unit)⊕(Bool)):=ZaC ZcJ x
def Zi3 (w:Int->Option ((Unit)⊕(Bool))):Option Bool := match w 1 with
 | some (.inl y1) => some (true)
 | some (.inr y2) => some y2
 | none=>none
def ZoT:Option Bool:=Zi3 Zfy
def Zd9 (x:Unit):Option Bool:=ZoT
def ZoM (x0:Config) (x1:Config) (x2:Wld) (x3:Int):Option ((Config×Config×Wld×Int)⊕((Unit)⊕(Bool))) := bif decide (x3<x0.threads) then match ZnU (x1,x3) with
 | some y1 => bif decide (0<=y1) then bif decide (y1<(↑x2.m.words.length:Int)) then match ZgI (x2.hist,x3) with
  | some y2 => bif x2.m.words.getD (Int.toNat y1) 0 != 0 then bif x2.m.words.getD (Int.toNat y1) 0 != 5 then some (Sum.inr (Sum.inr false)) else bif y2.snd then some (Sum.inr (Sum.inr false)) else bif decide (0<=x3) then bif decide (x3<(↑x2.t.length:Int)) then match Zbt (x2.t.getD x3.toNat Zas) with
    | some y3 => bif y3 then some (Sum.inr (Sum.inr false)) else some (Sum.inl (x0,x1,x2,Zad .i64 (x3+1)))
    | none=>none else none else none else bif y2.snd then some (Sum.inr (Sum.inr false)) else bif decide (0<=x3) then bif decide (x3<(↑x2.t.length:Int)) then match Zbt (x2.t.getD x3.toNat Zas) with
   | some y3 => bif y3 then some (Sum.inr (Sum.inr false)) else some (Sum.inl (x0,x1,x2,Zad .i64 (x3+1)))
   | none=>none else none else none
  | none=>none else none else none
 | none=>none else some (Sum.inr (Sum.inl ()))
def ZoN (x:Config×Config×Wld×Int):Option ((Config×Config×Wld×Int)⊕((Unit)⊕(Bool))):=ZoM x.1 x.2.1 x.2.2.1 x.2.2.2
def ZoE (x:Config×Config×Wld×Int):Option ((Unit)⊕(Bool)):=ZaC ZoN x
def ZoR (x0:Config) (x1:Config) (x2:Wld) (x3:Int) (x4:Int):Option ((Config×Config×Wld×Int×Int)⊕((Config×Config×Wld×Int)⊕(Bool))) := match Zhh x1 with
 | some y1 => bif decide (x4<=y1) then match Znh (x1,x3,x4) with
  | some y2 => bif decide (0<=y2) then bif decide (y2<(↑x2.m.words.length:Int)) then bif x2.m.words.getD (Int.toNat y2) 0 != 0 then some (Sum.inr (Sum.inr false)) else some (Sum.inl (x0,x1,x2,x3,Zad .i64 (x4+1))) else none else none
  | none=>none else some (Sum.inr (Sum.inl (x0,x1,x2,x3)))
 | none=>none
def ZoQ (x:Config×Config×Wld×Int×Int):Option ((Config×Config×Wld×Int×Int)⊕((Config×Config×Wld×Int)⊕(Bool))):=ZoR x.1 x.2.1 x.2.2.1 x.2.2.2.1 x.2.2.2.2
def ZoL (x:Config×Config×Wld×Int×Int):Option ((Config×Config×Wld×Int)⊕(Bool)):=ZaC ZoQ x
def ZoF (x0:Config) (x1:Config) (x2:Wld) (x3:Int):Option ((Config×Config×Wld×Int)⊕((Config×Config×Wld)⊕(Bool))) := bif decide (x3<x0.items) then match ZoL (x0,x1,x2,x3,1) with
 | some (.inl y1) => some (Sum.inl (y1.fst,y1.snd.fst,y1.snd.snd.fst,Zad .i64 (y1.snd.snd.snd+1)))
 | some (.inr y2) => some (Sum.inr (Sum.inr y2))
 | none=>none else some (Sum.inr (Sum.inl (x0,x1,x2)))
def ZoO (x:Config×Config×Wld×Int):Option ((Config×Config×Wld×Int)⊕((Config×Config×Wld)⊕(Bool))):=ZoF x.1 x.2.1 x.2.2.1 x.2.2.2
def ZoJ (x:Config×Config×Wld×Int):Option ((Config×Config×Wld)⊕(Bool)):=ZaC ZoO x
def ZrB (f:Unit->Option Bool) (x0:Config) (x1:List SEntry) (x2:List Int):Option Bool := match ZiV x0 with
 | some y1 => bif !y1 then match f () with
  | some y2 => some y2
  | none=>none else bif decide ((↑x1.length:Int)>200) then match f () with
   | some y2 => some y2
   | none=>none else bif decide ((↑x2.length:Int)>100) then match f () with
    | some y2 => some y2
    | none=>none else match f () with
    | some y2 => bif !y2 then match f () with
     | some y3 => some y3
     | none=>none else bif fewB ((0:Nat)+x1.length) then match ZcK x0 with
      | some y3 => match Zct (x0,y3) with
       | some y4 => bif fewB (x1.length+List.length y4) then match ZcW (x0,x1++y4,x2) with
        | some y5 => bif y5.snd.snd != 0 then some ((↑y5.fst.t.length:Int) == 0) else match Zoc x0 with
         | some y6 => bif (↑y5.fst.m.words.length:Int) != y6 then some (false) else bif (↑y5.fst.t.length:Int) != x0.threads then some (false) else match ZoJ (x0,x0,y5.fst,0) with
          | some (.inl y7) => match ZoE (y7.fst,y7.snd.fst,y7.snd.snd,0) with
           | some (.inl y8) => some (true)
           | some (.inr y9) => some y9
           | none=>none
          | some (.inr y8) => some y8
          | none=>none
         | none=>none
        | none=>none else none
       | none=>none
      | none=>none else none
    | none=>none
 | none=>none
def Zrn (x0:Config) (x1:List SEntry) (x2:List Int):Option Bool:=ZrB Zd9 x0 x1 x2
def Zrk (x:Config×(List SEntry)×(List Int)):Option Bool:=Zrn x.1 x.2.1 x.2.2
def ZjO (x0:Wld) (x1:SEntry):Option (Wld×Int) := match Zfe (x0.c,x1) with
 | some y1 => bif y1 != 0 then some ((x0,y1)) else match Zcv x0.t with
  | some y2 => match ZcI x0.log with
   | some y3 => match ZcH x0.hist with
    | some y4 => bif x1.kind == 1 then bif decide (0<=x1.t) then bif decide (x1.t<(↑(List.length y2):Int)) then match Zbt (List.getD y2 x1.t.toNat Zas) with
      | some y5 => bif y5 then bif fewB (List.length y4+(Event.mk 3 x1.t x1.item x1.op 0 false x0.steps::[]).length) then some (({ x0 with t:=y2,log:=y3,hist:=y4++Event.mk 3 x1.t x1.item x1.op 0 false x0.steps::[] },170)) else none else match Ze3 (x0.c,x1.t,List.getD y2 x1.t.toNat Zas,x1.item,x1.op,x0.now) with
       | some y6 => bif fewB (List.length y4+(Event.mk 1 x1.t x1.item x1.op 0 false x0.steps::[]).length) then some (({ x0 with t:=List.set y2 x1.t.toNat y6,log:=y3,hist:=y4++Event.mk 1 x1.t x1.item x1.op 0 false x0.steps::[] },0)) else none
       | none=>none
      | none=>none else none else none else bif x1.kind == 2 then match Zb3 { x0 with t:=y2,log:=y3,hist:=y4 } x1.t with
     | some y5 => some ((y5,0))
     | none=>none else bif x1.kind == 3 then some (({ x0 with t:=y2,now:=Zad .i64 (x0.now+1),log:=y3,hist:=y4 },0)) else some (({ x0 with t:=y2,log:=y3,hist:=y4 },0))
    | none=>none
   | none=>none
  | none=>none
 | none=>none
def ZjN (x:Wld×SEntry):Option (Wld×Int):=ZjO x.1 x.2
def Zde (x0:Wld) (x1:Wld) (x2:Int):Option ((Wld×Wld×Int)⊕((Wld×Wld)⊕(Bool))) := bif decide (x2<(↑x0.m.words.length:Int)) then bif decide (0<=x2) then bif decide (x2<(↑x0.m.words.length:Int)) then bif decide (0<=x2) then bif decide (x2<(↑x1.m.words.length:Int)) then bif x0.m.words.getD x2.toNat 0 != x1.m.words.getD x2.toNat 0 then some (Sum.inr (Sum.inr false)) else some (Sum.inl (x0,x1,Zad .i64 (x2+1))) else none else none else none else none else some (Sum.inr (Sum.inl (x0,x1)))
def Zex (x:Wld×Wld×Int):Option ((Wld×Wld×Int)⊕((Wld×Wld)⊕(Bool))):=Zde x.1 x.2.1 x.2.2
def Zim (x:Wld×Wld×Int):Option ((Wld×Wld)⊕(Bool)):=ZaC Zex x
def Zdg (x0:Wld) (x1:Wld) (x2:Int):Option ((Wld×Wld×Int)⊕((Wld×Wld)⊕(Bool))) := bif decide (x2<(↑x0.log.length:Int)) then bif decide (0<=x2) then bif decide (x2<(↑x0.log.length:Int)) then bif decide (0<=x2) then bif decide (x2<(↑x1.log.length:Int)) then bif !((x0.log.getD x2.toNat Zbc).t == (x1.log.getD x2.toNat Zbc).t && ((x0.log.getD x2.toNat Zbc).item == (x1.log.getD x2.toNat Zbc).item && ((x0.log.getD x2.toNat Zbc).op.tag == (x1.log.getD x2.toNat Zbc).op.tag && ((x0.log.getD x2.toNat Zbc).op.v == (x1.log.getD x2.toNat Zbc).op.v && true) && ((x0.log.getD x2.toNat Zbc).prior == (x1.log.getD x2.toNat Zbc).prior && ((x0.log.getD x2.toNat Zbc).step == (x1.log.getD x2.toNat Zbc).step && true))))) then some (Sum.inr (Sum.inr false)) else some (Sum.inl (x0,x1,Zad .i64 (x2+1))) else none else none else none else none else some (Sum.inr (Sum.inl (x0,x1)))
def ZeA (x:Wld×Wld×Int):Option ((Wld×Wld×Int)⊕((Wld×Wld)⊕(Bool))):=Zdg x.1 x.2.1 x.2.2
def Zin (x:Wld×Wld×Int):Option ((Wld×Wld)⊕(Bool)):=ZaC ZeA x
def ZdD (x0:List SEntry) (x1:List Int) (x2:Config) (x3:Wld) (x4:List SEntry) (x5:Int):Option (((List SEntry)×(List Int)×Config×Wld×(List SEntry)×Int)⊕(((List Int)×Config×Wld×(List SEntry)))) := bif decide (x5<(↑x0.length:Int)) then bif decide (0<=x5) then bif decide (x5<(↑x0.length:Int)) then match ZjN (x3,x0.getD x5.toNat ZaG) with
 | some y1 => bif y1.snd == 0 then bif decide (0<=x5) then bif decide (x5<(↑x0.length:Int)) then bif fewB (x4.length+(x0.getD x5.toNat ZaG::[]).length) then some (Sum.inl (x0,x1,x2,y1.fst,x4++x0.getD x5.toNat ZaG::[],Zad .i64 (x5+1))) else none else none else none else some (Sum.inl (x0,x1,x2,y1.fst,x4,Zad .i64 (x5+1)))
 | none=>none else none else none else some (Sum.inr (x1,x2,x3,x4))
def Zdt (x:(List SEntry)×(List Int)×Config×Wld×(List SEntry)×Int):Option (((List SEntry)×(List Int)×Config×Wld×(List SEntry)×Int)⊕(((List Int)×Config×Wld×(List SEntry)))):=ZdD x.1 x.2.1 x.2.2.1 x.2.2.2.1 x.2.2.2.2.1 x.2.2.2.2.2
def Zf7 (x:(List SEntry)×(List Int)×Config×Wld×(List SEntry)×Int):Option (((List Int)×Config×Wld×(List SEntry))):=ZaC Zdt x
def Zfi (f:Unit->Option Bool) (x0:Config) (x1:List SEntry) (x2:List Int):Option Bool := match ZiV x0 with
 | some y1 => bif !y1 then match f () with
  | some y2 => some y2
  | none=>none else bif decide ((↑x1.length:Int)>200) then match f () with
   | some y2 => some y2
   | none=>none else bif decide ((↑x2.length:Int)>100) then match f () with
    | some y2 => some y2
    | none=>none else match f () with
    | some y2 => bif !y2 then match f () with
     | some y3 => some y3
     | none=>none else match ZgP (x0,x2) with
     | some y3 => bif y3.snd != 0 then some (false) else match Zf7 (x1,x2,x0,y3.fst,([]:List SEntry),0) with
      | some y4 => match ZcW (y4.snd.fst,y4.snd.snd.snd,y4.fst) with
       | some y5 => bif y5.snd.snd != 0 then some (false) else bif (↑y5.fst.log.length:Int) != (↑y4.snd.snd.fst.log.length:Int) then some (false) else bif y5.fst.steps != y4.snd.snd.fst.steps then some (false) else bif y5.fst.now != y4.snd.snd.fst.now then some (false) else bif (↑y5.fst.m.words.length:Int) != (↑y4.snd.snd.fst.m.words.length:Int) then some (false) else match Zin (y4.snd.snd.fst,y5.fst,0) with
        | some (.inl y6) => match Zim (y6.fst,y6.snd,0) with
         | some (.inl y7) => match ZcQ y7.fst.hist with
          | some y8 => match ZcQ y7.snd.hist with
           | some y9 => bif y8.fst == y9.fst then bif y8.snd.fst == y9.snd.fst then some (y9.snd.snd == 0) else some (false) else some (false)
           | none=>none
          | none=>none
         | some (.inr y8) => some y8
         | none=>none
        | some (.inr y7) => some y7
        | none=>none
       | none=>none
      | none=>none
     | none=>none
    | none=>none
 | none=>none
def Zfj (x0:Config) (x1:List SEntry) (x2:List Int):Option Bool:=Zfi Zd9 x0 x1 x2
def Zpr (x:Config×(List SEntry)×(List Int)):Option Bool:=Zfj x.1 x.2.1 x.2.2
end Go.Proofs.Mill
