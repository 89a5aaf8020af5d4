/- What the functions compute. -/
import Derived.Test.YtecgogmolkjhjaaGreatMillAll3
import Derived.Test.YtecgogmolkjhjaaGreatMillFS17
set_option linter.all false
noncomputable section
namespace Go.Proofs.Mill
def Ze9 (x0:Config) (x1:List SEntry) (x2:List Int) (x3:Int) (x4:Int) (x5:Op):Option (Bool) := match ZkD (x1,x2) with
 | some y1 => bif y1 then match Zfp () with
  | some y2 => some (y2)
  | none=>none else match Zfp () with
  | some y2 => bif !y2 then match Zfp () with
   | some y3 => some (y3)
   | none=>none else match Zje (x0,x1,x2) with
   | some y3 => bif y3.snd.snd != (0:Int) then bif y3.snd.snd != (0:Int) then some (true) else some ((↑y3.fst.t.length:Int) == x0.threads) else bif (↑y3.fst.t.length:Int) != x0.threads then bif y3.snd.snd != (0:Int) then some (true) else some ((↑y3.fst.t.length:Int) == x0.threads) else match ZgH (x5,x0.bounded) with
    | some y4 => bif !y4 then bif y3.snd.snd != (0:Int) then some (true) else some ((↑y3.fst.t.length:Int) == x0.threads) else bif decide (x0.threads=(0:Int)) then none else bif decide ((0:Int)<=(IntKind.i64.wrap x3).tmod x0.threads) then bif decide ((IntKind.i64.wrap x3).tmod x0.threads<(↑y3.fst.t.length:Int)) then match Zbn (y3.fst.t.getD ((IntKind.i64.wrap x3).tmod x0.threads).toNat Zax) with
     | some y5 => bif y5 then bif decide (x0.items=(0:Int)) then none else match ZeW (y3.fst,SEntry.mk (1:Int) ((IntKind.i64.wrap x3).tmod x0.threads) ((IntKind.i64.wrap x4).tmod x0.items) x5) with
       | some y6 => match ZeW (y3.fst,SEntry.mk (3:Int) (0:Int) (0:Int) (Op.mk (0:Int) (0:Int))) with
        | some y7 => bif y7.snd != (0:Int) then some (false) else match Zck { y7.fst with now:=Zaf IntKind.i64 (y7.fst.now-(1:Int)) } with
          | some y8 => match Zck y3.fst with
           | some y9 => match ZeZ (y8,y9) with
            | some y10 => bif !y10 then some (false) else bif y6.snd != (170:Int) then some (false) else bif (↑y6.fst.hist.length:Int) != Zaf IntKind.i64 ((↑y3.fst.hist.length:Int)+(1:Int)) then some (false) else bif decide ((↑y3.fst.hist.length:Int)<(↑y6.fst.hist.length:Int)) then bif !((y6.fst.hist.getD (↑y3.fst.hist.length:Int).toNat Zbb).kind == (3:Int) && ((y6.fst.hist.getD (↑y3.fst.hist.length:Int).toNat Zbb).t == (IntKind.i64.wrap x3).tmod x0.threads && ((y6.fst.hist.getD (↑y3.fst.hist.length:Int).toNat Zbb).item == (IntKind.i64.wrap x4).tmod x0.items && ((y6.fst.hist.getD (↑y3.fst.hist.length:Int).toNat Zbb).op.tag == x5.tag && ((y6.fst.hist.getD (↑y3.fst.hist.length:Int).toNat Zbb).op.v == x5.v && true) && ((y6.fst.hist.getD (↑y3.fst.hist.length:Int).toNat Zbb).prior == (0:Int) && ((y6.fst.hist.getD (↑y3.fst.hist.length:Int).toNat Zbb).did == false && ((y6.fst.hist.getD (↑y3.fst.hist.length:Int).toNat Zbb).step == y3.fst.steps && true))))))) then some (false) else bif decide ((↑y3.fst.hist.length:Int)<=(↑y6.fst.hist.length:Int)) then match Zck { y6.fst with hist:=List.drop (Int.toNat (0:Int)) (List.take (↑y3.fst.hist.length:Int).toNat y6.fst.hist) } with
                | some y11 => match Zck y3.fst with
                 | some y12 => match ZeZ (y11,y12) with
                  | some y13 => some (y13)
                  | none=>none
                 | none=>none
                | none=>none else none else none
            | none=>none
           | none=>none
          | none=>none
        | none=>none
       | none=>none else match ZeW (y3.fst,SEntry.mk (2:Int) ((IntKind.i64.wrap x3).tmod x0.threads) (0:Int) (Op.mk (0:Int) (0:Int))) with
      | some y6 => match ZeW (y3.fst,SEntry.mk (3:Int) (0:Int) (0:Int) (Op.mk (0:Int) (0:Int))) with
       | some y7 => bif y7.snd != (0:Int) then some (false) else match Zck { y7.fst with now:=Zaf IntKind.i64 (y7.fst.now-(1:Int)) } with
         | some y8 => match Zck y3.fst with
          | some y9 => match ZeZ (y8,y9) with
           | some y10 => bif !y10 then some (false) else bif y6.snd == (0:Int) then match Zck y6.fst with
             | some y11 => match Zck y3.fst with
              | some y12 => match ZeZ (y11,y12) with
               | some y13 => some (y13)
               | none=>none
              | none=>none
             | none=>none else some (false)
           | none=>none
          | none=>none
         | none=>none
       | none=>none
      | none=>none
     | none=>none else none else none
    | none=>none
   | none=>none
  | none=>none
 | none=>none
def Znl (x:Config×(List SEntry)×(List Int)×Int×Int×Op):Option (Bool):=Ze9 x.1 x.2.1 x.2.2.1 x.2.2.2.1 x.2.2.2.2.1 x.2.2.2.2.2
end Go.Proofs.Mill
