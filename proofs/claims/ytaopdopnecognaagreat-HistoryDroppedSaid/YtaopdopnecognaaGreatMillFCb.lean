/- What the functions compute. -/
import Derived.Test.YtaopdopnecognaaGreatMillAll3
import Derived.Test.YtaopdopnecognaaGreatMillFT3b
namespace Go.Proofs.Mill
set_option linter.all false
noncomputable def ZkJ (x0:Config) (x1:List Int):Option (Wld×Int) :=
 match Zde x0 with
 | some y1 =>
  bif y1 != (0:Int) then
   some ((Wld.mk (Config.mk (0:Int) (0:Int) (0:Int) (0:Int) (0:Int) (0:Int) (0:Int) (0:Int) false (0:Int) (0:Int) (0:Int)) (Memo.mk ([]:List Int) ([]:List (List Entry))) ([]:List Thread) (0:Int) (0:Int) (Tape.mk ([]:List Int) (0:Int)) ([]:List Mark) ([]:List Event),y1))
  else
   match ZiN x0 with
   | some y2 =>
    match ZjZ () with
    | some y3 =>
     match Zc4 (y3::([]:List Thread),x0.threads) with
     | some y4 =>
      match Zbn x1 with
      | some y5 =>
       some ((Wld.mk x0 y2 y4 (0:Int) (0:Int) (Tape.mk y5 (0:Int)) ([]:List Mark) ([]:List Event),(0:Int)))
      | none=>none
     | none=>none
    | none=>none
   | none=>none
 | none=>none
noncomputable def ZkD (x:Config×(List Int)):Option (Wld×Int):=ZkJ x.1 x.2
noncomputable def Ze5 (x0:Wld) (x1:Wld) (x2:Int) (x3:List SEntry) (x4:Int) (x5:Int):Option ((Wld×Wld×Int×(List SEntry)×Int×Int)⊕((Wld×Wld×Int))) :=
 bif decide (x5<x4) then
  bif decide ((0:Int)≤x5) then
   bif decide (x5<(↑x3.length:Int)) then
    bif (x3.getD x5.toNat ZaK).kind == (1:Int) then
     bif decide ((0:Int)≤(x3.getD x5.toNat ZaK).t) then
      bif decide ((x3.getD x5.toNat ZaK).t<(↑x1.t.length:Int)) then
       match Zb7 (x1.t.getD (x3.getD x5.toNat ZaK).t.toNat Zax) with
       | some y1 =>
        bif y1 then
         bif fewB (x1.hist.length+(Event.mk (3:Int) (x3.getD x5.toNat ZaK).t (x3.getD x5.toNat ZaK).item (x3.getD x5.toNat ZaK).op (0:Int) false x1.steps::([]:List Event)).length) then
          some (Sum.inl (x0,{ x1 with hist:=x1.hist++Event.mk (3:Int) (x3.getD x5.toNat ZaK).t (x3.getD x5.toNat ZaK).item (x3.getD x5.toNat ZaK).op (0:Int) false x1.steps::([]:List Event) },x2,x3,x4,Zad IntKind.i64 (x5+(1:Int))))
         else
          none
        else
         match Zh6 (x1.c,(x3.getD x5.toNat ZaK).t,x1.t.getD (x3.getD x5.toNat ZaK).t.toNat Zax,(x3.getD x5.toNat ZaK).item,(x3.getD x5.toNat ZaK).op,x1.now) with
         | some y2 =>
          bif fewB (x1.hist.length+(Event.mk (1:Int) (x3.getD x5.toNat ZaK).t (x3.getD x5.toNat ZaK).item (x3.getD x5.toNat ZaK).op (0:Int) false x1.steps::([]:List Event)).length) then
           some (Sum.inl (x0,{ x1 with t:=x1.t.set (x3.getD x5.toNat ZaK).t.toNat y2,hist:=x1.hist++Event.mk (1:Int) (x3.getD x5.toNat ZaK).t (x3.getD x5.toNat ZaK).item (x3.getD x5.toNat ZaK).op (0:Int) false x1.steps::([]:List Event) },x2,x3,x4,Zad IntKind.i64 (x5+(1:Int))))
          else
           none
         | none=>none
       | none=>none
      else
       none
     else
      none
    else
     bif (x3.getD x5.toNat ZaK).kind == (2:Int) then
      match Zb5 x1 (x3.getD x5.toNat ZaK).t with
      | some y1 =>
       some (Sum.inl (x0,y1,x2,x3,x4,Zad IntKind.i64 (x5+(1:Int))))
      | none=>none
     else
      bif (x3.getD x5.toNat ZaK).kind == (3:Int) then
       some (Sum.inl (x0,{ x1 with now:=Zad IntKind.i64 (x1.now+(1:Int)) },x2,x3,x4,Zad IntKind.i64 (x5+(1:Int))))
      else
       some (Sum.inl (x0,x1,x2,x3,x4,Zad IntKind.i64 (x5+(1:Int))))
   else
    none
  else
   none
 else
  some (Sum.inr (x0,x1,x2))
noncomputable def ZgE (x:Wld×Wld×Int×(List SEntry)×Int×Int):Option ((Wld×Wld×Int×(List SEntry)×Int×Int)⊕((Wld×Wld×Int))):=Ze5 x.1 x.2.1 x.2.2.1 x.2.2.2.1 x.2.2.2.2.1 x.2.2.2.2.2
noncomputable def ZiQ (x:Wld×Wld×Int×(List SEntry)×Int×Int):Option ((Wld×Wld×Int)):=ZaH ZgE x
noncomputable def Zfd (x0:Config) (x1:List SEntry) (x2:List Int):Option (Wld×Int×Int) :=
 match Zg2 (x0,x1) with
 | some y1 =>
  bif y1.snd != (0:Int) then
   some ((Wld.mk (Config.mk (0:Int) (0:Int) (0:Int) (0:Int) (0:Int) (0:Int) (0:Int) (0:Int) false (0:Int) (0:Int) (0:Int)) (Memo.mk ([]:List Int) ([]:List (List Entry))) ([]:List Thread) (0:Int) (0:Int) (Tape.mk ([]:List Int) (0:Int)) ([]:List Mark) ([]:List Event),y1))
  else
   match ZkD (x0,x2) with
   | some y2 =>
    match ZiQ (Wld.mk (Config.mk (0:Int) (0:Int) (0:Int) (0:Int) (0:Int) (0:Int) (0:Int) (0:Int) false (0:Int) (0:Int) (0:Int)) (Memo.mk ([]:List Int) ([]:List (List Entry))) ([]:List Thread) (0:Int) (0:Int) (Tape.mk ([]:List Int) (0:Int)) ([]:List Mark) ([]:List Event),y2.fst,y2.snd,x1,(↑x1.length:Int),(0:Int)) with
    | some y3 =>
     some ((y3.snd.fst,(0:Int),y3.snd.snd))
    | none=>none
   | none=>none
 | none=>none
noncomputable def Zgn (x:Config×(List SEntry)×(List Int)):Option (Wld×Int×Int):=Zfd x.1 x.2.1 x.2.2
noncomputable def Zrs:Option (Bool) :=
 match Zi6 (Config.mk (2:Int) (1:Int) (2:Int) (1:Int) (0:Int) (1:Int) (0:Int) (0:Int) false (0:Int) (0:Int) (0:Int),(20:Int)) with
 | some y1 =>
  bif fewB ((SEntry.mk (1:Int) (0:Int) (0:Int) (Op.mk (1:Int) (1:Int))::SEntry.mk (2:Int) (0:Int) (0:Int) (Op.mk (0:Int) (0:Int))::SEntry.mk (2:Int) (1:Int) (0:Int) (Op.mk (0:Int) (0:Int))::SEntry.mk (3:Int) (0:Int) (0:Int) (Op.mk (0:Int) (0:Int))::SEntry.mk (2:Int) (0:Int) (0:Int) (Op.mk (0:Int) (0:Int))::([]:List SEntry)++SEntry.mk (1:Int) (1:Int) (0:Int) (Op.mk (1:Int) (2:Int))::([]:List SEntry)).length+List.length y1) then
   match Zgn (Config.mk (2:Int) (1:Int) (2:Int) (1:Int) (0:Int) (1:Int) (0:Int) (0:Int) false (0:Int) (0:Int) (0:Int),SEntry.mk (1:Int) (0:Int) (0:Int) (Op.mk (1:Int) (1:Int))::SEntry.mk (2:Int) (0:Int) (0:Int) (Op.mk (0:Int) (0:Int))::SEntry.mk (2:Int) (1:Int) (0:Int) (Op.mk (0:Int) (0:Int))::SEntry.mk (3:Int) (0:Int) (0:Int) (Op.mk (0:Int) (0:Int))::SEntry.mk (2:Int) (0:Int) (0:Int) (Op.mk (0:Int) (0:Int))::([]:List SEntry)++SEntry.mk (1:Int) (1:Int) (0:Int) (Op.mk (1:Int) (2:Int))::([]:List SEntry)++y1,([]:List Int)) with
   | some y2 =>
    match ZhB (Config.mk (2:Int) (1:Int) (2:Int) (1:Int) (0:Int) (1:Int) (0:Int) (0:Int) false (0:Int) (0:Int) (0:Int),SEntry.mk (1:Int) (0:Int) (0:Int) (Op.mk (1:Int) (1:Int))::SEntry.mk (2:Int) (0:Int) (0:Int) (Op.mk (0:Int) (0:Int))::SEntry.mk (2:Int) (1:Int) (0:Int) (Op.mk (0:Int) (0:Int))::SEntry.mk (3:Int) (0:Int) (0:Int) (Op.mk (0:Int) (0:Int))::SEntry.mk (2:Int) (0:Int) (0:Int) (Op.mk (0:Int) (0:Int))::([]:List SEntry)) with
    | some y3 =>
     bif y3 == (1:Int) then
      match ZgC (Config.mk (2:Int) (1:Int) (2:Int) (1:Int) (0:Int) (1:Int) (0:Int) (0:Int) false (0:Int) (0:Int) (0:Int)) with
      | some y4 =>
       bif y4 == (244:Int) then
        match Zkb (Config.mk (2:Int) (1:Int) (2:Int) (1:Int) (0:Int) (1:Int) (0:Int) (0:Int) false (0:Int) (0:Int) (0:Int)) with
        | some y5 =>
         bif (↑(List.length y5):Int) == (2:Int) then
          match Zfc (Config.mk (2:Int) (1:Int) (2:Int) (1:Int) (0:Int) (1:Int) (0:Int) (0:Int) false (0:Int) (0:Int) (0:Int),SEntry.mk (1:Int) (0:Int) (0:Int) (Op.mk (1:Int) (1:Int))::SEntry.mk (2:Int) (0:Int) (0:Int) (Op.mk (0:Int) (0:Int))::SEntry.mk (2:Int) (1:Int) (0:Int) (Op.mk (0:Int) (0:Int))::SEntry.mk (3:Int) (0:Int) (0:Int) (Op.mk (0:Int) (0:Int))::SEntry.mk (2:Int) (0:Int) (0:Int) (Op.mk (0:Int) (0:Int))::([]:List SEntry)) with
          | some y6 =>
           bif !y6 then
            bif y2.snd.snd == (0:Int) then
             match Znj y2.fst with
             | some y7 =>
              bif y7 == (0:Int) then
               bif (↑y2.fst.m.words.length:Int) == (6:Int) then
                bif decide ((0:Int)<(↑y2.fst.m.words.length:Int)) then
                 some (y2.fst.m.words.getD (Int.toNat (0:Int)) (0:Int) == (3:Int))
                else
                 none
               else
                some (false)
              else
               some (false)
             | none=>none
            else
             some (false)
           else
            some (false)
          | none=>none
         else
          some (false)
        | none=>none
       else
        some (false)
      | none=>none
     else
      some (false)
    | none=>none
   | none=>none
  else
   none
 | none=>none
noncomputable def ZcG (x:Unit):Option (Bool):=Zrs
noncomputable def Zlg (x0:List SEntry) (x1:Int) (x2:Config) (x3:Int) (x4:List SEntry) (x5:Int) (x6:List SEntry) (x7:List SEntry) (x8:List SEntry) (x9:Int):Option (((List SEntry)×Int×Config×Int×(List SEntry)×Int×(List SEntry)×(List SEntry)×(List SEntry)×Int)⊕(((List SEntry)×Config×Int×(List SEntry)×Int×(List SEntry)×(List SEntry)×(List SEntry)))) :=
 bif decide (x9<(↑x6.length:Int)) then
  bif x9.tmod (97:Int) == IntKind.i64.wrap x1 then
   bif fewB (x8.length+(SEntry.mk (3:Int) (0:Int) (0:Int) (Op.mk (0:Int) (0:Int))::([]:List SEntry)).length) then
    bif decide ((0:Int)≤x9) then
     bif decide (x9<(↑x6.length:Int)) then
      bif fewB ((x8++SEntry.mk (3:Int) (0:Int) (0:Int) (Op.mk (0:Int) (0:Int))::([]:List SEntry)).length+(x6.getD x9.toNat ZaK::([]:List SEntry)).length) then
       some (Sum.inl (x0,x1,x2,x3,x4,x5,x6,x7,x8++SEntry.mk (3:Int) (0:Int) (0:Int) (Op.mk (0:Int) (0:Int))::([]:List SEntry)++x6.getD x9.toNat ZaK::([]:List SEntry),Zad IntKind.i64 (x9+(1:Int))))
      else
       none
     else
      none
    else
     none
   else
    none
  else
   bif decide ((0:Int)≤x9) then
    bif decide (x9<(↑x6.length:Int)) then
     bif fewB (x8.length+(x6.getD x9.toNat ZaK::([]:List SEntry)).length) then
      some (Sum.inl (x0,x1,x2,x3,x4,x5,x6,x7,x8++x6.getD x9.toNat ZaK::([]:List SEntry),Zad IntKind.i64 (x9+(1:Int))))
     else
      none
    else
     none
   else
    none
 else
  some (Sum.inr (x0,x2,x3,x4,x5,x6,x7,x8))
noncomputable def Zk4 (x:(List SEntry)×Int×Config×Int×(List SEntry)×Int×(List SEntry)×(List SEntry)×(List SEntry)×Int):Option (((List SEntry)×Int×Config×Int×(List SEntry)×Int×(List SEntry)×(List SEntry)×(List SEntry)×Int)⊕(((List SEntry)×Config×Int×(List SEntry)×Int×(List SEntry)×(List SEntry)×(List SEntry)))):=Zlg x.1 x.2.1 x.2.2.1 x.2.2.2.1 x.2.2.2.2.1 x.2.2.2.2.2.1 x.2.2.2.2.2.2.1 x.2.2.2.2.2.2.2.1 x.2.2.2.2.2.2.2.2.1 x.2.2.2.2.2.2.2.2.2
noncomputable def Zlm (x:(List SEntry)×Int×Config×Int×(List SEntry)×Int×(List SEntry)×(List SEntry)×(List SEntry)×Int):Option (((List SEntry)×Config×Int×(List SEntry)×Int×(List SEntry)×(List SEntry)×(List SEntry))):=ZaH Zk4 x
noncomputable def ZmV (x0:Config) (x1:List SEntry) (x2:Op) (x3:Int) (x4:Int):Option (Bool) :=
 match ZnR x0 with
 | some y1 =>
  bif !y1 then
   match ZcG () with
   | some y2 =>
    some (y2)
   | none=>none
  else
   bif decide ((↑x1.length:Int)>(200:Int)) then
    match ZcG () with
    | some y2 =>
     some (y2)
    | none=>none
   else
    bif decide (x0.threads>(6:Int)) then
     match ZcG () with
     | some y2 =>
      some (y2)
     | none=>none
    else
     bif decide (x0.depth>(3:Int)) then
      match ZcG () with
      | some y2 =>
       some (y2)
      | none=>none
     else
      bif decide (x0.layers>(2:Int)) then
       match ZcG () with
       | some y2 =>
        some (y2)
       | none=>none
      else
       bif decide (x0.spin>(5:Int)) then
        match ZcG () with
        | some y2 =>
         some (y2)
        | none=>none
       else
        match ZcG () with
        | some y2 =>
         bif !y2 then
          match ZcG () with
          | some y3 =>
           some (y3)
          | none=>none
         else
          bif decide (x0.threads=(0:Int)) then
           none
          else
           bif fewB ((0:Nat)+x1.length) then
            bif fewB (x1.length+(SEntry.mk (1:Int) ((IntKind.i64.wrap x3).tmod x0.threads) (0:Int) x2::([]:List SEntry)).length) then
             match ZgC x0 with
             | some y3 =>
              match Zi6 (x0,y3) with
              | some y4 =>
               bif (↑(List.length y4):Int) != Zad IntKind.i64 (y3*x0.threads) then
                some (false)
               else
                bif fewB ((0:Nat)+(x1++SEntry.mk (1:Int) ((IntKind.i64.wrap x3).tmod x0.threads) (0:Int) x2::([]:List SEntry)).length) then
                 bif fewB ((x1++SEntry.mk (1:Int) ((IntKind.i64.wrap x3).tmod x0.threads) (0:Int) x2::([]:List SEntry)).length+List.length y4) then
                  bif fewB ((0:Nat)+(x1++SEntry.mk (1:Int) ((IntKind.i64.wrap x3).tmod x0.threads) (0:Int) x2::([]:List SEntry)).length) then
                   match Zlm (x1,x4,x0,(IntKind.i64.wrap x3).tmod x0.threads,x1++SEntry.mk (1:Int) ((IntKind.i64.wrap x3).tmod x0.threads) (0:Int) x2::([]:List SEntry),y3,y4,x1++SEntry.mk (1:Int) ((IntKind.i64.wrap x3).tmod x0.threads) (0:Int) x2::([]:List SEntry)++y4,x1++SEntry.mk (1:Int) ((IntKind.i64.wrap x3).tmod x0.threads) (0:Int) x2::([]:List SEntry),(0:Int)) with
                   | some y5 =>
                    bif fewB ((0:Nat)+List.length y5.snd.snd.snd.fst) then
                     bif fewB (List.length y5.snd.snd.snd.fst+(SEntry.mk (2:Int) y5.snd.snd.fst (0:Int) (Op.mk (0:Int) (0:Int))::([]:List SEntry)).length) then
                      bif fewB ((y5.snd.snd.snd.fst++SEntry.mk (2:Int) y5.snd.snd.fst (0:Int) (Op.mk (0:Int) (0:Int))::([]:List SEntry)).length+List.length y5.snd.snd.snd.snd.snd.fst) then
                       match Zfc (y5.snd.fst,y5.snd.snd.snd.snd.snd.snd.fst) with
                       | some y6 =>
                        bif y6 then
                         match ZhB (y5.snd.fst,y5.snd.snd.snd.snd.snd.snd.fst) with
                         | some y7 =>
                          bif y7 == y5.snd.snd.snd.snd.fst then
                           match Zfc (y5.snd.fst,y5.snd.snd.snd.snd.snd.snd.snd) with
                           | some y8 =>
                            bif y8 then
                             bif fewB ((0:Nat)+List.length y5.snd.snd.snd.snd.snd.snd.fst) then
                              bif decide ((↑(List.length y5.fst):Int)<(↑(List.length y5.snd.snd.snd.fst):Int)) then
                               bif fewB (List.length y5.snd.snd.snd.snd.snd.snd.fst+(List.getD y5.snd.snd.snd.fst (↑(List.length y5.fst):Int).toNat ZaK::([]:List SEntry)).length) then
                                match Zfc (y5.snd.fst,y5.snd.snd.snd.snd.snd.snd.fst++List.getD y5.snd.snd.snd.fst (↑(List.length y5.fst):Int).toNat ZaK::([]:List SEntry)) with
                                | some y9 =>
                                 bif !y9 then
                                  match Zfc (y5.snd.fst,y5.snd.snd.snd.fst++SEntry.mk (2:Int) y5.snd.snd.fst (0:Int) (Op.mk (0:Int) (0:Int))::([]:List SEntry)++y5.snd.snd.snd.snd.snd.fst) with
                                  | some y10 =>
                                   some (y10 == (y5.snd.fst.threads == (1:Int)))
                                  | none=>none
                                 else
                                  some (false)
                                | none=>none
                               else
                                none
                              else
                               none
                             else
                              none
                            else
                             some (false)
                           | none=>none
                          else
                           some (false)
                         | none=>none
                        else
                         some (false)
                       | none=>none
                      else
                       none
                     else
                      none
                    else
                     none
                   | none=>none
                  else
                   none
                 else
                  none
                else
                 none
              | none=>none
             | none=>none
            else
             none
           else
            none
        | none=>none
 | none=>none
noncomputable def Znd (x:Config×(List SEntry)×Op×Int×Int):Option (Bool):=ZmV x.1 x.2.1 x.2.2.1 x.2.2.2.1 x.2.2.2.2
end Go.Proofs.Mill
