/- What the functions compute. -/
import Derived.Test.YtaopdopnecognaaGreatMillAll4
import Derived.Test.YtaopdopnecognaaGreatMillFT3b
namespace Go.Proofs.Mill
set_option linter.all false
/- millstream/world.New -/
noncomputable def F_world_New (x0 : Config) (x1 : List Int) : Option (Wld × Int) :=
 match C_config_Check x0 with
 | some y1 =>
  bif y1 != (0 : Int) then
   some ((Wld.mk (Config.mk (0 : Int) (0 : Int) (0 : Int) (0 : Int) (0 : Int) (0 : Int) (0 : Int) (0 : Int) false (0 : Int) (0 : Int) (0 : Int)) (Memo.mk ([] : List Int) ([] : List (List Entry))) ([] : List Thread) (0 : Int) (0 : Int) (Tape.mk ([] : List Int) (0 : Int)) ([] : List Mark) ([] : List Event), y1))
  else
   match C_arena_Build x0 with
   | some y2 =>
    match C_thread_New () with
    | some y3 =>
     match C_slices_Repeat_thread_Thread (y3 :: ([] : List Thread), x0.threads) with
     | some y4 =>
      match C_slices_Clone_int x1 with
      | some y5 =>
       some ((Wld.mk x0 y2 y4 (0 : Int) (0 : Int) (Tape.mk y5 (0 : Int)) ([] : List Mark) ([] : List Event), (0 : Int)))
      | none => none
     | none => none
    | none => none
   | none => none
 | none => none
noncomputable def C_world_New (x : Config × (List Int)) : Option (Wld × Int) := F_world_New x.1 x.2

/- millstream/world.Run -/
noncomputable def S_world_Run_6 (x0 : Wld) (x1 : Wld) (x2 : Int) (x3 : List SEntry) (x4 : Int) (x5 : Int) : Option ((Wld × Wld × Int × (List SEntry) × Int × Int) ⊕ ((Wld × Wld × Int))) :=
 bif decide (x5 < x4) then
  bif decide ((0 : Int) ≤ x5) then
   bif decide (x5 < (↑x3.length : Int)) then
    bif (x3.getD x5.toNat dSEntry).kind == (1 : Int) then
     bif decide ((0 : Int) ≤ (x3.getD x5.toNat dSEntry).t) then
      bif decide ((x3.getD x5.toNat dSEntry).t < (↑x1.t.length : Int)) then
       match C_thread_Busy (x1.t.getD (x3.getD x5.toNat dSEntry).t.toNat dThread) with
       | some y1 =>
        bif y1 then
         bif fewB (x1.hist.length + (Event.mk (3 : Int) (x3.getD x5.toNat dSEntry).t (x3.getD x5.toNat dSEntry).item (x3.getD x5.toNat dSEntry).op (0 : Int) false x1.steps :: ([] : List Event)).length) then
          some (Sum.inl (x0, { x1 with hist := x1.hist ++ Event.mk (3 : Int) (x3.getD x5.toNat dSEntry).t (x3.getD x5.toNat dSEntry).item (x3.getD x5.toNat dSEntry).op (0 : Int) false x1.steps :: ([] : List Event) }, x2, x3, x4, wrapA IntKind.i64 (x5 + (1 : Int))))
         else
          none
        else
         match C_thread_Begin (x1.c, (x3.getD x5.toNat dSEntry).t, x1.t.getD (x3.getD x5.toNat dSEntry).t.toNat dThread, (x3.getD x5.toNat dSEntry).item, (x3.getD x5.toNat dSEntry).op, x1.now) with
         | some y2 =>
          bif fewB (x1.hist.length + (Event.mk (1 : Int) (x3.getD x5.toNat dSEntry).t (x3.getD x5.toNat dSEntry).item (x3.getD x5.toNat dSEntry).op (0 : Int) false x1.steps :: ([] : List Event)).length) then
           some (Sum.inl (x0, { x1 with t := x1.t.set (x3.getD x5.toNat dSEntry).t.toNat y2, hist := x1.hist ++ Event.mk (1 : Int) (x3.getD x5.toNat dSEntry).t (x3.getD x5.toNat dSEntry).item (x3.getD x5.toNat dSEntry).op (0 : Int) false x1.steps :: ([] : List Event) }, x2, x3, x4, wrapA IntKind.i64 (x5 + (1 : Int))))
          else
           none
         | none => none
       | none => none
      else
       none
     else
      none
    else
     bif (x3.getD x5.toNat dSEntry).kind == (2 : Int) then
      match F_world_pick x1 (x3.getD x5.toNat dSEntry).t with
      | some y1 =>
       some (Sum.inl (x0, y1, x2, x3, x4, wrapA IntKind.i64 (x5 + (1 : Int))))
      | none => none
     else
      bif (x3.getD x5.toNat dSEntry).kind == (3 : Int) then
       some (Sum.inl (x0, { x1 with now := wrapA IntKind.i64 (x1.now + (1 : Int)) }, x2, x3, x4, wrapA IntKind.i64 (x5 + (1 : Int))))
      else
       some (Sum.inl (x0, x1, x2, x3, x4, wrapA IntKind.i64 (x5 + (1 : Int))))
   else
    none
  else
   none
 else
  some (Sum.inr (x0, x1, x2))
noncomputable def T_world_Run_6 (x : Wld × Wld × Int × (List SEntry) × Int × Int) : Option ((Wld × Wld × Int × (List SEntry) × Int × Int) ⊕ ((Wld × Wld × Int))) := S_world_Run_6 x.1 x.2.1 x.2.2.1 x.2.2.2.1 x.2.2.2.2.1 x.2.2.2.2.2
noncomputable def W_world_Run_6 (x : Wld × Wld × Int × (List SEntry) × Int × Int) : Option ((Wld × Wld × Int)) := whileM T_world_Run_6 x
noncomputable def F_world_Run (x0 : Config) (x1 : List SEntry) (x2 : List Int) : Option (Wld × Int × Int) :=
 match C_script_All (x0, x1) with
 | some y1 =>
  bif y1.snd != (0 : Int) then
   some ((Wld.mk (Config.mk (0 : Int) (0 : Int) (0 : Int) (0 : Int) (0 : Int) (0 : Int) (0 : Int) (0 : Int) false (0 : Int) (0 : Int) (0 : Int)) (Memo.mk ([] : List Int) ([] : List (List Entry))) ([] : List Thread) (0 : Int) (0 : Int) (Tape.mk ([] : List Int) (0 : Int)) ([] : List Mark) ([] : List Event), y1))
  else
   match C_world_New (x0, x2) with
   | some y2 =>
    match W_world_Run_6 (Wld.mk (Config.mk (0 : Int) (0 : Int) (0 : Int) (0 : Int) (0 : Int) (0 : Int) (0 : Int) (0 : Int) false (0 : Int) (0 : Int) (0 : Int)) (Memo.mk ([] : List Int) ([] : List (List Entry))) ([] : List Thread) (0 : Int) (0 : Int) (Tape.mk ([] : List Int) (0 : Int)) ([] : List Mark) ([] : List Event), y2.fst, y2.snd, x1, (↑x1.length : Int), (0 : Int)) with
    | some y3 =>
     some ((y3.snd.fst, (0 : Int), y3.snd.snd))
    | none => none
   | none => none
 | none => none
noncomputable def C_world_Run (x : Config × (List SEntry) × (List Int)) : Option (Wld × Int × Int) := F_world_Run x.1 x.2.1 x.2.2

/- millstream/millstreamlaw19.shown -/
noncomputable def F_law19_shown : Option (Bool) :=
 match C_fair_Suffix (Config.mk (2 : Int) (1 : Int) (2 : Int) (1 : Int) (0 : Int) (1 : Int) (0 : Int) (0 : Int) false (0 : Int) (0 : Int) (0 : Int), (20 : Int)) with
 | some y1 =>
  bif fewB ((SEntry.mk (1 : Int) (0 : Int) (0 : Int) (Op.mk (1 : Int) (1 : Int)) :: SEntry.mk (2 : Int) (0 : Int) (0 : Int) (Op.mk (0 : Int) (0 : Int)) :: SEntry.mk (2 : Int) (1 : Int) (0 : Int) (Op.mk (0 : Int) (0 : Int)) :: SEntry.mk (3 : Int) (0 : Int) (0 : Int) (Op.mk (0 : Int) (0 : Int)) :: SEntry.mk (2 : Int) (0 : Int) (0 : Int) (Op.mk (0 : Int) (0 : Int)) :: ([] : List SEntry) ++ SEntry.mk (1 : Int) (1 : Int) (0 : Int) (Op.mk (1 : Int) (2 : Int)) :: ([] : List SEntry)).length + List.length y1) then
   match C_world_Run (Config.mk (2 : Int) (1 : Int) (2 : Int) (1 : Int) (0 : Int) (1 : Int) (0 : Int) (0 : Int) false (0 : Int) (0 : Int) (0 : Int), SEntry.mk (1 : Int) (0 : Int) (0 : Int) (Op.mk (1 : Int) (1 : Int)) :: SEntry.mk (2 : Int) (0 : Int) (0 : Int) (Op.mk (0 : Int) (0 : Int)) :: SEntry.mk (2 : Int) (1 : Int) (0 : Int) (Op.mk (0 : Int) (0 : Int)) :: SEntry.mk (3 : Int) (0 : Int) (0 : Int) (Op.mk (0 : Int) (0 : Int)) :: SEntry.mk (2 : Int) (0 : Int) (0 : Int) (Op.mk (0 : Int) (0 : Int)) :: ([] : List SEntry) ++ SEntry.mk (1 : Int) (1 : Int) (0 : Int) (Op.mk (1 : Int) (2 : Int)) :: ([] : List SEntry) ++ y1, ([] : List Int)) with
   | some y2 =>
    match C_fair_Whole (Config.mk (2 : Int) (1 : Int) (2 : Int) (1 : Int) (0 : Int) (1 : Int) (0 : Int) (0 : Int) false (0 : Int) (0 : Int) (0 : Int), SEntry.mk (1 : Int) (0 : Int) (0 : Int) (Op.mk (1 : Int) (1 : Int)) :: SEntry.mk (2 : Int) (0 : Int) (0 : Int) (Op.mk (0 : Int) (0 : Int)) :: SEntry.mk (2 : Int) (1 : Int) (0 : Int) (Op.mk (0 : Int) (0 : Int)) :: SEntry.mk (3 : Int) (0 : Int) (0 : Int) (Op.mk (0 : Int) (0 : Int)) :: SEntry.mk (2 : Int) (0 : Int) (0 : Int) (Op.mk (0 : Int) (0 : Int)) :: ([] : List SEntry)) with
    | some y3 =>
     bif y3 == (1 : Int) then
      match C_fair_Rounds (Config.mk (2 : Int) (1 : Int) (2 : Int) (1 : Int) (0 : Int) (1 : Int) (0 : Int) (0 : Int) false (0 : Int) (0 : Int) (0 : Int)) with
      | some y4 =>
       bif y4 == (244 : Int) then
        match C_fair_Round (Config.mk (2 : Int) (1 : Int) (2 : Int) (1 : Int) (0 : Int) (1 : Int) (0 : Int) (0 : Int) false (0 : Int) (0 : Int) (0 : Int)) with
        | some y5 =>
         bif (↑(List.length y5) : Int) == (2 : Int) then
          match C_fair_Fair (Config.mk (2 : Int) (1 : Int) (2 : Int) (1 : Int) (0 : Int) (1 : Int) (0 : Int) (0 : Int) false (0 : Int) (0 : Int) (0 : Int), SEntry.mk (1 : Int) (0 : Int) (0 : Int) (Op.mk (1 : Int) (1 : Int)) :: SEntry.mk (2 : Int) (0 : Int) (0 : Int) (Op.mk (0 : Int) (0 : Int)) :: SEntry.mk (2 : Int) (1 : Int) (0 : Int) (Op.mk (0 : Int) (0 : Int)) :: SEntry.mk (3 : Int) (0 : Int) (0 : Int) (Op.mk (0 : Int) (0 : Int)) :: SEntry.mk (2 : Int) (0 : Int) (0 : Int) (Op.mk (0 : Int) (0 : Int)) :: ([] : List SEntry)) with
          | some y6 =>
           bif !y6 then
            bif y2.snd.snd == (0 : Int) then
             match C_world_Busy y2.fst with
             | some y7 =>
              bif y7 == (0 : Int) then
               bif (↑y2.fst.m.words.length : Int) == (6 : Int) then
                bif decide ((0 : Int) < (↑y2.fst.m.words.length : Int)) then
                 some (y2.fst.m.words.getD (Int.toNat (0 : Int)) (0 : Int) == (3 : Int))
                else
                 none
               else
                some (false)
              else
               some (false)
             | none => none
            else
             some (false)
           else
            some (false)
          | none => none
         else
          some (false)
        | none => none
       else
        some (false)
      | none => none
     else
      some (false)
    | none => none
   | none => none
  else
   none
 | none => none
noncomputable def C_law19_shown (x : Unit) : Option (Bool) := F_law19_shown

/- millstream/millstreamlaw19.FairTells -/
noncomputable def F_law19_FairTells (x0 : Config) (x1 : List SEntry) (x2 : Int) : Option (Bool) :=
 match C_law19_may x0 with
 | some y1 =>
  bif !y1 then
   match C_law19_shown () with
   | some y2 =>
    some (y2)
   | none => none
  else
   bif decide ((↑x1.length : Int) > (500 : Int)) then
    match C_law19_shown () with
    | some y2 =>
     some (y2)
    | none => none
   else
    match C_law19_shown () with
    | some y2 =>
     bif !y2 then
      match C_law19_shown () with
      | some y3 =>
       some (y3)
      | none => none
     else
      match C_fair_Rounds x0 with
      | some y3 =>
       match C_ref19_Rounds x0 with
       | some y4 =>
        bif y3 == y4 then
         match C_fair_Round x0 with
         | some y5 =>
          match C_law19_its y5 with
          | some y6 =>
           match C_ref19_Round x0 with
           | some y7 =>
            match C_ref09_Same (y6, y7) with
            | some y8 =>
             bif y8 then
              match C_fair_Suffix (x0, if (200 : Int) < x2 then (200 : Int) else x2) with
              | some y9 =>
               match C_law19_its y9 with
               | some y10 =>
                match C_ref19_Suffix (x0, if (200 : Int) < x2 then (200 : Int) else x2) with
                | some y11 =>
                 match C_ref09_Same (y10, y11) with
                 | some y12 =>
                  bif y12 then
                   match C_fair_Whole (x0, x1) with
                   | some y13 =>
                    match C_law19_its x1 with
                    | some y14 =>
                     match C_ref19_Whole (x0, y14) with
                     | some y15 =>
                      bif y13 == y15 then
                       match C_fair_Fair (x0, x1) with
                       | some y16 =>
                        match C_law19_its x1 with
                        | some y17 =>
                         match C_ref19_Fair (x0, y17) with
                         | some y18 =>
                          some (y16 == y18)
                         | none => none
                        | none => none
                       | none => none
                      else
                       some (false)
                     | none => none
                    | none => none
                   | none => none
                  else
                   some (false)
                 | none => none
                | none => none
               | none => none
              | none => none
             else
              some (false)
            | none => none
           | none => none
          | none => none
         | none => none
        else
         some (false)
       | none => none
      | none => none
    | none => none
 | none => none
noncomputable def C_law19_FairTells (x : Config × (List SEntry) × Int) : Option (Bool) := F_law19_FairTells x.1 x.2.1 x.2.2

/- millstream/millstreamlaw19.FairSuffix -/
noncomputable def S_law19_FairSuffix_12 (x0 : List SEntry) (x1 : Int) (x2 : Config) (x3 : Int) (x4 : List SEntry) (x5 : Int) (x6 : List SEntry) (x7 : List SEntry) (x8 : List SEntry) (x9 : Int) : Option (((List SEntry) × Int × Config × Int × (List SEntry) × Int × (List SEntry) × (List SEntry) × (List SEntry) × Int) ⊕ (((List SEntry) × Config × Int × (List SEntry) × Int × (List SEntry) × (List SEntry) × (List SEntry)))) :=
 bif decide (x9 < (↑x6.length : Int)) then
  bif x9.tmod (97 : Int) == IntKind.i64.wrap x1 then
   bif fewB (x8.length + (SEntry.mk (3 : Int) (0 : Int) (0 : Int) (Op.mk (0 : Int) (0 : Int)) :: ([] : List SEntry)).length) then
    bif decide ((0 : Int) ≤ x9) then
     bif decide (x9 < (↑x6.length : Int)) then
      bif fewB ((x8 ++ SEntry.mk (3 : Int) (0 : Int) (0 : Int) (Op.mk (0 : Int) (0 : Int)) :: ([] : List SEntry)).length + (x6.getD x9.toNat dSEntry :: ([] : List SEntry)).length) then
       some (Sum.inl (x0, x1, x2, x3, x4, x5, x6, x7, x8 ++ SEntry.mk (3 : Int) (0 : Int) (0 : Int) (Op.mk (0 : Int) (0 : Int)) :: ([] : List SEntry) ++ x6.getD x9.toNat dSEntry :: ([] : List SEntry), wrapA IntKind.i64 (x9 + (1 : Int))))
      else
       none
     else
      none
    else
     none
   else
    none
  else
   bif decide ((0 : Int) ≤ x9) then
    bif decide (x9 < (↑x6.length : Int)) then
     bif fewB (x8.length + (x6.getD x9.toNat dSEntry :: ([] : List SEntry)).length) then
      some (Sum.inl (x0, x1, x2, x3, x4, x5, x6, x7, x8 ++ x6.getD x9.toNat dSEntry :: ([] : List SEntry), wrapA IntKind.i64 (x9 + (1 : Int))))
     else
      none
    else
     none
   else
    none
 else
  some (Sum.inr (x0, x2, x3, x4, x5, x6, x7, x8))
noncomputable def T_law19_FairSuffix_12 (x : (List SEntry) × Int × Config × Int × (List SEntry) × Int × (List SEntry) × (List SEntry) × (List SEntry) × Int) : Option (((List SEntry) × Int × Config × Int × (List SEntry) × Int × (List SEntry) × (List SEntry) × (List SEntry) × Int) ⊕ (((List SEntry) × Config × Int × (List SEntry) × Int × (List SEntry) × (List SEntry) × (List SEntry)))) := S_law19_FairSuffix_12 x.1 x.2.1 x.2.2.1 x.2.2.2.1 x.2.2.2.2.1 x.2.2.2.2.2.1 x.2.2.2.2.2.2.1 x.2.2.2.2.2.2.2.1 x.2.2.2.2.2.2.2.2.1 x.2.2.2.2.2.2.2.2.2
noncomputable def W_law19_FairSuffix_12 (x : (List SEntry) × Int × Config × Int × (List SEntry) × Int × (List SEntry) × (List SEntry) × (List SEntry) × Int) : Option (((List SEntry) × Config × Int × (List SEntry) × Int × (List SEntry) × (List SEntry) × (List SEntry))) := whileM T_law19_FairSuffix_12 x
noncomputable def F_law19_FairSuffix (x0 : Config) (x1 : List SEntry) (x2 : Op) (x3 : Int) (x4 : Int) : Option (Bool) :=
 match C_law19_may x0 with
 | some y1 =>
  bif !y1 then
   match C_law19_shown () with
   | some y2 =>
    some (y2)
   | none => none
  else
   bif decide ((↑x1.length : Int) > (200 : Int)) then
    match C_law19_shown () with
    | some y2 =>
     some (y2)
    | none => none
   else
    bif decide (x0.threads > (6 : Int)) then
     match C_law19_shown () with
     | some y2 =>
      some (y2)
     | none => none
    else
     bif decide (x0.depth > (3 : Int)) then
      match C_law19_shown () with
      | some y2 =>
       some (y2)
      | none => none
     else
      bif decide (x0.layers > (2 : Int)) then
       match C_law19_shown () with
       | some y2 =>
        some (y2)
       | none => none
      else
       bif decide (x0.spin > (5 : Int)) then
        match C_law19_shown () with
        | some y2 =>
         some (y2)
        | none => none
       else
        match C_law19_shown () with
        | some y2 =>
         bif !y2 then
          match C_law19_shown () with
          | some y3 =>
           some (y3)
          | none => none
         else
          bif decide (x0.threads = (0 : Int)) then
           none
          else
           bif fewB ((0 : Nat) + x1.length) then
            bif fewB (x1.length + (SEntry.mk (1 : Int) ((IntKind.i64.wrap x3).tmod x0.threads) (0 : Int) x2 :: ([] : List SEntry)).length) then
             match C_fair_Rounds x0 with
             | some y3 =>
              match C_fair_Suffix (x0, y3) with
              | some y4 =>
               bif (↑(List.length y4) : Int) != wrapA IntKind.i64 (y3 * x0.threads) then
                some (false)
               else
                bif fewB ((0 : Nat) + (x1 ++ SEntry.mk (1 : Int) ((IntKind.i64.wrap x3).tmod x0.threads) (0 : Int) x2 :: ([] : List SEntry)).length) then
                 bif fewB ((x1 ++ SEntry.mk (1 : Int) ((IntKind.i64.wrap x3).tmod x0.threads) (0 : Int) x2 :: ([] : List SEntry)).length + List.length y4) then
                  bif fewB ((0 : Nat) + (x1 ++ SEntry.mk (1 : Int) ((IntKind.i64.wrap x3).tmod x0.threads) (0 : Int) x2 :: ([] : List SEntry)).length) then
                   match W_law19_FairSuffix_12 (x1, x4, x0, (IntKind.i64.wrap x3).tmod x0.threads, x1 ++ SEntry.mk (1 : Int) ((IntKind.i64.wrap x3).tmod x0.threads) (0 : Int) x2 :: ([] : List SEntry), y3, y4, x1 ++ SEntry.mk (1 : Int) ((IntKind.i64.wrap x3).tmod x0.threads) (0 : Int) x2 :: ([] : List SEntry) ++ y4, x1 ++ SEntry.mk (1 : Int) ((IntKind.i64.wrap x3).tmod x0.threads) (0 : Int) x2 :: ([] : List SEntry), (0 : Int)) with
                   | some y5 =>
                    bif fewB ((0 : Nat) + List.length y5.snd.snd.snd.fst) then
                     bif fewB (List.length y5.snd.snd.snd.fst + (SEntry.mk (2 : Int) y5.snd.snd.fst (0 : Int) (Op.mk (0 : Int) (0 : Int)) :: ([] : List SEntry)).length) then
                      bif fewB ((y5.snd.snd.snd.fst ++ SEntry.mk (2 : Int) y5.snd.snd.fst (0 : Int) (Op.mk (0 : Int) (0 : Int)) :: ([] : List SEntry)).length + List.length y5.snd.snd.snd.snd.snd.fst) then
                       match C_fair_Fair (y5.snd.fst, y5.snd.snd.snd.snd.snd.snd.fst) with
                       | some y6 =>
                        bif y6 then
                         match C_fair_Whole (y5.snd.fst, y5.snd.snd.snd.snd.snd.snd.fst) with
                         | some y7 =>
                          bif y7 == y5.snd.snd.snd.snd.fst then
                           match C_fair_Fair (y5.snd.fst, y5.snd.snd.snd.snd.snd.snd.snd) with
                           | some y8 =>
                            bif y8 then
                             bif fewB ((0 : Nat) + List.length y5.snd.snd.snd.snd.snd.snd.fst) then
                              bif decide ((↑(List.length y5.fst) : Int) < (↑(List.length y5.snd.snd.snd.fst) : Int)) then
                               bif fewB (List.length y5.snd.snd.snd.snd.snd.snd.fst + (List.getD y5.snd.snd.snd.fst (↑(List.length y5.fst) : Int).toNat dSEntry :: ([] : List SEntry)).length) then
                                match C_fair_Fair (y5.snd.fst, y5.snd.snd.snd.snd.snd.snd.fst ++ List.getD y5.snd.snd.snd.fst (↑(List.length y5.fst) : Int).toNat dSEntry :: ([] : List SEntry)) with
                                | some y9 =>
                                 bif !y9 then
                                  match C_fair_Fair (y5.snd.fst, y5.snd.snd.snd.fst ++ SEntry.mk (2 : Int) y5.snd.snd.fst (0 : Int) (Op.mk (0 : Int) (0 : Int)) :: ([] : List SEntry) ++ y5.snd.snd.snd.snd.snd.fst) with
                                  | some y10 =>
                                   some (y10 == (y5.snd.fst.threads == (1 : Int)))
                                  | none => none
                                 else
                                  some (false)
                                | none => none
                               else
                                none
                              else
                               none
                             else
                              none
                            else
                             some (false)
                           | none => none
                          else
                           some (false)
                         | none => none
                        else
                         some (false)
                       | none => none
                      else
                       none
                     else
                      none
                    else
                     none
                   | none => none
                  else
                   none
                 else
                  none
                else
                 none
              | none => none
             | none => none
            else
             none
           else
            none
        | none => none
 | none => none
noncomputable def C_law19_FairSuffix (x : Config × (List SEntry) × Op × Int × Int) : Option (Bool) := F_law19_FairSuffix x.1 x.2.1 x.2.2.1 x.2.2.2.1 x.2.2.2.2

/- millstream/millstreamlaw19.FairSolo -/
noncomputable def F_law19_FairSolo (x0 : Config) (x1 : Int) (x2 : Int) (x3 : Op) (x4 : List Int) : Option (Bool) :=
 match C_law19_may x0 with
 | some y1 =>
  bif !y1 then
   match C_law19_shown () with
   | some y2 =>
    some (y2)
   | none => none
  else
   bif decide ((↑x4.length : Int) > (100 : Int)) then
    match C_law19_shown () with
    | some y2 =>
     some (y2)
    | none => none
   else
    match C_ref01_May (x3, x0.bounded) with
    | some y2 =>
     bif !y2 then
      match C_law19_shown () with
      | some y3 =>
       some (y3)
      | none => none
     else
      match C_law19_shown () with
      | some y3 =>
       bif !y3 then
        match C_law19_shown () with
        | some y4 =>
         some (y4)
        | none => none
       else
        bif decide (x0.threads = (0 : Int)) then
         none
        else
         bif decide (x0.items = (0 : Int)) then
          none
         else
          match C_fair_Suffix (x0, wrapA IntKind.i64 (wrapA IntKind.i64 ((20 : Int) + wrapA IntKind.i64 ((8 : Int) * x0.depth)) + wrapA IntKind.i64 (x0.layers * wrapA IntKind.i64 ((20 : Int) + wrapA IntKind.i64 ((2 : Int) * x0.spin))))) with
          | some y4 =>
           bif fewB ((SEntry.mk (1 : Int) ((IntKind.i64.wrap x1).tmod x0.threads) ((IntKind.i64.wrap x2).tmod x0.items) x3 :: ([] : List SEntry)).length + List.length y4) then
            match C_world_Run (x0, SEntry.mk (1 : Int) ((IntKind.i64.wrap x1).tmod x0.threads) ((IntKind.i64.wrap x2).tmod x0.items) x3 :: ([] : List SEntry) ++ y4, x4) with
            | some y5 =>
             bif y5.snd.snd == (0 : Int) then
              match C_world_Busy y5.fst with
              | some y6 =>
               bif y6 == (0 : Int) then
                bif (↑y5.fst.hist.length : Int) == (2 : Int) then
                 bif decide ((1 : Int) < (↑y5.fst.hist.length : Int)) then
                  bif (y5.fst.hist.getD (Int.toNat (1 : Int)) dEvent).kind == (2 : Int) then
                   bif decide ((1 : Int) < (↑y5.fst.hist.length : Int)) then
                    bif (y5.fst.hist.getD (Int.toNat (1 : Int)) dEvent).prior == x0.init then
                     some ((↑y5.fst.log.length : Int) == (1 : Int))
                    else
                     some (false)
                   else
                    none
                  else
                   some (false)
                 else
                  none
                else
                 some (false)
               else
                some (false)
              | none => none
             else
              some (false)
            | none => none
           else
            none
          | none => none
      | none => none
    | none => none
 | none => none
noncomputable def C_law19_FairSolo (x : Config × Int × Int × Op × (List Int)) : Option (Bool) := F_law19_FairSolo x.1 x.2.1 x.2.2.1 x.2.2.2.1 x.2.2.2.2

/- millstream/millstreamlaw19.FairMore -/
noncomputable def S_law19_FairMore_6 (x0 : List SEntry) (x1 : Config) (x2 : Int) (x3 : List SEntry) (x4 : Int) : Option (((List SEntry) × Config × Int × (List SEntry) × Int) ⊕ (((List SEntry) × Config × Int × (List SEntry)) ⊕ (Bool))) :=
 bif decide (x4 < (↑x0.length : Int)) then
  bif decide ((0 : Int) ≤ x4) then
   bif decide (x4 < (↑x0.length : Int)) then
    bif (x0.getD x4.toNat dSEntry).kind == (1 : Int) then
     some (Sum.inr (Sum.inr true))
    else
     some (Sum.inl (x0, x1, x2, x3, wrapA IntKind.i64 (x4 + (1 : Int))))
   else
    none
  else
   none
 else
  some (Sum.inr (Sum.inl (x0, x1, x2, x3)))
noncomputable def T_law19_FairMore_6 (x : (List SEntry) × Config × Int × (List SEntry) × Int) : Option (((List SEntry) × Config × Int × (List SEntry) × Int) ⊕ (((List SEntry) × Config × Int × (List SEntry)) ⊕ (Bool))) := S_law19_FairMore_6 x.1 x.2.1 x.2.2.1 x.2.2.2.1 x.2.2.2.2
noncomputable def W_law19_FairMore_6 (x : (List SEntry) × Config × Int × (List SEntry) × Int) : Option (((List SEntry) × Config × Int × (List SEntry)) ⊕ (Bool)) := whileM T_law19_FairMore_6 x
noncomputable def F_law19_FairMore (x0 : Config) (x1 : Int) (x2 : List SEntry) : Option (Bool) :=
 match C_law19_may x0 with
 | some y1 =>
  bif !y1 then
   match C_law19_shown () with
   | some y2 =>
    some (y2)
   | none => none
  else
   bif decide ((↑x2.length : Int) > (200 : Int)) then
    match C_law19_shown () with
    | some y2 =>
     some (y2)
    | none => none
   else
    match C_law19_shown () with
    | some y2 =>
     bif !y2 then
      match C_law19_shown () with
      | some y3 =>
       some (y3)
      | none => none
     else
      match C_fair_Suffix (x0, (IntKind.i64.wrap x1).tmod (60 : Int)) with
      | some y3 =>
       match W_law19_FairMore_6 (x2, x0, (IntKind.i64.wrap x1).tmod (60 : Int), y3, (0 : Int)) with
       | some (.inl y4) =>
        match C_fair_Whole (y4.snd.fst, y4.snd.snd.snd) with
        | some y5 =>
         bif fewB ((0 : Nat) + List.length y4.snd.snd.snd) then
          bif fewB (List.length y4.snd.snd.snd + List.length y4.fst) then
           match C_fair_Whole (y4.snd.fst, y4.snd.snd.snd ++ y4.fst) with
           | some y6 =>
            bif y5 == y4.snd.snd.fst then
             bif fewB ((0 : Nat) + List.length y4.snd.snd.snd) then
              match C_fair_Round y4.snd.fst with
              | some y7 =>
               bif fewB (List.length y4.snd.snd.snd + List.length y7) then
                match C_fair_Whole (y4.snd.fst, y4.snd.snd.snd ++ y7) with
                | some y8 =>
                 bif y8 == wrapA IntKind.i64 (y4.snd.snd.fst + (1 : Int)) then
                  bif decide (y6 ≥ y4.snd.snd.fst) then
                   match C_fair_Whole (y4.snd.fst, y4.fst) with
                   | some y9 =>
                    some (y6 == wrapA IntKind.i64 (y4.snd.snd.fst + y9))
                   | none => none
                  else
                   some (false)
                 else
                  some (false)
                | none => none
               else
                none
              | none => none
             else
              none
            else
             some (false)
           | none => none
          else
           none
         else
          none
        | none => none
       | some (.inr y5) =>
        some (y5)
       | none => none
      | none => none
    | none => none
 | none => none
noncomputable def C_law19_FairMore (x : Config × Int × (List SEntry)) : Option (Bool) := F_law19_FairMore x.1 x.2.1 x.2.2

end Go.Proofs.Mill
