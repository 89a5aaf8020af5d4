/- What the functions compute. -/
import Derived.Test.YtecgogmolkjhjaaGreatMillAll4
import Derived.Test.YtecgogmolkjhjaaGreatMillFT2
namespace Go.Proofs.Mill
set_option linter.all false
/- millstream/commit.commit -/
noncomputable def S_commit_commit_4 (x0 : Int) (x1 : Turn) (x2 : Turn) (x3 : Unit) (x4 : List Mark) (x5 : List Int) (x6 : Int) (x7 : Int) : Option ((Int × Turn × Turn × Unit × (List Mark) × (List Int) × Int × Int) ⊕ ((Int × Turn × Turn × Unit × (List Mark)))) :=
 bif decide (x7 < x6) then
  bif decide ((0 : Int) ≤ x7) then
   bif decide (x7 < (↑x5.length : Int)) then
    bif decide ((0 : Int) ≤ x7) then
     bif decide (x7 < (↑x1.th.batch.length : Int)) then
      bif fewB (x4.length + (Mark.mk (x1.th.batch.getD x7.toNat dEntry).t x1.th.item (x1.th.batch.getD x7.toNat dEntry).op (x5.getD x7.toNat (0 : Int)) (0 : Int) :: ([] : List Mark)).length) then
       some (Sum.inl (x0, x1, x2, (), x4 ++ Mark.mk (x1.th.batch.getD x7.toNat dEntry).t x1.th.item (x1.th.batch.getD x7.toNat dEntry).op (x5.getD x7.toNat (0 : Int)) (0 : Int) :: ([] : List Mark), x5, x6, wrapA IntKind.i64 (x7 + (1 : Int))))
      else
       none
     else
      none
    else
     none
   else
    none
  else
   none
 else
  some (Sum.inr (x0, x1, x2, (), x4))
noncomputable def T_commit_commit_4 (x : Int × Turn × Turn × Unit × (List Mark) × (List Int) × Int × Int) : Option ((Int × Turn × Turn × Unit × (List Mark) × (List Int) × Int × Int) ⊕ ((Int × Turn × Turn × Unit × (List Mark)))) := S_commit_commit_4 x.1 x.2.1 x.2.2.1 x.2.2.2.1 x.2.2.2.2.1 x.2.2.2.2.2.1 x.2.2.2.2.2.2.1 x.2.2.2.2.2.2.2
noncomputable def W_commit_commit_4 (x : Int × Turn × Turn × Unit × (List Mark) × (List Int) × Int × Int) : Option ((Int × Turn × Turn × Unit × (List Mark))) := whileM T_commit_commit_4 x
noncomputable def F_commit_commit (x0 : Turn) (x1 : Int) : Option (Turn) :=
 bif fewB x0.log.length then
  match C_batch_Priors (x0.th.batch, x1, x0.c.lo, x0.c.hi) with
  | some y1 =>
   match W_commit_commit_4 (x1, x0, Turn.mk (Config.mk (0 : Int) (0 : Int) (0 : Int) (0 : Int) (0 : Int) (0 : Int) (0 : Int) (0 : Int) false (0 : Int) (0 : Int) (0 : Int)) (0 : Int) (0 : Int) (Memo.mk ([] : List Int) ([] : List (List Entry))) (Thread.mk (0 : Int) (0 : Int) (Op.mk (0 : Int) (0 : Int)) ([] : List Entry) ([] : List Kid) ([] : List Int) (0 : Int) (0 : Int) (0 : Int) (0 : Int) (0 : Int) (0 : Int) (0 : Int) (0 : Int) (0 : Int) (0 : Int)) (Tape.mk ([] : List Int) (0 : Int)) ([] : List Mark) false, (), x0.log, y1, (↑(List.length y1) : Int), (0 : Int)) with
   | some y2 =>
    match C_share_Settle { y2.snd.fst with th := { y2.snd.fst.th with at_ := (0 : Int), x := y2.fst }, log := y2.snd.snd.snd.snd } with
    | some y3 =>
     some (y3)
    | none => none
   | none => none
  | none => none
 else
  none
noncomputable def C_commit_commit (x : Turn × Int) : Option (Turn) := F_commit_commit x.1 x.2

/- millstream/commit.compared -/
noncomputable def F_commit_compared (x0 : Turn) : Option (Turn) :=
 match C_arena_Cell (x0.c, x0.th.item) with
 | some y1 =>
  match C_wmem_Cas (x0.m, y1, x0.th.x, x0.th.y) with
  | some y2 =>
   bif y2.snd.snd != (0 : Int) then
    some (x0)
   else
    bif y2.snd.fst then
     match C_commit_commit ({ x0 with m := y2.fst }, x0.th.x) with
     | some y3 =>
      some (y3)
     | none => none
    else
     bif decide (x0.th.width < x0.c.width) then
      some ({ x0 with th := { x0.th with phase := (2 : Int), width := if x0.c.width < wrapA IntKind.i64 (x0.th.width * (2 : Int)) then x0.c.width else wrapA IntKind.i64 (x0.th.width * (2 : Int)) } })
     else
      some ({ x0 with th := { x0.th with phase := (2 : Int), width := if x0.c.width < x0.th.width then x0.c.width else x0.th.width } })
  | none => none
 | none => none
noncomputable def C_commit_compared (x : Turn) : Option (Turn) := F_commit_compared x

/- millstream/commit.Step -/
noncomputable def F_commit_Step (x0 : Turn) : Option (Turn × Bool) :=
 bif x0.th.phase == (3 : Int) then
  match C_commit_compared x0 with
  | some y1 =>
   some ((y1, true))
  | none => none
 else
  bif x0.th.phase != (2 : Int) then
   bif x0.th.phase != (25 : Int) then
    some ((x0, false))
   else
    match C_arena_Cell (x0.c, x0.th.item) with
    | some y1 =>
     match C_wmem_Load (x0.m, y1) with
     | some y2 =>
      match C_batch_All (x0.th.batch, y2.fst, x0.c.lo, x0.c.hi) with
      | some y3 =>
       bif y2.snd != (0 : Int) then
        some ((x0, true))
       else
        bif y2.fst == y2.fst && (y3 == y2.fst && true) then
         match C_commit_commit (x0, y2.fst) with
         | some y4 =>
          some ((y4, true))
         | none => none
        else
         bif x0.th.phase == (25 : Int) then
          match C_commit_Onward x0 with
          | some y4 =>
           some ((y4, true))
          | none => none
         else
          some (({ x0 with th := { x0.th with phase := (3 : Int), x := y2.fst, y := y3 } }, true))
      | none => none
     | none => none
    | none => none
  else
   match C_arena_Cell (x0.c, x0.th.item) with
   | some y1 =>
    match C_wmem_Load (x0.m, y1) with
    | some y2 =>
     match C_batch_All (x0.th.batch, y2.fst, x0.c.lo, x0.c.hi) with
     | some y3 =>
      bif y2.snd != (0 : Int) then
       some ((x0, true))
      else
       bif y2.fst == y2.fst && (y3 == y2.fst && true) then
        match C_commit_commit (x0, y2.fst) with
        | some y4 =>
         some ((y4, true))
        | none => none
       else
        bif x0.th.phase == (25 : Int) then
         match C_commit_Onward x0 with
         | some y4 =>
          some ((y4, true))
         | none => none
        else
         some (({ x0 with th := { x0.th with phase := (3 : Int), x := y2.fst, y := y3 } }, true))
     | none => none
    | none => none
   | none => none
noncomputable def C_commit_Step (x : Turn) : Option (Turn × Bool) := F_commit_Step x

/- millstream/tape.Below -/
noncomputable def F_tape_Below (x0 : Tape) (x1 : Int) : Option (Int × Tape) :=
 bif decide (x1 < (1 : Int)) then
  some (((0 : Int), x0))
 else
  match C_tape_Next x0 with
  | some y1 =>
   bif decide (x1 = (0 : Int)) then
    none
   else
    bif decide (Int.tmod y1.fst x1 < (0 : Int)) then
     some ((wrapA IntKind.i64 (Int.tmod y1.fst x1 + x1), y1.snd))
    else
     some ((Int.tmod y1.fst x1, y1.snd))
  | none => none
noncomputable def C_tape_Below (x : Tape × Int) : Option (Int × Tape) := F_tape_Below x.1 x.2

/- millstream/collide.Step -/
noncomputable def F_collide_Step (x0 : Turn) : Option (Turn × Bool) :=
 match C_code_Open (x0.th.item, x0.th.layer) with
 | some y1 =>
  bif x0.th.phase == (17 : Int) then
   match C_wmem_Put (x0.m, x0.t, x0.th.batch) with
   | some y2 =>
    bif y2.snd == (0 : Int) then
     some (({ x0 with m := y2.fst, th := { x0.th with phase := (18 : Int) } }, true))
    else
     some ((x0, true))
   | none => none
  else
   bif x0.th.phase == (18 : Int) then
    match C_collide_diver_line ((x0, y1), x0.t) with
    | some y2 =>
     match C_wmem_Store (x0.m, y2, y1) with
     | some y3 =>
      bif y3.snd == (0 : Int) then
       some (({ x0 with m := y3.fst, th := { x0.th with phase := (19 : Int) } }, true))
      else
       some ((x0, true))
     | none => none
    | none => none
   else
    bif x0.th.phase == (19 : Int) then
     match C_tape_Below (x0.tape, x0.th.width) with
     | some y2 =>
      match C_arena_Slot (x0.c, x0.th.item, x0.th.layer, y2.fst) with
      | some y3 =>
       match C_wmem_Swap (x0.m, y3, wrapA IntKind.i64 (x0.t + (1 : Int))) with
       | some y4 =>
        bif y4.snd.snd != (0 : Int) then
         some ((x0, true))
        else
         bif decide (y4.snd.fst < (1 : Int)) then
          some (({ x0 with m := y4.fst, th := { x0.th with phase := (23 : Int), left := x0.c.spin }, tape := y2.snd }, true))
         else
          bif decide (y4.snd.fst > x0.c.threads) then
           some (({ x0 with m := y4.fst, th := { x0.th with phase := (23 : Int), left := x0.c.spin }, tape := y2.snd }, true))
          else
           bif y4.snd.fst == wrapA IntKind.i64 (x0.t + (1 : Int)) then
            some (({ x0 with m := y4.fst, th := { x0.th with phase := (23 : Int), left := x0.c.spin }, tape := y2.snd }, true))
           else
            some (({ x0 with m := y4.fst, th := { x0.th with phase := (20 : Int), who := wrapA IntKind.i64 (y4.snd.fst - (1 : Int)) }, tape := y2.snd }, true))
       | none => none
      | none => none
     | none => none
    else
     bif x0.th.phase == (20 : Int) then
      match C_collide_diver_line ((x0, y1), x0.t) with
      | some y2 =>
       match C_wmem_Cas (x0.m, y2, y1, (0 : Int)) with
       | some y3 =>
        bif y3.snd.snd != (0 : Int) then
         some ((x0, true))
        else
         bif y3.snd.fst then
          bif x0.th.phase == (26 : Int) then
           match C_commit_Onward { x0 with m := y3.fst, th := { x0.th with phase := (21 : Int), width := if x0.th.width.fdiv ((2 : Int) ^ min (Int.toNat (1 : Int)) IntKind.i64.bits) > (1 : Int) then x0.th.width.fdiv ((2 : Int) ^ min (Int.toNat (1 : Int)) IntKind.i64.bits) else (1 : Int) } } with
           | some y4 =>
            some ((y4, true))
           | none => none
          else
           some (({ x0 with m := y3.fst, th := { x0.th with phase := (21 : Int) } }, true))
         else
          some (({ x0 with m := y3.fst, th := { x0.th with phase := (13 : Int) } }, true))
       | none => none
      | none => none
     else
      bif x0.th.phase == (21 : Int) then
       match C_collide_diver_line ((x0, y1), x0.th.who) with
       | some y2 =>
        match C_wmem_Cas (x0.m, y2, y1, (0 : Int)) with
        | some y3 =>
         bif y3.snd.snd != (0 : Int) then
          some ((x0, true))
         else
          bif y3.snd.fst then
           bif x0.th.phase == (26 : Int) then
            match C_commit_Onward { x0 with m := y3.fst, th := { x0.th with phase := (22 : Int), width := if x0.th.width.fdiv ((2 : Int) ^ min (Int.toNat (1 : Int)) IntKind.i64.bits) > (1 : Int) then x0.th.width.fdiv ((2 : Int) ^ min (Int.toNat (1 : Int)) IntKind.i64.bits) else (1 : Int) } } with
            | some y4 =>
             some ((y4, true))
            | none => none
           else
            some (({ x0 with m := y3.fst, th := { x0.th with phase := (22 : Int) } }, true))
          else
           some (({ x0 with m := y3.fst, th := { x0.th with phase := (24 : Int) } }, true))
        | none => none
       | none => none
      else
       bif x0.th.phase == (22 : Int) then
        match C_wmem_Box (x0.m, x0.th.who) with
        | some y2 =>
         bif y2.snd == (0 : Int) then
          match C_gather_Take (x0, x0.th.who, y2.fst) with
          | some y3 =>
           some (({ y3 with th := { y3.th with phase := (25 : Int) } }, true))
          | none => none
         else
          some ((x0, true))
        | none => none
       else
        bif x0.th.phase == (23 : Int) then
         match C_collide_diver_line ((x0, y1), x0.t) with
         | some y2 =>
          match C_wmem_Load (x0.m, y2) with
          | some y3 =>
           bif y3.snd != (0 : Int) then
            some ((x0, true))
           else
            bif y3.fst != y1 then
             some (({ x0 with th := { x0.th with phase := (13 : Int) } }, true))
            else
             bif decide (x0.th.left > (0 : Int)) then
              match C_thread_Late x0 with
              | some y4 =>
               bif !y4 then
                some (({ x0 with th := { x0.th with left := wrapA IntKind.i64 (x0.th.left - (1 : Int)) } }, true))
               else
                some (({ x0 with th := { x0.th with phase := (26 : Int) } }, true))
              | none => none
             else
              some (({ x0 with th := { x0.th with phase := (26 : Int) } }, true))
          | none => none
         | none => none
        else
         bif x0.th.phase == (24 : Int) then
          match C_collide_diver_line ((x0, y1), x0.t) with
          | some y2 =>
           match C_wmem_Store (x0.m, y2, y1) with
           | some y3 =>
            bif y3.snd == (0 : Int) then
             some (({ x0 with m := y3.fst, th := { x0.th with phase := (23 : Int), left := x0.c.spin } }, true))
            else
             some ((x0, true))
           | none => none
          | none => none
         else
          bif x0.th.phase == (26 : Int) then
           match C_collide_diver_line ((x0, y1), x0.t) with
           | some y2 =>
            match C_wmem_Cas (x0.m, y2, y1, (0 : Int)) with
            | some y3 =>
             bif y3.snd.snd != (0 : Int) then
              some ((x0, true))
             else
              bif y3.snd.fst then
               bif x0.th.phase == (26 : Int) then
                match C_commit_Onward { x0 with m := y3.fst, th := { x0.th with phase := (26 : Int), width := if x0.th.width.fdiv ((2 : Int) ^ min (Int.toNat (1 : Int)) IntKind.i64.bits) > (1 : Int) then x0.th.width.fdiv ((2 : Int) ^ min (Int.toNat (1 : Int)) IntKind.i64.bits) else (1 : Int) } } with
                | some y4 =>
                 some ((y4, true))
                | none => none
               else
                some (({ x0 with m := y3.fst, th := { x0.th with phase := (26 : Int) } }, true))
              else
               some (({ x0 with m := y3.fst, th := { x0.th with phase := (13 : Int) } }, true))
            | none => none
           | none => none
          else
           some ((x0, false))
 | none => none
noncomputable def C_collide_Step (x : Turn) : Option (Turn × Bool) := F_collide_Step x

/- millstream/machine.Step -/
noncomputable def F_machine_Step (x0 : Turn) : Option (Turn) :=
 match C_thread_Busy x0.th with
 | some y1 =>
  bif !y1 then
   some (x0)
  else
   match C_machine_clear { x0 with log := ([] : List Mark), done := false } with
   | some y2 =>
    bif !y2.snd then
     match C_share_Step { x0 with log := ([] : List Mark), done := false } with
     | some y3 =>
      bif !y3.snd then
       match C_commit_Step { x0 with log := ([] : List Mark), done := false } with
       | some y4 =>
        bif !y4.snd then
         match C_climb_Step { x0 with log := ([] : List Mark), done := false } with
         | some y5 =>
          bif !y5.snd then
           match C_gather_Step { x0 with log := ([] : List Mark), done := false } with
           | some y6 =>
            bif !y6.snd then
             match C_collide_Step { x0 with log := ([] : List Mark), done := false } with
             | some y7 =>
              bif !y7.snd then
               some ({ x0 with log := ([] : List Mark), done := false })
              else
               some (y7.fst)
             | none => none
            else
             some (y6.fst)
           | none => none
          else
           some (y5.fst)
         | none => none
        else
         some (y4.fst)
       | none => none
      else
       some (y3.fst)
     | none => none
    else
     some (y2.fst)
   | none => none
 | none => none
noncomputable def C_machine_Step (x : Turn) : Option (Turn) := F_machine_Step x

/- millstream/machine.Solo -/
noncomputable def S_machine_Solo_1 (x0 : Int) (x1 : Turn) (x2 : Turn) : Option ((Int × Turn × Turn) ⊕ ((Turn × Turn))) :=
 bif decide (x0 > (0 : Int)) then
  match C_thread_Busy x1.th with
  | some y1 =>
   bif y1 then
    match C_machine_Step x1 with
    | some y2 =>
     bif y2.done then
      some (Sum.inr (y2, x2))
     else
      some (Sum.inl (wrapA IntKind.i64 (x0 - (1 : Int)), y2, x2))
    | none => none
   else
    some (Sum.inr (x1, x2))
  | none => none
 else
  some (Sum.inr (x1, x2))
noncomputable def T_machine_Solo_1 (x : Int × Turn × Turn) : Option ((Int × Turn × Turn) ⊕ ((Turn × Turn))) := S_machine_Solo_1 x.1 x.2.1 x.2.2
noncomputable def W_machine_Solo_1 (x : Int × Turn × Turn) : Option ((Turn × Turn)) := whileM T_machine_Solo_1 x
noncomputable def F_machine_Solo (x0 : Turn) (x1 : Int) : Option (Turn) :=
 match W_machine_Solo_1 (x1, x0, Turn.mk (Config.mk (0 : Int) (0 : Int) (0 : Int) (0 : Int) (0 : Int) (0 : Int) (0 : Int) (0 : Int) false (0 : Int) (0 : Int) (0 : Int)) (0 : Int) (0 : Int) (Memo.mk ([] : List Int) ([] : List (List Entry))) (Thread.mk (0 : Int) (0 : Int) (Op.mk (0 : Int) (0 : Int)) ([] : List Entry) ([] : List Kid) ([] : List Int) (0 : Int) (0 : Int) (0 : Int) (0 : Int) (0 : Int) (0 : Int) (0 : Int) (0 : Int) (0 : Int) (0 : Int)) (Tape.mk ([] : List Int) (0 : Int)) ([] : List Mark) false) with
 | some y1 =>
  some (y1.fst)
 | none => none
noncomputable def C_machine_Solo (x : Turn × Int) : Option (Turn) := F_machine_Solo x.1 x.2

/- millstream/millstreamlaw16.shown -/
noncomputable def F_law16_shown : Option (Bool) :=
 match C_arena_Build (Config.mk (2 : Int) (1 : Int) (2 : Int) (2 : Int) (0 : Int) (1 : Int) (0 : Int) (0 : Int) false (0 : Int) (0 : Int) (5 : Int)) with
 | some y1 =>
  match C_thread_New () with
  | some y2 =>
   match C_thread_Begin (Config.mk (2 : Int) (1 : Int) (2 : Int) (2 : Int) (0 : Int) (1 : Int) (0 : Int) (0 : Int) false (0 : Int) (0 : Int) (5 : Int), (1 : Int), y2, (0 : Int), Op.mk (1 : Int) (3 : Int), (0 : Int)) with
   | some y3 =>
    match C_machine_Solo (Turn.mk (Config.mk (2 : Int) (1 : Int) (2 : Int) (2 : Int) (0 : Int) (1 : Int) (0 : Int) (0 : Int) false (0 : Int) (0 : Int) (5 : Int)) (1 : Int) (0 : Int) y1 y3 (Tape.mk ([] : List Int) (0 : Int)) ([] : List Mark) false, (100 : Int)) with
    | some y4 =>
     match C_machine_Step (Turn.mk (Config.mk (2 : Int) (1 : Int) (2 : Int) (2 : Int) (0 : Int) (1 : Int) (0 : Int) (0 : Int) false (0 : Int) (0 : Int) (5 : Int)) (1 : Int) (0 : Int) y1 y3 (Tape.mk ([] : List Int) (0 : Int)) ([] : List Mark) false) with
     | some y5 =>
      bif y4.done then
       bif y4.th.x == (5 : Int) then
        bif (↑y4.m.words.length : Int) == (8 : Int) then
         bif decide ((0 : Int) < (↑y4.m.words.length : Int)) then
          bif y4.m.words.getD (Int.toNat (0 : Int)) (0 : Int) == (8 : Int) then
           match C_thread_Busy y4.th with
           | some y6 =>
            bif !y6 then
             bif (↑y4.log.length : Int) == (1 : Int) then
              bif y5.th.phase == (4 : Int) then
               match C_machine_Start (Turn.mk (Config.mk (2 : Int) (1 : Int) (2 : Int) (2 : Int) (0 : Int) (1 : Int) (0 : Int) (0 : Int) false (0 : Int) (0 : Int) (5 : Int)) (1 : Int) (0 : Int) y1 y3 (Tape.mk ([] : List Int) (0 : Int)) ([] : List Mark) false) with
               | some y7 =>
                bif y7.th.phase == (4 : Int) then
                 some (!y5.done)
                else
                 some (false)
               | none => none
              else
               some (false)
             else
              some (false)
            else
             some (false)
           | none => none
          else
           some (false)
         else
          none
        else
         some (false)
       else
        some (false)
      else
       some (false)
     | none => none
    | none => none
   | none => none
  | none => none
 | none => none
noncomputable def C_law16_shown (x : Unit) : Option (Bool) := F_law16_shown

/- millstream/millstreamlaw16.MachineIdle -/
noncomputable def F_law16_MachineIdle (x0 : Turn) (x1 : Int) : Option (Bool) :=
 match C_law16_big x0 with
 | some y1 =>
  bif y1 then
   match C_law16_shown () with
   | some y2 =>
    some (y2)
   | none => none
  else
   match C_law16_may x0 with
   | some y2 =>
    bif !y2 then
     match C_law16_shown () with
     | some y3 =>
      some (y3)
     | none => none
    else
     bif decide (x1 > (1000 : Int)) then
      match C_law16_shown () with
      | some y3 =>
       some (y3)
      | none => none
     else
      match C_law16_shown () with
      | some y3 =>
       bif !y3 then
        match C_law16_shown () with
        | some y4 =>
         some (y4)
        | none => none
       else
        match C_machine_Step { x0 with th := { x0.th with phase := (0 : Int) } } with
        | some y4 =>
         match C_law16_its y4 with
         | some y5 =>
          match C_law16_its { x0 with th := { x0.th with phase := (0 : Int) } } with
          | some y6 =>
           match C_ref10_Alike (y5, y6) with
           | some y7 =>
            bif y7 then
             match C_machine_Solo ({ x0 with th := { x0.th with phase := (0 : Int) } }, x1) with
             | some y8 =>
              match C_law16_its y8 with
              | some y9 =>
               match C_law16_its { x0 with th := { x0.th with phase := (0 : Int) } } with
               | some y10 =>
                match C_ref10_Alike (y9, y10) with
                | some y11 =>
                 some (y11)
                | none => none
               | none => none
              | none => none
             | none => none
            else
             some (false)
           | none => none
          | none => none
         | none => none
        | none => none
      | none => none
   | none => none
 | none => none
noncomputable def C_law16_MachineIdle (x : Turn × Int) : Option (Bool) := F_law16_MachineIdle x.1 x.2

/- millstream/millstreamlaw16.MachineCell -/
noncomputable def F_law16_MachineCell (x0 : Config) (x1 : Int) (x2 : Int) (x3 : Op) : Option (Bool) :=
 match C_ref05_Check { x0 with backend := (1 : Int) } with
 | some y1 =>
  bif y1 != (0 : Int) then
   match C_law16_shown () with
   | some y2 =>
    some (y2)
   | none => none
  else
   match C_law16_shown () with
   | some y2 =>
    bif !y2 then
     match C_law16_shown () with
     | some y3 =>
      some (y3)
     | none => none
    else
     bif decide (x0.threads = (0 : Int)) then
      none
     else
      bif decide (x0.items = (0 : Int)) then
       none
      else
       match C_ref01_Apply (x3, x0.init, x0.lo, x0.hi) with
       | some y3 =>
        bif y3.fst == x0.init then
         match C_arena_Build { x0 with backend := (1 : Int) } with
         | some y4 =>
          match C_thread_New () with
          | some y5 =>
           match C_thread_Begin ({ x0 with backend := (1 : Int) }, (IntKind.i64.wrap x1).tmod x0.threads, y5, (IntKind.i64.wrap x2).tmod x0.items, x3, (0 : Int)) with
           | some y6 =>
            match C_machine_Solo (Turn.mk { x0 with backend := (1 : Int) } ((IntKind.i64.wrap x1).tmod x0.threads) (0 : Int) y4 y6 (Tape.mk ([] : List Int) (0 : Int)) ([] : List Mark) false, wrapA IntKind.i64 ((2 : Int) - (1 : Int))) with
            | some y7 =>
             match C_machine_Solo (Turn.mk { x0 with backend := (1 : Int) } ((IntKind.i64.wrap x1).tmod x0.threads) (0 : Int) y4 y6 (Tape.mk ([] : List Int) (0 : Int)) ([] : List Mark) false, (2 : Int)) with
             | some y8 =>
              bif !y7.done then
               bif (↑y7.log.length : Int) == (0 : Int) then
                bif y8.done then
                 bif (↑y8.log.length : Int) == (1 : Int) then
                  bif (↑y8.th.held.length : Int) == (0 : Int) then
                   bif (↑y8.th.kids.length : Int) == (0 : Int) then
                    some (y8.th.layer == (0 : Int))
                   else
                    some (false)
                  else
                   some (false)
                 else
                  some (false)
                else
                 some (false)
               else
                some (false)
              else
               some (false)
             | none => none
            | none => none
           | none => none
          | none => none
         | none => none
        else
         match C_arena_Build { x0 with backend := (1 : Int) } with
         | some y4 =>
          match C_thread_New () with
          | some y5 =>
           match C_thread_Begin ({ x0 with backend := (1 : Int) }, (IntKind.i64.wrap x1).tmod x0.threads, y5, (IntKind.i64.wrap x2).tmod x0.items, x3, (0 : Int)) with
           | some y6 =>
            match C_machine_Solo (Turn.mk { x0 with backend := (1 : Int) } ((IntKind.i64.wrap x1).tmod x0.threads) (0 : Int) y4 y6 (Tape.mk ([] : List Int) (0 : Int)) ([] : List Mark) false, wrapA IntKind.i64 ((3 : Int) - (1 : Int))) with
            | some y7 =>
             match C_machine_Solo (Turn.mk { x0 with backend := (1 : Int) } ((IntKind.i64.wrap x1).tmod x0.threads) (0 : Int) y4 y6 (Tape.mk ([] : List Int) (0 : Int)) ([] : List Mark) false, (3 : Int)) with
             | some y8 =>
              bif !y7.done then
               bif (↑y7.log.length : Int) == (0 : Int) then
                bif y8.done then
                 bif (↑y8.log.length : Int) == (1 : Int) then
                  bif (↑y8.th.held.length : Int) == (0 : Int) then
                   bif (↑y8.th.kids.length : Int) == (0 : Int) then
                    some (y8.th.layer == (0 : Int))
                   else
                    some (false)
                  else
                   some (false)
                 else
                  some (false)
                else
                 some (false)
               else
                some (false)
              else
               some (false)
             | none => none
            | none => none
           | none => none
          | none => none
         | none => none
       | none => none
   | none => none
 | none => none
noncomputable def C_law16_MachineCell (x : Config × Int × Int × Op) : Option (Bool) := F_law16_MachineCell x.1 x.2.1 x.2.2.1 x.2.2.2

/- millstream/millstreamlaw16.MachineLogs -/
noncomputable def F_law16_MachineLogs (x0 : Turn) : Option (Bool) :=
 match C_law16_big x0 with
 | some y1 =>
  bif y1 then
   match C_law16_shown () with
   | some y2 =>
    some (y2)
   | none => none
  else
   match C_law16_layered x0 with
   | some y2 =>
    bif !y2 then
     match C_law16_shown () with
     | some y3 =>
      some (y3)
     | none => none
    else
     bif (↑x0.th.batch.length : Int) == (0 : Int) then
      match C_law16_shown () with
      | some y3 =>
       some (y3)
      | none => none
     else
      match C_law16_shown () with
      | some y3 =>
       bif !y3 then
        match C_law16_shown () with
        | some y4 =>
         some (y4)
        | none => none
       else
        match C_machine_Step x0 with
        | some y4 =>
         bif x0.th.phase == (0 : Int) then
          some ((↑y4.log.length : Int) == (↑x0.log.length : Int))
         else
          bif x0.th.phase == (2 : Int) then
           bif y4.th.phase == (15 : Int) then
            bif decide ((↑y4.log.length : Int) > (0 : Int)) == true then
             bif (↑y4.log.length : Int) == (0 : Int) then
              bif !y4.done then
               some (true)
              else
               some (y4.th.phase == (0 : Int))
             else
              bif (↑y4.log.length : Int) == (↑x0.th.batch.length : Int) then
               bif !y4.done then
                some (true)
               else
                some (y4.th.phase == (0 : Int))
              else
               some (false)
            else
             some (false)
           else
            bif decide ((↑y4.log.length : Int) > (0 : Int)) == (y4.th.phase == (0 : Int)) then
             bif (↑y4.log.length : Int) == (0 : Int) then
              bif !y4.done then
               some (true)
              else
               some (y4.th.phase == (0 : Int))
             else
              bif (↑y4.log.length : Int) == (↑x0.th.batch.length : Int) then
               bif !y4.done then
                some (true)
               else
                some (y4.th.phase == (0 : Int))
              else
               some (false)
            else
             some (false)
          else
           bif x0.th.phase == (3 : Int) then
            bif y4.th.phase == (15 : Int) then
             bif decide ((↑y4.log.length : Int) > (0 : Int)) == true then
              bif (↑y4.log.length : Int) == (0 : Int) then
               bif !y4.done then
                some (true)
               else
                some (y4.th.phase == (0 : Int))
              else
               bif (↑y4.log.length : Int) == (↑x0.th.batch.length : Int) then
                bif !y4.done then
                 some (true)
                else
                 some (y4.th.phase == (0 : Int))
               else
                some (false)
             else
              some (false)
            else
             bif decide ((↑y4.log.length : Int) > (0 : Int)) == (y4.th.phase == (0 : Int)) then
              bif (↑y4.log.length : Int) == (0 : Int) then
               bif !y4.done then
                some (true)
               else
                some (y4.th.phase == (0 : Int))
              else
               bif (↑y4.log.length : Int) == (↑x0.th.batch.length : Int) then
                bif !y4.done then
                 some (true)
                else
                 some (y4.th.phase == (0 : Int))
               else
                some (false)
             else
              some (false)
           else
            bif y4.th.phase == (15 : Int) then
             bif x0.th.phase == (25 : Int) then
              bif decide ((↑y4.log.length : Int) > (0 : Int)) == true then
               bif (↑y4.log.length : Int) == (0 : Int) then
                bif !y4.done then
                 some (true)
                else
                 some (y4.th.phase == (0 : Int))
               else
                bif (↑y4.log.length : Int) == (↑x0.th.batch.length : Int) then
                 bif !y4.done then
                  some (true)
                 else
                  some (y4.th.phase == (0 : Int))
                else
                 some (false)
              else
               some (false)
             else
              bif decide ((↑y4.log.length : Int) > (0 : Int)) == false then
               bif (↑y4.log.length : Int) == (0 : Int) then
                bif !y4.done then
                 some (true)
                else
                 some (y4.th.phase == (0 : Int))
               else
                bif (↑y4.log.length : Int) == (↑x0.th.batch.length : Int) then
                 bif !y4.done then
                  some (true)
                 else
                  some (y4.th.phase == (0 : Int))
                else
                 some (false)
              else
               some (false)
            else
             bif x0.th.phase == (25 : Int) then
              bif decide ((↑y4.log.length : Int) > (0 : Int)) == (y4.th.phase == (0 : Int)) then
               bif (↑y4.log.length : Int) == (0 : Int) then
                bif !y4.done then
                 some (true)
                else
                 some (y4.th.phase == (0 : Int))
               else
                bif (↑y4.log.length : Int) == (↑x0.th.batch.length : Int) then
                 bif !y4.done then
                  some (true)
                 else
                  some (y4.th.phase == (0 : Int))
                else
                 some (false)
              else
               some (false)
             else
              bif decide ((↑y4.log.length : Int) > (0 : Int)) == false then
               bif (↑y4.log.length : Int) == (0 : Int) then
                bif !y4.done then
                 some (true)
                else
                 some (y4.th.phase == (0 : Int))
               else
                bif (↑y4.log.length : Int) == (↑x0.th.batch.length : Int) then
                 bif !y4.done then
                  some (true)
                 else
                  some (y4.th.phase == (0 : Int))
                else
                 some (false)
              else
               some (false)
        | none => none
      | none => none
   | none => none
 | none => none
noncomputable def C_law16_MachineLogs (x : Turn) : Option (Bool) := F_law16_MachineLogs x

/- millstream/millstreamlaw16.MachineOne -/
noncomputable def S_law16_MachineOne_13 (x0 : Turn) (x1 : Turn) (x2 : Int) (x3 : Int) : Option ((Turn × Turn × Int × Int) ⊕ ((Int))) :=
 bif decide (x3 < (↑x0.m.boxes.length : Int)) then
  bif decide ((0 : Int) ≤ x3) then
   bif decide (x3 < (↑x0.m.boxes.length : Int)) then
    match C_law16_entries (x0.m.boxes.getD x3.toNat ([] : List Entry)) with
    | some y1 =>
     bif decide ((0 : Int) ≤ x3) then
      bif decide (x3 < (↑x1.m.boxes.length : Int)) then
       match C_law16_entries (x1.m.boxes.getD x3.toNat ([] : List Entry)) with
       | some y2 =>
        match C_ref02_Same (y1, y2) with
        | some y3 =>
         bif !y3 then
          some (Sum.inl (x0, x1, wrapA IntKind.i64 (x2 + (1 : Int)), wrapA IntKind.i64 (x3 + (1 : Int))))
         else
          some (Sum.inl (x0, x1, x2, wrapA IntKind.i64 (x3 + (1 : Int))))
        | none => none
       | none => none
      else
       none
     else
      none
    | none => none
   else
    none
  else
   none
 else
  some (Sum.inr x2)
noncomputable def T_law16_MachineOne_13 (x : Turn × Turn × Int × Int) : Option ((Turn × Turn × Int × Int) ⊕ ((Int))) := S_law16_MachineOne_13 x.1 x.2.1 x.2.2.1 x.2.2.2
noncomputable def W_law16_MachineOne_13 (x : Turn × Turn × Int × Int) : Option ((Int)) := whileM T_law16_MachineOne_13 x
noncomputable def S_law16_MachineOne_8 (x0 : Turn) (x1 : Turn) (x2 : Int) (x3 : Int) : Option ((Turn × Turn × Int × Int) ⊕ ((Turn × Turn × Int))) :=
 bif decide (x3 < (↑x0.m.words.length : Int)) then
  bif decide ((0 : Int) ≤ x3) then
   bif decide (x3 < (↑x1.m.words.length : Int)) then
    bif decide ((0 : Int) ≤ x3) then
     bif decide (x3 < (↑x0.m.words.length : Int)) then
      bif x1.m.words.getD x3.toNat (0 : Int) != x0.m.words.getD x3.toNat (0 : Int) then
       some (Sum.inl (x0, x1, wrapA IntKind.i64 (x2 + (1 : Int)), wrapA IntKind.i64 (x3 + (1 : Int))))
      else
       some (Sum.inl (x0, x1, x2, wrapA IntKind.i64 (x3 + (1 : Int))))
     else
      none
    else
     none
   else
    none
  else
   none
 else
  some (Sum.inr (x0, x1, x2))
noncomputable def T_law16_MachineOne_8 (x : Turn × Turn × Int × Int) : Option ((Turn × Turn × Int × Int) ⊕ ((Turn × Turn × Int))) := S_law16_MachineOne_8 x.1 x.2.1 x.2.2.1 x.2.2.2
noncomputable def W_law16_MachineOne_8 (x : Turn × Turn × Int × Int) : Option ((Turn × Turn × Int)) := whileM T_law16_MachineOne_8 x
noncomputable def F_law16_MachineOne (x0 : Turn) : Option (Bool) :=
 match C_law16_big x0 with
 | some y1 =>
  bif y1 then
   match C_law16_shown () with
   | some y2 =>
    some (y2)
   | none => none
  else
   match C_law16_layered x0 with
   | some y2 =>
    bif !y2 then
     match C_law16_shown () with
     | some y3 =>
      some (y3)
     | none => none
    else
     match C_law16_shown () with
     | some y3 =>
      bif !y3 then
       match C_law16_shown () with
       | some y4 =>
        some (y4)
       | none => none
      else
       match C_machine_Step x0 with
       | some y4 =>
        bif (↑y4.m.words.length : Int) != (↑x0.m.words.length : Int) then
         some (false)
        else
         bif (↑y4.m.boxes.length : Int) != (↑x0.m.boxes.length : Int) then
          some (false)
         else
          match W_law16_MachineOne_8 (x0, y4, (0 : Int), (0 : Int)) with
          | some y5 =>
           match W_law16_MachineOne_13 (y5.fst, y5.snd.fst, y5.snd.snd, (0 : Int)) with
           | some y6 =>
            some (decide (y6 ≤ (1 : Int)))
           | none => none
          | none => none
       | none => none
     | none => none
   | none => none
 | none => none
noncomputable def C_law16_MachineOne (x : Turn) : Option (Bool) := F_law16_MachineOne x

/- millstream/millstreamlaw16.MachineAlone -/
noncomputable def S_law16_MachineAlone_20 (x0 : Config) (x1 : Config) (x2 : Int) (x3 : Int) (x4 : Turn) (x5 : Int) (x6 : Int) (x7 : Int) : Option ((Config × Config × Int × Int × Turn × Int × Int × Int) ⊕ ((Config × Config × Int × Int × Turn × Int × Int) ⊕ (Bool))) :=
 match C_ref06_Nodes x1 with
 | some y1 =>
  bif decide (x7 ≤ y1) then
   match C_ref06_Node (x1, x6, x7) with
   | some y2 =>
    bif decide ((0 : Int) ≤ y2) then
     bif decide (y2 < (↑x4.m.words.length : Int)) then
      bif x4.m.words.getD (Int.toNat y2) (0 : Int) != (0 : Int) then
       some (Sum.inr (Sum.inr false))
      else
       some (Sum.inl (x0, x1, x2, x3, x4, x5, x6, wrapA IntKind.i64 (x7 + (1 : Int))))
     else
      none
    else
     none
   | none => none
  else
   some (Sum.inr (Sum.inl (x0, x1, x2, x3, x4, x5, x6)))
 | none => none
noncomputable def T_law16_MachineAlone_20 (x : Config × Config × Int × Int × Turn × Int × Int × Int) : Option ((Config × Config × Int × Int × Turn × Int × Int × Int) ⊕ ((Config × Config × Int × Int × Turn × Int × Int) ⊕ (Bool))) := S_law16_MachineAlone_20 x.1 x.2.1 x.2.2.1 x.2.2.2.1 x.2.2.2.2.1 x.2.2.2.2.2.1 x.2.2.2.2.2.2.1 x.2.2.2.2.2.2.2
noncomputable def W_law16_MachineAlone_20 (x : Config × Config × Int × Int × Turn × Int × Int × Int) : Option ((Config × Config × Int × Int × Turn × Int × Int) ⊕ (Bool)) := whileM T_law16_MachineAlone_20 x
noncomputable def S_law16_MachineAlone_12 (x0 : Config) (x1 : Config) (x2 : Int) (x3 : Int) (x4 : Turn) (x5 : Int) (x6 : Int) : Option ((Config × Config × Int × Int × Turn × Int × Int) ⊕ ((Config × Int × Turn) ⊕ (Bool))) :=
 bif decide (x6 < x0.items) then
  bif x6 == x3 then
   match C_ref06_Cell (x1, x6) with
   | some y1 =>
    bif decide ((0 : Int) ≤ y1) then
     bif decide (y1 < (↑x4.m.words.length : Int)) then
      bif x4.m.words.getD (Int.toNat y1) (0 : Int) != x5 then
       some (Sum.inr (Sum.inr false))
      else
       match W_law16_MachineAlone_20 (x0, x1, x2, x3, x4, x5, x6, (1 : Int)) with
       | some (.inl y2) =>
        some (Sum.inl (y2.fst, y2.snd.fst, y2.snd.snd.fst, y2.snd.snd.snd.fst, y2.snd.snd.snd.snd.fst, y2.snd.snd.snd.snd.snd.fst, wrapA IntKind.i64 (y2.snd.snd.snd.snd.snd.snd + (1 : Int))))
       | some (.inr y3) =>
        some (Sum.inr (Sum.inr y3))
       | none => none
     else
      none
    else
     none
   | none => none
  else
   match C_ref06_Cell (x1, x6) with
   | some y1 =>
    bif decide ((0 : Int) ≤ y1) then
     bif decide (y1 < (↑x4.m.words.length : Int)) then
      bif x4.m.words.getD (Int.toNat y1) (0 : Int) != x0.init then
       some (Sum.inr (Sum.inr false))
      else
       match W_law16_MachineAlone_20 (x0, x1, x2, x3, x4, x5, x6, (1 : Int)) with
       | some (.inl y2) =>
        some (Sum.inl (y2.fst, y2.snd.fst, y2.snd.snd.fst, y2.snd.snd.snd.fst, y2.snd.snd.snd.snd.fst, y2.snd.snd.snd.snd.snd.fst, wrapA IntKind.i64 (y2.snd.snd.snd.snd.snd.snd + (1 : Int))))
       | some (.inr y3) =>
        some (Sum.inr (Sum.inr y3))
       | none => none
     else
      none
    else
     none
   | none => none
 else
  some (Sum.inr (Sum.inl (x1, x2, x4)))
noncomputable def T_law16_MachineAlone_12 (x : Config × Config × Int × Int × Turn × Int × Int) : Option ((Config × Config × Int × Int × Turn × Int × Int) ⊕ ((Config × Int × Turn) ⊕ (Bool))) := S_law16_MachineAlone_12 x.1 x.2.1 x.2.2.1 x.2.2.2.1 x.2.2.2.2.1 x.2.2.2.2.2.1 x.2.2.2.2.2.2
noncomputable def W_law16_MachineAlone_12 (x : Config × Config × Int × Int × Turn × Int × Int) : Option ((Config × Int × Turn) ⊕ (Bool)) := whileM T_law16_MachineAlone_12 x
noncomputable def F_law16_MachineAlone (x0 : Config) (x1 : Int) (x2 : Int) (x3 : Op) (x4 : Int) : Option (Bool) :=
 match C_ref05_Check x0 with
 | some y1 =>
  bif y1 != (0 : Int) then
   match C_law16_shown () with
   | some y2 =>
    some (y2)
   | none => none
  else
   match C_ref01_May (x3, x0.bounded) with
   | some y2 =>
    bif !y2 then
     match C_law16_shown () with
     | some y3 =>
      some (y3)
     | none => none
    else
     match C_law16_shown () with
     | some y3 =>
      bif !y3 then
       match C_law16_shown () with
       | some y4 =>
        some (y4)
       | none => none
      else
       bif decide (x0.threads = (0 : Int)) then
        none
       else
        bif decide (x0.items = (0 : Int)) then
         none
        else
         match C_arena_Build x0 with
         | some y4 =>
          match C_thread_New () with
          | some y5 =>
           match C_thread_Begin (x0, (IntKind.i64.wrap x1).tmod x0.threads, y5, (IntKind.i64.wrap x2).tmod x0.items, x3, IntKind.i64.wrap x4) with
           | some y6 =>
            match C_config_Steps x0 with
            | some y7 =>
             match C_machine_Solo (Turn.mk x0 ((IntKind.i64.wrap x1).tmod x0.threads) (IntKind.i64.wrap x4) y4 y6 (Tape.mk ([] : List Int) (0 : Int)) ([] : List Mark) false, y7) with
             | some y8 =>
              match C_ref01_Apply (x3, x0.init, x0.lo, x0.hi) with
              | some y9 =>
               bif !y8.done then
                some (false)
               else
                match C_thread_Busy y8.th with
                | some y10 =>
                 bif y10 then
                  some (false)
                 else
                  bif y8.th.x != x0.init then
                   some (false)
                  else
                   match C_ref06_Size x0 with
                   | some y11 =>
                    bif (↑y8.m.words.length : Int) != y11 then
                     some (false)
                    else
                     bif (↑y8.log.length : Int) != (1 : Int) then
                      some (false)
                     else
                      bif decide ((0 : Int) < (↑y8.log.length : Int)) then
                       bif !((y8.log.getD (Int.toNat (0 : Int)) dMark).t == (IntKind.i64.wrap x1).tmod x0.threads && ((y8.log.getD (Int.toNat (0 : Int)) dMark).item == (IntKind.i64.wrap x2).tmod x0.items && ((y8.log.getD (Int.toNat (0 : Int)) dMark).op.tag == x3.tag && ((y8.log.getD (Int.toNat (0 : Int)) dMark).op.v == x3.v && true) && ((y8.log.getD (Int.toNat (0 : Int)) dMark).prior == x0.init && ((y8.log.getD (Int.toNat (0 : Int)) dMark).step == (0 : Int) && true))))) then
                        some (false)
                       else
                        match W_law16_MachineAlone_12 (x0, x0, (IntKind.i64.wrap x1).tmod x0.threads, (IntKind.i64.wrap x2).tmod x0.items, y8, y9.fst, (0 : Int)) with
                        | some (.inl y12) =>
                         match C_ref06_Line (y12.fst, y12.snd.fst) with
                         | some y13 =>
                          bif decide ((0 : Int) ≤ y13) then
                           bif decide (y13 < (↑y12.snd.snd.m.words.length : Int)) then
                            some (y12.snd.snd.m.words.getD (Int.toNat y13) (0 : Int) == (0 : Int))
                           else
                            none
                          else
                           none
                         | none => none
                        | some (.inr y13) =>
                         some (y13)
                        | none => none
                      else
                       none
                   | none => none
                | none => none
              | none => none
             | none => none
            | none => none
           | none => none
          | none => none
         | none => none
     | none => none
   | none => none
 | none => none
noncomputable def C_law16_MachineAlone (x : Config × Int × Int × Op × Int) : Option (Bool) := F_law16_MachineAlone x.1 x.2.1 x.2.2.1 x.2.2.2.1 x.2.2.2.2

end Go.Proofs.Mill
