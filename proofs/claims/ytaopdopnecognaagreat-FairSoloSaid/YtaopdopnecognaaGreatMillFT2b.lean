/- What the functions compute that are proved by hand: tape.Next, batch.All, batch.Priors, share.Step. -/
import Derived.Test.YtaopdopnecognaaGreatMillFAb
import Derived.Test.YtaopdopnecognaaGreatMillCells
namespace Go.Proofs.Mill
set_option linter.all false
/- millstream/tape.Next -/
noncomputable def F_tape_Next (x0 : Tape) : Option (Int × Tape) :=
  match C_tape_Left x0 with
  | some y1 =>
    bif decide (y1 > (0 : Int)) then
      bif decide ((0 : Int) ≤ x0.at_) then
        bif decide (x0.at_ < (↑x0.l.length : Int)) then
          some (x0.l.getD x0.at_.toNat (0 : Int), { x0 with at_ := wrapA IntKind.i64 (x0.at_ + (1 : Int)) })
        else
          none
      else
        none
    else
      some ((0 : Int), x0)
  | none => none
noncomputable def C_tape_Next (x : Tape) : Option (Int × Tape) := F_tape_Next x

/-- What an op makes of a cell. -/
noncomputable def apC (lo hi : Int) (e : Entry) (x : Int) : Option Int := match C_oper_Apply (e.op, x, lo, hi) with
  | some y => some y.1
  | none => none

/- millstream/batch.All -/
noncomputable def F_batch_All (x0 : List Entry) (x1 : Int) (x2 : Int) (x3 : Int) : Option Int :=
  bif fewB x0.length then (match cellsOf (apC x2 x3) x0 x1 with
    | some l => some (l.foldl (fun _ p => p.2) x1)
    | none => none) else none
noncomputable def C_batch_All (x : List Entry × Int × Int × Int) : Option Int := F_batch_All x.1 x.2.1 x.2.2.1 x.2.2.2

/- millstream/batch.Priors -/
noncomputable def F_batch_Priors (x0 : List Entry) (x1 : Int) (x2 : Int) (x3 : Int) : Option (List Int) :=
  bif fewB x0.length then (match cellsOf (apC x2 x3) x0 x1 with
    | some l => some (l.map (·.1))
    | none => none) else none
noncomputable def C_batch_Priors (x : List Entry × Int × Int × Int) : Option (List Int) := F_batch_Priors x.1 x.2.1 x.2.2.1 x.2.2.2

noncomputable def G_share_13 (x0 : Turn) : Option (Turn × Bool) :=
  match C_arena_Line (x0.c, x0.t) with
  | some y1 =>
    match C_wmem_Load (x0.m, y1) with
    | some y2 =>
      bif y2.snd == (0 : Int) then
        match C_code_Told () with
        | some y3 =>
          bif y2.fst == y3 then
            some (({ x0 with th := { x0.th with phase := (14 : Int) } }, true))
          else
            some ((x0, true))
        | none => none
      else
        some ((x0, true))
    | none => none
  | none => none
noncomputable def G_share_14 (x0 : Turn) : Option (Turn × Bool) :=
  match C_arena_Result (x0.c, x0.t) with
  | some y1 =>
    match C_wmem_Load (x0.m, y1) with
    | some y2 =>
      bif y2.snd != (0 : Int) then
        some ((x0, true))
      else
        match C_share_Settle { x0 with th := { x0.th with at_ := (0 : Int), x := y2.fst } } with
        | some y3 =>
          some ((y3, true))
        | none => none
    | none => none
  | none => none
noncomputable def G_share_15 (x0 : Turn) : Option (Turn × Bool) :=
  bif decide (x0.th.at_ < (0 : Int)) then
    some ((x0, true))
  else
    bif decide (x0.th.at_ ≥ (↑x0.th.kids.length : Int)) then
      some ((x0, true))
    else
      bif decide ((0 : Int) ≤ x0.th.at_) then
        bif decide (x0.th.at_ < (↑x0.th.kids.length : Int)) then
          match C_batch_Upto (x0.th.batch, (x0.th.kids.getD x0.th.at_.toNat dKid).ahead) with
          | some y1 =>
            match C_batch_All (y1, x0.th.x, x0.c.lo, x0.c.hi) with
            | some y2 =>
              match C_arena_Result (x0.c, (x0.th.kids.getD x0.th.at_.toNat dKid).t) with
              | some y3 =>
                match C_wmem_Store (x0.m, y3, y2) with
                | some y4 =>
                  bif y4.snd == (0 : Int) then
                    some (({ x0 with m := y4.fst, th := { x0.th with phase := (16 : Int) } }, true))
                  else
                    some ((x0, true))
                | none => none
              | none => none
            | none => none
          | none => none
        else
          none
      else
        none
noncomputable def G_share_16 (x0 : Turn) : Option (Turn × Bool) :=
  bif decide (x0.th.at_ < (0 : Int)) then
    some ((x0, true))
  else
    bif decide (x0.th.at_ ≥ (↑x0.th.kids.length : Int)) then
      some ((x0, true))
    else
      bif decide ((0 : Int) ≤ x0.th.at_) then
        bif decide (x0.th.at_ < (↑x0.th.kids.length : Int)) then
          match C_arena_Line (x0.c, (x0.th.kids.getD x0.th.at_.toNat dKid).t) with
          | some y1 =>
            match C_code_Told () with
            | some y2 =>
              match C_wmem_Store (x0.m, y1, y2) with
              | some y3 =>
                bif y3.snd != (0 : Int) then
                  some ((x0, true))
                else
                  match C_share_Settle { x0 with m := y3.fst, th := { x0.th with at_ := wrapA IntKind.i64 (x0.th.at_ + (1 : Int)) } } with
                  | some y4 =>
                    some ((y4, true))
                  | none => none
              | none => none
            | none => none
          | none => none
        else
          none
      else
        none
/- millstream/share.Step -/
noncomputable def F_share_Step (x0 : Turn) : Option (Turn × Bool) :=
  bif x0.th.phase == (13 : Int) then G_share_13 x0 else bif x0.th.phase == (14 : Int) then G_share_14 x0 else bif x0.th.phase == (15 : Int) then G_share_15 x0 else bif x0.th.phase == (16 : Int) then G_share_16 x0 else some (x0, false)
noncomputable def C_share_Step (x : Turn) : Option (Turn × Bool) := F_share_Step x


end Go.Proofs.Mill
