/- What the functions compute. -/
import Derived.Test.YtcokmmhkajmkhaaMillAll4
import Derived.Test.YtcokmmhkajmkhaaMillFI
namespace Go.Proofs.Mill
set_option linter.all false
/- millstream/oper.beyond -/
noncomputable def F_oper_beyond (x0 : Int) (x1 : Int) (x2 : Int) (x3 : Int) : Option (Bool) :=
 bif decide (x1 ≥ (0 : Int)) then
  bif decide (wrapA IntKind.i64 (x0 + x1) ≥ x0) then
   bif decide (wrapA IntKind.i64 (x0 + x1) < x2) then
    some (true)
   else
    some (decide (wrapA IntKind.i64 (x0 + x1) > x3))
  else
   bif decide (x1 < (0 : Int)) then
    bif decide (wrapA IntKind.i64 (x0 + x1) < x0) then
     bif decide (wrapA IntKind.i64 (x0 + x1) < x2) then
      some (true)
     else
      some (decide (wrapA IntKind.i64 (x0 + x1) > x3))
    else
     some (true)
   else
    some (true)
 else
  bif decide (x1 < (0 : Int)) then
   bif decide (wrapA IntKind.i64 (x0 + x1) < x0) then
    bif decide (wrapA IntKind.i64 (x0 + x1) < x2) then
     some (true)
    else
     some (decide (wrapA IntKind.i64 (x0 + x1) > x3))
   else
    some (true)
  else
   some (true)
noncomputable def C_oper_beyond (x : Int × Int × Int × Int) : Option (Bool) := F_oper_beyond x.1 x.2.1 x.2.2.1 x.2.2.2

/- millstream/oper.Apply -/
noncomputable def F_oper_Apply (x0 : Op) (x1 : Int) (x2 : Int) (x3 : Int) : Option (Int × Bool) :=
 bif x0.tag == (2 : Int) then
  some ((wrapA IntKind.i64 (x1 + wrapA IntKind.i64 ((0 : Int) - x0.v)), true))
 else
  bif x0.tag == (1 : Int) then
   some ((wrapA IntKind.i64 (x1 + x0.v), true))
  else
   bif x0.tag == (3 : Int) then
    some ((wrapA IntKind.i64 (↑(BitVec.ofInt IntKind.i64.bits x1 ||| BitVec.ofInt IntKind.i64.bits x0.v).toNat : Int), true))
   else
    bif x0.tag == (4 : Int) then
     some ((wrapA IntKind.i64 (↑(BitVec.ofInt IntKind.i64.bits x1 &&& BitVec.ofInt IntKind.i64.bits x0.v).toNat : Int), true))
    else
     bif x0.tag == (5 : Int) then
      some ((if x1 > x0.v then x1 else x0.v, true))
     else
      bif x0.tag == (6 : Int) then
       some ((if x1 < x0.v then x1 else x0.v, true))
      else
       bif x0.tag == (7 : Int) then
        some ((x0.v, true))
       else
        bif x0.tag == (9 : Int) then
         bif decide (x0.v < (0 : Int)) then
          some ((x1, false))
         else
          bif decide (x1 < x2) then
           some ((x1, false))
          else
           bif decide (wrapA IntKind.i64 (x1 - x0.v) ≤ x1) then
            bif decide (wrapA IntKind.i64 (x1 - x0.v) ≥ x2) then
             some ((wrapA IntKind.i64 (x1 - x0.v), true))
            else
             some ((x2, true))
           else
            some ((x2, true))
        else
         bif x0.tag == (8 : Int) then
          match C_oper_beyond (x1, x0.v, x2, x3) with
          | some y1 =>
           bif !y1 then
            some ((wrapA IntKind.i64 (x1 + x0.v), true))
           else
            some ((x1, false))
          | none => none
         else
          some ((x1, false))
noncomputable def C_oper_Apply (x : Op × Int × Int × Int) : Option (Int × Bool) := F_oper_Apply x.1 x.2.1 x.2.2.1 x.2.2.2

/- millstream/history.Replay -/
noncomputable def S_history_Replay_3 (x0 : Config) (x1 : Int) (x2 : Bool) (e : Mark) : Option ((Config × Int × Bool) ⊕ (Empty)) :=
 bif x2 then
  match C_oper_Apply (e.op, x1, x0.lo, x0.hi) with
  | some y1 =>
   some (Sum.inl (x0, y1.fst, x1 == e.prior))
  | none => none
 else
  match C_oper_Apply (e.op, x1, x0.lo, x0.hi) with
  | some y1 =>
   some (Sum.inl (x0, y1.fst, false))
  | none => none
noncomputable def T_history_Replay_3 (x : Config × Int × Bool) (e : Mark) : Option ((Config × Int × Bool) ⊕ (Empty)) := S_history_Replay_3 x.1 x.2.1 x.2.2 e
noncomputable def W_history_Replay_3 (x : ((List Mark × Int) × (Config × Int × Bool))) : Option (Config × Int × Bool) := fold1 itReplay T_history_Replay_3 x
noncomputable def F_history_Replay (x0 : Config) (x1 : List Mark) (x2 : Int) : Option (Int × Bool) :=
 match W_history_Replay_3 ((x1, x2), x0, x0.init, true) with
 | some y1 =>
  some (y1.snd)
 | none => none
noncomputable def C_history_Replay (x : Config × (List Mark) × Int) : Option (Int × Bool) := F_history_Replay x.1 x.2.1 x.2.2

/- millstream/history.Pending -/
noncomputable def S_history_Pending_2 (x0 : Event) (x1 : Bool) (e : Event) : Option ((Event × Bool) ⊕ (Empty)) :=
 some (Sum.inl (e, e.kind == (1 : Int)))
noncomputable def T_history_Pending_2 (x : Event × Bool) (e : Event) : Option ((Event × Bool) ⊕ (Empty)) := S_history_Pending_2 x.1 x.2 e
noncomputable def W_history_Pending_2 (x : ((List Event × Int) × (Event × Bool))) : Option (Event × Bool) := fold1 itEvents T_history_Pending_2 x
noncomputable def F_history_Pending (x0 : List Event) (x1 : Int) : Option (Event × Bool) :=
 match W_history_Pending_2 ((x0, x1), Event.mk (0 : Int) (0 : Int) (0 : Int) (Op.mk (0 : Int) (0 : Int)) (0 : Int) false (0 : Int), false) with
 | some y1 =>
  bif !y1.snd then
   some ((Event.mk (0 : Int) (0 : Int) (0 : Int) (Op.mk (0 : Int) (0 : Int)) (0 : Int) false (0 : Int), false))
  else
   some (y1)
 | none => none
noncomputable def C_history_Pending (x : (List Event) × Int) : Option (Event × Bool) := F_history_Pending x.1 x.2

/- millstream/history.Counts -/
noncomputable def S_history_Counts_2 (x0 : Int) (x1 : Int) (x2 : Int) (x3 : List Event) (x4 : Int) (x5 : Int) : Option ((Int × Int × Int × (List Event) × Int × Int) ⊕ ((Int × Int × Int))) :=
 bif decide (x5 < x4) then
  bif decide ((0 : Int) ≤ x5) then
   bif decide (x5 < (↑x3.length : Int)) then
    bif (x3.getD x5.toNat dEvent).kind == (1 : Int) then
     some (Sum.inl (wrapA IntKind.i64 (x0 + (1 : Int)), x1, x2, x3, x4, wrapA IntKind.i64 (x5 + (1 : Int))))
    else
     bif (x3.getD x5.toNat dEvent).kind == (2 : Int) then
      some (Sum.inl (x0, wrapA IntKind.i64 (x1 + (1 : Int)), x2, x3, x4, wrapA IntKind.i64 (x5 + (1 : Int))))
     else
      bif (x3.getD x5.toNat dEvent).kind == (3 : Int) then
       some (Sum.inl (x0, x1, wrapA IntKind.i64 (x2 + (1 : Int)), x3, x4, wrapA IntKind.i64 (x5 + (1 : Int))))
      else
       some (Sum.inl (x0, x1, x2, x3, x4, wrapA IntKind.i64 (x5 + (1 : Int))))
   else
    none
  else
   none
 else
  some (Sum.inr (x0, x1, x2))
noncomputable def T_history_Counts_2 (x : Int × Int × Int × (List Event) × Int × Int) : Option ((Int × Int × Int × (List Event) × Int × Int) ⊕ ((Int × Int × Int))) := S_history_Counts_2 x.1 x.2.1 x.2.2.1 x.2.2.2.1 x.2.2.2.2.1 x.2.2.2.2.2
noncomputable def W_history_Counts_2 (x : Int × Int × Int × (List Event) × Int × Int) : Option ((Int × Int × Int)) := whileM T_history_Counts_2 x
noncomputable def F_history_Counts (x0 : List Event) : Option (Int × Int × Int) :=
 match W_history_Counts_2 ((0 : Int), (0 : Int), (0 : Int), x0, (↑x0.length : Int), (0 : Int)) with
 | some y1 =>
  some (y1)
 | none => none
noncomputable def C_history_Counts (x : (List Event)) : Option (Int × Int × Int) := F_history_Counts x

/- slices.AppendSeq[[]millstream/thread.Mark,millstream/thread.Mark] -/
noncomputable def S_slices_AppendSeq_thread_Mark_2 (x0 : List Mark) (e : Mark) : Option (((List Mark)) ⊕ (Empty)) :=
 bif fewB (x0.length + (e :: ([] : List Mark)).length) then
  some (Sum.inl (x0 ++ e :: ([] : List Mark)))
 else
  none
noncomputable def T_slices_AppendSeq_thread_Mark_2 (x : (List Mark)) (e : Mark) : Option (((List Mark)) ⊕ (Empty)) := S_slices_AppendSeq_thread_Mark_2 x e
noncomputable def W_slices_AppendSeq_thread_Mark_2 (x : ((List Mark × Int) × ((List Mark)))) : Option ((List Mark)) := fold1 itOwn T_slices_AppendSeq_thread_Mark_2 x
noncomputable def F_slices_AppendSeq_thread_Mark (x0 : Unit) (x1 : List Mark × Int) : Option ((List Mark)) :=
 match W_slices_AppendSeq_thread_Mark_2 (x1, ([] : List Mark)) with
 | some y1 =>
  some (y1)
 | none => none
noncomputable def C_slices_AppendSeq_thread_Mark (x : Unit × (List Mark × Int)) : Option ((List Mark)) := F_slices_AppendSeq_thread_Mark x.1 x.2

/- slices.Collect[millstream/thread.Mark] -/
noncomputable def F_slices_Collect_thread_Mark (x0 : List Mark × Int) : Option ((List Mark)) :=
 match C_slices_AppendSeq_thread_Mark ((), x0) with
 | some y1 =>
  some (y1)
 | none => none
noncomputable def C_slices_Collect_thread_Mark (x : (List Mark × Int)) : Option ((List Mark)) := F_slices_Collect_thread_Mark x

/- millstream/history.of -/
noncomputable def F_history_of (x0 : Event) : Option (Asked) :=
 some (Asked.mk x0.op x0.item)
noncomputable def C_history_of (x : Event) : Option (Asked) := F_history_of x

/- millstream/history.answered -/
noncomputable def F_history_answered (x0 : Config) (x1 : Mark) (x2 : Event) (x3 : Event) : Option (Bool) :=
 match C_oper_Apply (x3.op, x3.prior, x0.lo, x0.hi) with
 | some y1 =>
  match C_history_of x3 with
  | some y2 =>
   match C_history_of x2 with
   | some y3 =>
    bif y2.op.tag == y3.op.tag && (y2.op.v == y3.op.v && true) && (y2.item == y3.item && true) then
     bif y2.op.tag == x1.op.tag && (y2.op.v == x1.op.v && true) && (y2.item == x1.item && true) then
      bif x1.prior == x3.prior then
       bif y1.snd == x3.did then
        bif decide (x2.step < x1.step) then
         some (decide (x1.step ≤ x3.step))
        else
         some (false)
       else
        some (false)
      else
       some (false)
     else
      some (false)
    else
     some (false)
   | none => none
  | none => none
 | none => none
noncomputable def C_history_answered (x : Config × Mark × Event × Event) : Option (Bool) := F_history_answered x.1 x.2.1 x.2.2.1 x.2.2.2

/- millstream/history.Answers -/
noncomputable def S_history_Answers_5 (x0 : Config) (x1 : Bool) (x2 : List Mark) (x3 : Event) (x4 : Bool) (e : Event) : Option ((Config × Bool × (List Mark) × Event × Bool) ⊕ ((Bool))) :=
 bif x4 == (e.kind == (1 : Int)) then
  some (Sum.inr false)
 else
  bif !x4 then
   some (Sum.inl (x0, x1, x2, e, !x4))
  else
   bif (↑x2.length : Int) == (0 : Int) then
    some (Sum.inr false)
   else
    bif decide ((0 : Int) < (↑x2.length : Int)) then
     match C_history_answered (x0, x2.getD (Int.toNat (0 : Int)) dMark, x3, e) with
     | some y1 =>
      bif !y1 then
       some (Sum.inr false)
      else
       bif decide (bnd (0 : Int) (some (ofValue (Value.int IntKind.i64 (1 : Int)))) ≤ bnd (↑x2.length : Int) none) then
        bif decide (bnd (↑x2.length : Int) none ≤ (↑x2.length : Int)) then
         some (Sum.inl (x0, x1, List.drop (bnd (0 : Int) (some (ofValue (Value.int IntKind.i64 (1 : Int))))).toNat (List.take (bnd (↑x2.length : Int) none).toNat x2), x3, !x4))
        else
         none
       else
        none
     | none => none
    else
     none
noncomputable def T_history_Answers_5 (x : Config × Bool × (List Mark) × Event × Bool) (e : Event) : Option ((Config × Bool × (List Mark) × Event × Bool) ⊕ ((Bool))) := S_history_Answers_5 x.1 x.2.1 x.2.2.1 x.2.2.2.1 x.2.2.2.2 e
noncomputable def W_history_Answers_5 (x : ((List Event × Int) × (Config × Bool × (List Mark) × Event × Bool))) : Option ((Config × Bool × (List Mark) × Event × Bool) ⊕ ((Bool))) := fold2 itEvents T_history_Answers_5 x
noncomputable def F_history_Answers (x0 : Config) (x1 : List Mark) (x2 : List Event) (x3 : Int) : Option (Bool) :=
 match C_slices_Collect_thread_Mark (x1, x3) with
 | some y1 =>
  match W_history_Answers_5 ((x2, x3), x0, false, y1, Event.mk (0 : Int) (0 : Int) (0 : Int) (Op.mk (0 : Int) (0 : Int)) (0 : Int) false (0 : Int), false) with
  | some (.inl y2) =>
   bif (↑(List.length y2.snd.snd.fst) : Int) == (0 : Int) then
    some (true)
   else
    bif decide ((↑(List.length y2.snd.snd.fst) : Int) > (1 : Int)) then
     some (false)
    else
     bif !y2.snd.snd.snd.snd then
      some (false)
     else
      bif decide ((0 : Int) < (↑(List.length y2.snd.snd.fst) : Int)) then
       bif decide ((0 : Int) < (↑(List.length y2.snd.snd.fst) : Int)) then
        match C_history_of y2.snd.snd.snd.fst with
        | some y3 =>
         bif (List.getD y2.snd.snd.fst (Int.toNat (0 : Int)) dMark).op.tag == y3.op.tag && ((List.getD y2.snd.snd.fst (Int.toNat (0 : Int)) dMark).op.v == y3.op.v && true) && ((List.getD y2.snd.snd.fst (Int.toNat (0 : Int)) dMark).item == y3.item && true) then
          bif decide ((0 : Int) < (↑(List.length y2.snd.snd.fst) : Int)) then
           some (decide (y2.snd.snd.snd.fst.step < (List.getD y2.snd.snd.fst (Int.toNat (0 : Int)) dMark).step))
          else
           none
         else
          some (false)
        | none => none
       else
        none
      else
       none
  | some (.inr y3) =>
   some (y3)
  | none => none
 | none => none
noncomputable def C_history_Answers (x : Config × (List Mark) × (List Event) × Int) : Option (Bool) := F_history_Answers x.1 x.2.1 x.2.2.1 x.2.2.2

/- millstream/millstreamlaw18.shown -/
noncomputable def F_law18_shown : Option (Bool) :=
 match C_history_Replay (Config.mk (2 : Int) (1 : Int) (1 : Int) (0 : Int) (0 : Int) (1 : Int) (0 : Int) (0 : Int) false (0 : Int) (0 : Int) (5 : Int), Mark.mk (1 : Int) (0 : Int) (Op.mk (1 : Int) (3 : Int)) (5 : Int) (3 : Int) :: Mark.mk (0 : Int) (0 : Int) (Op.mk (1 : Int) (4 : Int)) (8 : Int) (4 : Int) :: ([] : List Mark), (0 : Int)) with
 | some y1 =>
  match C_history_Pending (Event.mk (1 : Int) (1 : Int) (0 : Int) (Op.mk (1 : Int) (3 : Int)) (0 : Int) false (0 : Int) :: Event.mk (1 : Int) (0 : Int) (0 : Int) (Op.mk (1 : Int) (4 : Int)) (0 : Int) false (0 : Int) :: Event.mk (2 : Int) (1 : Int) (0 : Int) (Op.mk (1 : Int) (3 : Int)) (5 : Int) true (3 : Int) :: ([] : List Event), (0 : Int)) with
  | some y2 =>
   match C_history_Counts (Event.mk (1 : Int) (1 : Int) (0 : Int) (Op.mk (1 : Int) (3 : Int)) (0 : Int) false (0 : Int) :: Event.mk (1 : Int) (0 : Int) (0 : Int) (Op.mk (1 : Int) (4 : Int)) (0 : Int) false (0 : Int) :: Event.mk (2 : Int) (1 : Int) (0 : Int) (Op.mk (1 : Int) (3 : Int)) (5 : Int) true (3 : Int) :: ([] : List Event)) with
   | some y3 =>
    match C_history_Answers (Config.mk (2 : Int) (1 : Int) (1 : Int) (0 : Int) (0 : Int) (1 : Int) (0 : Int) (0 : Int) false (0 : Int) (0 : Int) (5 : Int), Mark.mk (1 : Int) (0 : Int) (Op.mk (1 : Int) (3 : Int)) (5 : Int) (3 : Int) :: Mark.mk (0 : Int) (0 : Int) (Op.mk (1 : Int) (4 : Int)) (8 : Int) (4 : Int) :: ([] : List Mark), Event.mk (1 : Int) (1 : Int) (0 : Int) (Op.mk (1 : Int) (3 : Int)) (0 : Int) false (0 : Int) :: Event.mk (1 : Int) (0 : Int) (0 : Int) (Op.mk (1 : Int) (4 : Int)) (0 : Int) false (0 : Int) :: Event.mk (2 : Int) (1 : Int) (0 : Int) (Op.mk (1 : Int) (3 : Int)) (5 : Int) true (3 : Int) :: ([] : List Event), (0 : Int)) with
    | some y4 =>
     bif y4 then
      match C_history_Answers (Config.mk (2 : Int) (1 : Int) (1 : Int) (0 : Int) (0 : Int) (1 : Int) (0 : Int) (0 : Int) false (0 : Int) (0 : Int) (5 : Int), Mark.mk (1 : Int) (0 : Int) (Op.mk (1 : Int) (3 : Int)) (5 : Int) (3 : Int) :: Mark.mk (0 : Int) (0 : Int) (Op.mk (1 : Int) (4 : Int)) (8 : Int) (4 : Int) :: ([] : List Mark), Event.mk (1 : Int) (1 : Int) (0 : Int) (Op.mk (1 : Int) (3 : Int)) (0 : Int) false (0 : Int) :: Event.mk (1 : Int) (0 : Int) (0 : Int) (Op.mk (1 : Int) (4 : Int)) (0 : Int) false (0 : Int) :: Event.mk (2 : Int) (1 : Int) (0 : Int) (Op.mk (1 : Int) (3 : Int)) (5 : Int) true (3 : Int) :: ([] : List Event), (1 : Int)) with
      | some y5 =>
       match C_history_Replay (Config.mk (2 : Int) (1 : Int) (1 : Int) (0 : Int) (0 : Int) (1 : Int) (0 : Int) (0 : Int) false (0 : Int) (0 : Int) (5 : Int), (Mark.mk (1 : Int) (0 : Int) (Op.mk (1 : Int) (3 : Int)) (5 : Int) (3 : Int) :: Mark.mk (0 : Int) (0 : Int) (Op.mk (1 : Int) (4 : Int)) (8 : Int) (4 : Int) :: ([] : List Mark)).set (Int.toNat (1 : Int)) { (Mark.mk (1 : Int) (0 : Int) (Op.mk (1 : Int) (3 : Int)) (5 : Int) (3 : Int) :: Mark.mk (0 : Int) (0 : Int) (Op.mk (1 : Int) (4 : Int)) (8 : Int) (4 : Int) :: ([] : List Mark)).getD (Int.toNat (1 : Int)) dMark with prior := (7 : Int) }, (0 : Int)) with
       | some y6 =>
        bif y1.fst == (12 : Int) then
         bif y1.snd then
          bif !y6.snd then
           bif y2.snd then
            bif y2.fst.op.v == (4 : Int) then
             bif y3.fst == (2 : Int) then
              bif y3.snd.fst == (1 : Int) then
               bif y3.snd.snd == (0 : Int) then
                bif y5 then
                 match C_history_Answers (Config.mk (2 : Int) (1 : Int) (1 : Int) (0 : Int) (0 : Int) (1 : Int) (0 : Int) (0 : Int) false (0 : Int) (0 : Int) (5 : Int), List.drop (bnd (0 : Int) none).toNat (List.take (bnd (↑((Mark.mk (1 : Int) (0 : Int) (Op.mk (1 : Int) (3 : Int)) (5 : Int) (3 : Int) :: Mark.mk (0 : Int) (0 : Int) (Op.mk (1 : Int) (4 : Int)) (8 : Int) (4 : Int) :: ([] : List Mark)).set (Int.toNat (1 : Int)) { (Mark.mk (1 : Int) (0 : Int) (Op.mk (1 : Int) (3 : Int)) (5 : Int) (3 : Int) :: Mark.mk (0 : Int) (0 : Int) (Op.mk (1 : Int) (4 : Int)) (8 : Int) (4 : Int) :: ([] : List Mark)).getD (Int.toNat (1 : Int)) dMark with prior := (7 : Int) }).length : Int) (some (ofValue (Value.int IntKind.i64 (0 : Int))))).toNat ((Mark.mk (1 : Int) (0 : Int) (Op.mk (1 : Int) (3 : Int)) (5 : Int) (3 : Int) :: Mark.mk (0 : Int) (0 : Int) (Op.mk (1 : Int) (4 : Int)) (8 : Int) (4 : Int) :: ([] : List Mark)).set (Int.toNat (1 : Int)) { (Mark.mk (1 : Int) (0 : Int) (Op.mk (1 : Int) (3 : Int)) (5 : Int) (3 : Int) :: Mark.mk (0 : Int) (0 : Int) (Op.mk (1 : Int) (4 : Int)) (8 : Int) (4 : Int) :: ([] : List Mark)).getD (Int.toNat (1 : Int)) dMark with prior := (7 : Int) })), Event.mk (1 : Int) (1 : Int) (0 : Int) (Op.mk (1 : Int) (3 : Int)) (0 : Int) false (0 : Int) :: Event.mk (1 : Int) (0 : Int) (0 : Int) (Op.mk (1 : Int) (4 : Int)) (0 : Int) false (0 : Int) :: Event.mk (2 : Int) (1 : Int) (0 : Int) (Op.mk (1 : Int) (3 : Int)) (5 : Int) true (3 : Int) :: ([] : List Event), (1 : Int)) with
                 | some y7 =>
                  some (!y7)
                 | none => none
                else
                 some (false)
               else
                some (false)
              else
               some (false)
             else
              some (false)
            else
             some (false)
           else
            some (false)
          else
           some (false)
         else
          some (false)
        else
         some (false)
       | none => none
      | none => none
     else
      match C_history_Replay (Config.mk (2 : Int) (1 : Int) (1 : Int) (0 : Int) (0 : Int) (1 : Int) (0 : Int) (0 : Int) false (0 : Int) (0 : Int) (5 : Int), (Mark.mk (1 : Int) (0 : Int) (Op.mk (1 : Int) (3 : Int)) (5 : Int) (3 : Int) :: Mark.mk (0 : Int) (0 : Int) (Op.mk (1 : Int) (4 : Int)) (8 : Int) (4 : Int) :: ([] : List Mark)).set (Int.toNat (1 : Int)) { (Mark.mk (1 : Int) (0 : Int) (Op.mk (1 : Int) (3 : Int)) (5 : Int) (3 : Int) :: Mark.mk (0 : Int) (0 : Int) (Op.mk (1 : Int) (4 : Int)) (8 : Int) (4 : Int) :: ([] : List Mark)).getD (Int.toNat (1 : Int)) dMark with prior := (7 : Int) }, (0 : Int)) with
      | some y5 =>
       bif y1.fst == (12 : Int) then
        bif y1.snd then
         bif !y5.snd then
          bif y2.snd then
           bif y2.fst.op.v == (4 : Int) then
            bif y3.fst == (2 : Int) then
             bif y3.snd.fst == (1 : Int) then
              bif y3.snd.snd == (0 : Int) then
               some (false)
              else
               some (false)
             else
              some (false)
            else
             some (false)
           else
            some (false)
          else
           some (false)
         else
          some (false)
        else
         some (false)
       else
        some (false)
      | none => none
    | none => none
   | none => none
  | none => none
 | none => none
noncomputable def C_law18_shown (x : Unit) : Option (Bool) := F_law18_shown

/- millstream/millstreamlaw18.entries -/
noncomputable def S_law18_entries_3 (x0 : List Entry) (x1 : List Entry) (x2 : Int) : Option (((List Entry) × (List Entry) × Int) ⊕ (((List Entry)))) :=
 bif decide (x2 < (↑x0.length : Int)) then
  bif decide ((0 : Int) ≤ x2) then
   bif decide (x2 < (↑x0.length : Int)) then
    bif decide ((0 : Int) ≤ x2) then
     bif decide (x2 < (↑x0.length : Int)) then
      bif fewB (x1.length + (x0.getD x2.toNat dEntry :: ([] : List Entry)).length) then
       some (Sum.inl (x0, x1 ++ x0.getD x2.toNat dEntry :: ([] : List Entry), wrapA IntKind.i64 (x2 + (1 : Int))))
      else
       none
     else
      none
    else
     none
   else
    none
  else
   none
 else
  some (Sum.inr x1)
noncomputable def T_law18_entries_3 (x : (List Entry) × (List Entry) × Int) : Option (((List Entry) × (List Entry) × Int) ⊕ (((List Entry)))) := S_law18_entries_3 x.1 x.2.1 x.2.2
noncomputable def W_law18_entries_3 (x : (List Entry) × (List Entry) × Int) : Option (((List Entry))) := whileM T_law18_entries_3 x
noncomputable def F_law18_entries (x0 : List Entry) : Option ((List Entry)) :=
 match W_law18_entries_3 (x0, ([] : List Entry), (0 : Int)) with
 | some y1 =>
  some (y1)
 | none => none
noncomputable def C_law18_entries (x : (List Entry)) : Option ((List Entry)) := F_law18_entries x

/- millstream/millstreamlaw18.memory -/
noncomputable def S_law18_memory_3 (x0 : Memo) (x1 : Memo) (x2 : Memo) (x3 : Int) : Option ((Memo × Memo × Memo × Int) ⊕ ((Memo × Memo))) :=
 bif decide (x3 < (↑x0.boxes.length : Int)) then
  bif decide ((0 : Int) ≤ x3) then
   bif decide (x3 < (↑x0.boxes.length : Int)) then
    match C_law18_entries (x0.boxes.getD x3.toNat ([] : List Entry)) with
    | some y1 =>
     bif fewB (x2.boxes.length + (y1 :: ([] : List (List Entry))).length) then
      some (Sum.inl (x0, x1, { x2 with boxes := x2.boxes ++ y1 :: ([] : List (List Entry)) }, wrapA IntKind.i64 (x3 + (1 : Int))))
     else
      none
    | none => none
   else
    none
  else
   none
 else
  some (Sum.inr (x1, x2))
noncomputable def T_law18_memory_3 (x : Memo × Memo × Memo × Int) : Option ((Memo × Memo × Memo × Int) ⊕ ((Memo × Memo))) := S_law18_memory_3 x.1 x.2.1 x.2.2.1 x.2.2.2
noncomputable def W_law18_memory_3 (x : Memo × Memo × Memo × Int) : Option ((Memo × Memo)) := whileM T_law18_memory_3 x
noncomputable def F_law18_memory (x0 : Memo) : Option (Memo) :=
 match W_law18_memory_3 (x0, Memo.mk ([] : List Int) ([] : List (List Entry)), { x0 with boxes := ([] : List (List Entry)) }, (0 : Int)) with
 | some y1 =>
  some (y1.snd)
 | none => none
noncomputable def C_law18_memory (x : Memo) : Option (Memo) := F_law18_memory x

/- millstream/millstreamlaw18.marks -/
noncomputable def S_law18_marks_3 (x0 : List Mark) (x1 : List Mark) (x2 : Int) : Option (((List Mark) × (List Mark) × Int) ⊕ (((List Mark)))) :=
 bif decide (x2 < (↑x0.length : Int)) then
  bif decide ((0 : Int) ≤ x2) then
   bif decide (x2 < (↑x0.length : Int)) then
    bif decide ((0 : Int) ≤ x2) then
     bif decide (x2 < (↑x0.length : Int)) then
      bif decide ((0 : Int) ≤ x2) then
       bif decide (x2 < (↑x0.length : Int)) then
        bif decide ((0 : Int) ≤ x2) then
         bif decide (x2 < (↑x0.length : Int)) then
          bif decide ((0 : Int) ≤ x2) then
           bif decide (x2 < (↑x0.length : Int)) then
            bif fewB (x1.length + (x0.getD x2.toNat dMark :: ([] : List Mark)).length) then
             some (Sum.inl (x0, x1 ++ x0.getD x2.toNat dMark :: ([] : List Mark), wrapA IntKind.i64 (x2 + (1 : Int))))
            else
             none
           else
            none
          else
           none
         else
          none
        else
         none
       else
        none
      else
       none
     else
      none
    else
     none
   else
    none
  else
   none
 else
  some (Sum.inr x1)
noncomputable def T_law18_marks_3 (x : (List Mark) × (List Mark) × Int) : Option (((List Mark) × (List Mark) × Int) ⊕ (((List Mark)))) := S_law18_marks_3 x.1 x.2.1 x.2.2
noncomputable def W_law18_marks_3 (x : (List Mark) × (List Mark) × Int) : Option (((List Mark))) := whileM T_law18_marks_3 x
noncomputable def F_law18_marks (x0 : List Mark) : Option ((List Mark)) :=
 match W_law18_marks_3 (x0, ([] : List Mark), (0 : Int)) with
 | some y1 =>
  some (y1)
 | none => none
noncomputable def C_law18_marks (x : (List Mark)) : Option ((List Mark)) := F_law18_marks x

/- millstream/millstreamlaw18.fiber -/
noncomputable def S_law18_fiber_3 (x0 : Thread) (x1 : Thread) (x2 : Thread) (x3 : Int) : Option ((Thread × Thread × Thread × Int) ⊕ ((Thread × Thread))) :=
 bif decide (x3 < (↑x0.kids.length : Int)) then
  bif decide ((0 : Int) ≤ x3) then
   bif decide (x3 < (↑x0.kids.length : Int)) then
    bif fewB (x2.kids.length + (x0.kids.getD x3.toNat dKid :: ([] : List Kid)).length) then
     some (Sum.inl (x0, x1, { x2 with kids := x2.kids ++ x0.kids.getD x3.toNat dKid :: ([] : List Kid) }, wrapA IntKind.i64 (x3 + (1 : Int))))
    else
     none
   else
    none
  else
   none
 else
  some (Sum.inr (x1, x2))
noncomputable def T_law18_fiber_3 (x : Thread × Thread × Thread × Int) : Option ((Thread × Thread × Thread × Int) ⊕ ((Thread × Thread))) := S_law18_fiber_3 x.1 x.2.1 x.2.2.1 x.2.2.2
noncomputable def W_law18_fiber_3 (x : Thread × Thread × Thread × Int) : Option ((Thread × Thread)) := whileM T_law18_fiber_3 x
noncomputable def F_law18_fiber (x0 : Thread) : Option (Thread) :=
 match C_law18_entries x0.batch with
 | some y1 =>
  match W_law18_fiber_3 (x0, Thread.mk (0 : Int) (0 : Int) (Op.mk (0 : Int) (0 : Int)) ([] : List Entry) ([] : List Kid) ([] : List Int) (0 : Int) (0 : Int) (0 : Int) (0 : Int) (0 : Int) (0 : Int) (0 : Int) (0 : Int) (0 : Int) (0 : Int), { x0 with batch := y1, kids := ([] : List Kid) }, (0 : Int)) with
  | some y2 =>
   some (y2.snd)
  | none => none
 | none => none
noncomputable def C_law18_fiber (x : Thread) : Option (Thread) := F_law18_fiber x

/- millstream/millstreamlaw18.theirs -/
noncomputable def S_law18_theirs_7 (x0 : Wld) (x1 : Wld) (x2 : Wld) (x3 : Int) : Option ((Wld × Wld × Wld × Int) ⊕ ((Wld × Wld))) :=
 bif decide (x3 < (↑x0.hist.length : Int)) then
  bif decide ((0 : Int) ≤ x3) then
   bif decide (x3 < (↑x0.hist.length : Int)) then
    bif fewB (x2.hist.length + (x0.hist.getD x3.toNat dEvent :: ([] : List Event)).length) then
     some (Sum.inl (x0, x1, { x2 with hist := x2.hist ++ x0.hist.getD x3.toNat dEvent :: ([] : List Event) }, wrapA IntKind.i64 (x3 + (1 : Int))))
    else
     none
   else
    none
  else
   none
 else
  some (Sum.inr (x1, x2))
noncomputable def T_law18_theirs_7 (x : Wld × Wld × Wld × Int) : Option ((Wld × Wld × Wld × Int) ⊕ ((Wld × Wld))) := S_law18_theirs_7 x.1 x.2.1 x.2.2.1 x.2.2.2
noncomputable def W_law18_theirs_7 (x : Wld × Wld × Wld × Int) : Option ((Wld × Wld)) := whileM T_law18_theirs_7 x
noncomputable def S_law18_theirs_3 (x0 : Wld) (x1 : Wld) (x2 : Wld) (x3 : Int) : Option ((Wld × Wld × Wld × Int) ⊕ ((Wld × Wld × Wld))) :=
 bif decide (x3 < (↑x0.t.length : Int)) then
  bif decide ((0 : Int) ≤ x3) then
   bif decide (x3 < (↑x0.t.length : Int)) then
    match C_law18_fiber (x0.t.getD x3.toNat dThread) with
    | some y1 =>
     bif fewB (x2.t.length + (y1 :: ([] : List Thread)).length) then
      some (Sum.inl (x0, x1, { x2 with t := x2.t ++ y1 :: ([] : List Thread) }, wrapA IntKind.i64 (x3 + (1 : Int))))
     else
      none
    | none => none
   else
    none
  else
   none
 else
  some (Sum.inr (x0, x1, x2))
noncomputable def T_law18_theirs_3 (x : Wld × Wld × Wld × Int) : Option ((Wld × Wld × Wld × Int) ⊕ ((Wld × Wld × Wld))) := S_law18_theirs_3 x.1 x.2.1 x.2.2.1 x.2.2.2
noncomputable def W_law18_theirs_3 (x : Wld × Wld × Wld × Int) : Option ((Wld × Wld × Wld)) := whileM T_law18_theirs_3 x
noncomputable def F_law18_theirs (x0 : Wld) : Option (Wld) :=
 match C_law18_memory x0.m with
 | some y1 =>
  match C_law18_marks x0.log with
  | some y2 =>
   match W_law18_theirs_3 (x0, Wld.mk (Config.mk (0 : Int) (0 : Int) (0 : Int) (0 : Int) (0 : Int) (0 : Int) (0 : Int) (0 : Int) false (0 : Int) (0 : Int) (0 : Int)) (Memo.mk ([] : List Int) ([] : List (List Entry))) ([] : List Thread) (0 : Int) (0 : Int) (Tape.mk ([] : List Int) (0 : Int)) ([] : List Mark) ([] : List Event), { x0 with m := y1, t := ([] : List Thread), log := y2, hist := ([] : List Event) }, (0 : Int)) with
   | some y3 =>
    match W_law18_theirs_7 (y3.fst, y3.snd.fst, y3.snd.snd, (0 : Int)) with
    | some y4 =>
     some (y4.snd)
    | none => none
   | none => none
  | none => none
 | none => none
noncomputable def C_law18_theirs (x : Wld) : Option (Wld) := F_law18_theirs x

/- millstream/millstreamref01.sum -/
noncomputable def F_ref01_sum (x0 : Int) (x1 : Int) : Option (Int × Bool) :=
 some ((wrapA IntKind.i64 (x0 + x1), decide (x1 ≥ (0 : Int)) == decide (wrapA IntKind.i64 (x0 + x1) ≥ x0)))
noncomputable def C_ref01_sum (x : Int × Int) : Option (Int × Bool) := F_ref01_sum x.1 x.2

/- millstream/millstreamref01.Apply -/
noncomputable def F_ref01_Apply (x0 : Op) (x1 : Int) (x2 : Int) (x3 : Int) : Option (Int × Bool) :=
 bif x0.tag == (1 : Int) then
  some ((wrapA IntKind.i64 (x1 + x0.v), true))
 else
  bif x0.tag == (2 : Int) then
   some ((wrapA IntKind.i64 (x1 - x0.v), true))
  else
   bif x0.tag == (3 : Int) then
    some ((wrapA IntKind.i64 (↑(BitVec.ofInt IntKind.i64.bits x1 ||| BitVec.ofInt IntKind.i64.bits x0.v).toNat : Int), true))
   else
    bif x0.tag == (4 : Int) then
     some ((wrapA IntKind.i64 (↑(BitVec.ofInt IntKind.i64.bits x1 &&& BitVec.ofInt IntKind.i64.bits x0.v).toNat : Int), true))
    else
     bif x0.tag == (5 : Int) then
      some ((if x0.v > x1 then x0.v else x1, true))
     else
      bif x0.tag == (6 : Int) then
       some ((if x0.v < x1 then x0.v else x1, true))
      else
       bif x0.tag == (7 : Int) then
        some ((x0.v, true))
       else
        bif x0.tag == (8 : Int) then
         match C_ref01_sum (x1, x0.v) with
         | some y1 =>
          bif !y1.snd then
           some ((x1, false))
          else
           bif decide (y1.fst < x2) then
            some ((x1, false))
           else
            bif decide (y1.fst > x3) then
             some ((x1, false))
            else
             some ((y1.fst, true))
         | none => none
        else
         bif x0.tag == (9 : Int) then
          bif decide (x0.v < (0 : Int)) then
           some ((x1, false))
          else
           bif decide (x1 < x2) then
            some ((x1, false))
           else
            bif decide (IntKind.u64.wrap x0.v ≥ wrapA IntKind.u64 (IntKind.u64.wrap x1 - IntKind.u64.wrap x2)) then
             some ((x2, true))
            else
             some ((wrapA IntKind.i64 (x1 - x0.v), true))
         else
          some ((x1, false))
noncomputable def C_ref01_Apply (x : Op × Int × Int × Int) : Option (Int × Bool) := F_ref01_Apply x.1 x.2.1 x.2.2.1 x.2.2.2

/- millstream/millstreamref18.Replay -/
noncomputable def S_ref18_Replay_4 (x0 : List Mark) (x1 : Int) (x2 : Config) (x3 : Int) (x4 : Bool) (x5 : Int) : Option (((List Mark) × Int × Config × Int × Bool × Int) ⊕ ((Int × Bool))) :=
 bif decide (x5 < (↑x0.length : Int)) then
  bif decide ((0 : Int) ≤ x5) then
   bif decide (x5 < (↑x0.length : Int)) then
    bif (x0.getD x5.toNat dMark).item == x1 then
     bif x4 then
      bif decide ((0 : Int) ≤ x5) then
       bif decide (x5 < (↑x0.length : Int)) then
        bif decide ((0 : Int) ≤ x5) then
         bif decide (x5 < (↑x0.length : Int)) then
          match C_ref01_Apply ((x0.getD x5.toNat dMark).op, x3, x2.lo, x2.hi) with
          | some y1 =>
           some (Sum.inl (x0, x1, x2, y1.fst, (x0.getD x5.toNat dMark).prior == x3, wrapA IntKind.i64 (x5 + (1 : Int))))
          | none => none
         else
          none
        else
         none
       else
        none
      else
       none
     else
      bif decide ((0 : Int) ≤ x5) then
       bif decide (x5 < (↑x0.length : Int)) then
        match C_ref01_Apply ((x0.getD x5.toNat dMark).op, x3, x2.lo, x2.hi) with
        | some y1 =>
         some (Sum.inl (x0, x1, x2, y1.fst, false, wrapA IntKind.i64 (x5 + (1 : Int))))
        | none => none
       else
        none
      else
       none
    else
     some (Sum.inl (x0, x1, x2, x3, x4, wrapA IntKind.i64 (x5 + (1 : Int))))
   else
    none
  else
   none
 else
  some (Sum.inr (x3, x4))
noncomputable def T_ref18_Replay_4 (x : (List Mark) × Int × Config × Int × Bool × Int) : Option (((List Mark) × Int × Config × Int × Bool × Int) ⊕ ((Int × Bool))) := S_ref18_Replay_4 x.1 x.2.1 x.2.2.1 x.2.2.2.1 x.2.2.2.2.1 x.2.2.2.2.2
noncomputable def W_ref18_Replay_4 (x : (List Mark) × Int × Config × Int × Bool × Int) : Option ((Int × Bool)) := whileM T_ref18_Replay_4 x
noncomputable def F_ref18_Replay (x0 : Config) (x1 : List Mark) (x2 : Int) : Option (Int × Bool) :=
 match W_ref18_Replay_4 (x1, x2, x0, x0.init, true, (0 : Int)) with
 | some y1 =>
  some (y1)
 | none => none
noncomputable def C_ref18_Replay (x : Config × (List Mark) × Int) : Option (Int × Bool) := F_ref18_Replay x.1 x.2.1 x.2.2

/- millstream/millstreamref18.events -/
noncomputable def S_ref18_events_3 (x0 : List Event) (x1 : Int) (x2 : List Event) (x3 : Int) : Option (((List Event) × Int × (List Event) × Int) ⊕ (((List Event)))) :=
 bif decide (x3 < (↑x0.length : Int)) then
  bif decide ((0 : Int) ≤ x3) then
   bif decide (x3 < (↑x0.length : Int)) then
    bif (x0.getD x3.toNat dEvent).t == x1 then
     bif decide ((0 : Int) ≤ x3) then
      bif decide (x3 < (↑x0.length : Int)) then
       bif (x0.getD x3.toNat dEvent).kind != (3 : Int) then
        bif decide ((0 : Int) ≤ x3) then
         bif decide (x3 < (↑x0.length : Int)) then
          bif fewB (x2.length + (x0.getD x3.toNat dEvent :: ([] : List Event)).length) then
           some (Sum.inl (x0, x1, x2 ++ x0.getD x3.toNat dEvent :: ([] : List Event), wrapA IntKind.i64 (x3 + (1 : Int))))
          else
           none
         else
          none
        else
         none
       else
        some (Sum.inl (x0, x1, x2, wrapA IntKind.i64 (x3 + (1 : Int))))
      else
       none
     else
      none
    else
     some (Sum.inl (x0, x1, x2, wrapA IntKind.i64 (x3 + (1 : Int))))
   else
    none
  else
   none
 else
  some (Sum.inr x2)
noncomputable def T_ref18_events_3 (x : (List Event) × Int × (List Event) × Int) : Option (((List Event) × Int × (List Event) × Int) ⊕ (((List Event)))) := S_ref18_events_3 x.1 x.2.1 x.2.2.1 x.2.2.2
noncomputable def W_ref18_events_3 (x : (List Event) × Int × (List Event) × Int) : Option (((List Event))) := whileM T_ref18_events_3 x
noncomputable def F_ref18_events (x0 : List Event) (x1 : Int) : Option ((List Event)) :=
 match W_ref18_events_3 (x0, x1, ([] : List Event), (0 : Int)) with
 | some y1 =>
  some (y1)
 | none => none
noncomputable def C_ref18_events (x : (List Event) × Int) : Option ((List Event)) := F_ref18_events x.1 x.2

/- millstream/millstreamref18.Pending -/
noncomputable def F_ref18_Pending (x0 : List Event) (x1 : Int) : Option (Event × Bool) :=
 match C_ref18_events (x0, x1) with
 | some y1 =>
  bif (↑(List.length y1) : Int) == (0 : Int) then
   some ((Event.mk (0 : Int) (0 : Int) (0 : Int) (Op.mk (0 : Int) (0 : Int)) (0 : Int) false (0 : Int), false))
  else
   bif decide ((0 : Int) ≤ wrapA IntKind.i64 ((↑(List.length y1) : Int) - (1 : Int))) then
    bif decide (wrapA IntKind.i64 ((↑(List.length y1) : Int) - (1 : Int)) < (↑(List.length y1) : Int)) then
     bif (List.getD y1 (wrapA IntKind.i64 ((↑(List.length y1) : Int) - (1 : Int))).toNat dEvent).kind != (1 : Int) then
      some ((Event.mk (0 : Int) (0 : Int) (0 : Int) (Op.mk (0 : Int) (0 : Int)) (0 : Int) false (0 : Int), false))
     else
      bif decide ((0 : Int) ≤ wrapA IntKind.i64 ((↑(List.length y1) : Int) - (1 : Int))) then
       bif decide (wrapA IntKind.i64 ((↑(List.length y1) : Int) - (1 : Int)) < (↑(List.length y1) : Int)) then
        some ((List.getD y1 (wrapA IntKind.i64 ((↑(List.length y1) : Int) - (1 : Int))).toNat dEvent, true))
       else
        none
      else
       none
    else
     none
   else
    none
 | none => none
noncomputable def C_ref18_Pending (x : (List Event) × Int) : Option (Event × Bool) := F_ref18_Pending x.1 x.2

/- millstream/millstreamref18.Counts -/
noncomputable def S_ref18_Counts_3 (x0 : List Event) (x1 : Int × Int × Int × Int) (x2 : Int) : Option (((List Event) × (Int × Int × Int × Int) × Int) ⊕ (((Int × Int × Int × Int)))) :=
 bif decide (x2 < (↑x0.length : Int)) then
  bif decide ((0 : Int) ≤ x2) then
   bif decide (x2 < (↑x0.length : Int)) then
    bif decide ((x0.getD x2.toNat dEvent).kind ≥ (1 : Int)) then
     bif decide ((0 : Int) ≤ x2) then
      bif decide (x2 < (↑x0.length : Int)) then
       bif decide ((x0.getD x2.toNat dEvent).kind ≤ (3 : Int)) then
        bif decide ((0 : Int) ≤ x2) then
         bif decide (x2 < (↑x0.length : Int)) then
          bif decide ((0 : Int) ≤ (x0.getD x2.toNat dEvent).kind) then
           bif decide ((x0.getD x2.toNat dEvent).kind < (↑(4 : Nat) : Int)) then
            bif decide ((x0.getD x2.toNat dEvent).kind = (↑(0 : Nat) : Int)) then
             bif decide ((0 : Int) ≤ (x0.getD x2.toNat dEvent).kind) then
              bif decide ((x0.getD x2.toNat dEvent).kind < (↑(4 : Nat) : Int)) then
               bif decide ((x0.getD x2.toNat dEvent).kind = (↑(0 : Nat) : Int)) then
                some (Sum.inl (x0, (wrapA IntKind.i64 (x1.fst + (1 : Int)), x1.snd), wrapA IntKind.i64 (x2 + (1 : Int))))
               else
                bif decide ((x0.getD x2.toNat dEvent).kind = (↑((0 : Nat) + (1 : Nat)) : Int)) then
                 some (Sum.inl (x0, (x1.fst, wrapA IntKind.i64 (x1.fst + (1 : Int)), x1.snd.snd), wrapA IntKind.i64 (x2 + (1 : Int))))
                else
                 bif decide ((x0.getD x2.toNat dEvent).kind = (↑((0 : Nat) + (1 : Nat) + (1 : Nat)) : Int)) then
                  some (Sum.inl (x0, (x1.fst, x1.snd.fst, wrapA IntKind.i64 (x1.fst + (1 : Int)), x1.snd.snd.snd), wrapA IntKind.i64 (x2 + (1 : Int))))
                 else
                  bif decide ((x0.getD x2.toNat dEvent).kind = (↑((0 : Nat) + (1 : Nat) + (1 : Nat) + (1 : Nat)) : Int)) then
                   some (Sum.inl (x0, (x1.fst, x1.snd.fst, x1.snd.snd.fst, wrapA IntKind.i64 (x1.fst + (1 : Int))), wrapA IntKind.i64 (x2 + (1 : Int))))
                  else
                   none
              else
               none
             else
              none
            else
             bif decide ((x0.getD x2.toNat dEvent).kind = (↑((0 : Nat) + (1 : Nat)) : Int)) then
              bif decide ((0 : Int) ≤ (x0.getD x2.toNat dEvent).kind) then
               bif decide ((x0.getD x2.toNat dEvent).kind < (↑(4 : Nat) : Int)) then
                bif decide ((x0.getD x2.toNat dEvent).kind = (↑(0 : Nat) : Int)) then
                 some (Sum.inl (x0, (wrapA IntKind.i64 (x1.snd.fst + (1 : Int)), x1.snd), wrapA IntKind.i64 (x2 + (1 : Int))))
                else
                 bif decide ((x0.getD x2.toNat dEvent).kind = (↑((0 : Nat) + (1 : Nat)) : Int)) then
                  some (Sum.inl (x0, (x1.fst, wrapA IntKind.i64 (x1.snd.fst + (1 : Int)), x1.snd.snd), wrapA IntKind.i64 (x2 + (1 : Int))))
                 else
                  bif decide ((x0.getD x2.toNat dEvent).kind = (↑((0 : Nat) + (1 : Nat) + (1 : Nat)) : Int)) then
                   some (Sum.inl (x0, (x1.fst, x1.snd.fst, wrapA IntKind.i64 (x1.snd.fst + (1 : Int)), x1.snd.snd.snd), wrapA IntKind.i64 (x2 + (1 : Int))))
                  else
                   bif decide ((x0.getD x2.toNat dEvent).kind = (↑((0 : Nat) + (1 : Nat) + (1 : Nat) + (1 : Nat)) : Int)) then
                    some (Sum.inl (x0, (x1.fst, x1.snd.fst, x1.snd.snd.fst, wrapA IntKind.i64 (x1.snd.fst + (1 : Int))), wrapA IntKind.i64 (x2 + (1 : Int))))
                   else
                    none
               else
                none
              else
               none
             else
              bif decide ((x0.getD x2.toNat dEvent).kind = (↑((0 : Nat) + (1 : Nat) + (1 : Nat)) : Int)) then
               bif decide ((0 : Int) ≤ (x0.getD x2.toNat dEvent).kind) then
                bif decide ((x0.getD x2.toNat dEvent).kind < (↑(4 : Nat) : Int)) then
                 bif decide ((x0.getD x2.toNat dEvent).kind = (↑(0 : Nat) : Int)) then
                  some (Sum.inl (x0, (wrapA IntKind.i64 (x1.snd.snd.fst + (1 : Int)), x1.snd), wrapA IntKind.i64 (x2 + (1 : Int))))
                 else
                  bif decide ((x0.getD x2.toNat dEvent).kind = (↑((0 : Nat) + (1 : Nat)) : Int)) then
                   some (Sum.inl (x0, (x1.fst, wrapA IntKind.i64 (x1.snd.snd.fst + (1 : Int)), x1.snd.snd), wrapA IntKind.i64 (x2 + (1 : Int))))
                  else
                   bif decide ((x0.getD x2.toNat dEvent).kind = (↑((0 : Nat) + (1 : Nat) + (1 : Nat)) : Int)) then
                    some (Sum.inl (x0, (x1.fst, x1.snd.fst, wrapA IntKind.i64 (x1.snd.snd.fst + (1 : Int)), x1.snd.snd.snd), wrapA IntKind.i64 (x2 + (1 : Int))))
                   else
                    bif decide ((x0.getD x2.toNat dEvent).kind = (↑((0 : Nat) + (1 : Nat) + (1 : Nat) + (1 : Nat)) : Int)) then
                     some (Sum.inl (x0, (x1.fst, x1.snd.fst, x1.snd.snd.fst, wrapA IntKind.i64 (x1.snd.snd.fst + (1 : Int))), wrapA IntKind.i64 (x2 + (1 : Int))))
                    else
                     none
                else
                 none
               else
                none
              else
               bif decide ((x0.getD x2.toNat dEvent).kind = (↑((0 : Nat) + (1 : Nat) + (1 : Nat) + (1 : Nat)) : Int)) then
                bif decide ((0 : Int) ≤ (x0.getD x2.toNat dEvent).kind) then
                 bif decide ((x0.getD x2.toNat dEvent).kind < (↑(4 : Nat) : Int)) then
                  bif decide ((x0.getD x2.toNat dEvent).kind = (↑(0 : Nat) : Int)) then
                   some (Sum.inl (x0, (wrapA IntKind.i64 (x1.snd.snd.snd + (1 : Int)), x1.snd), wrapA IntKind.i64 (x2 + (1 : Int))))
                  else
                   bif decide ((x0.getD x2.toNat dEvent).kind = (↑((0 : Nat) + (1 : Nat)) : Int)) then
                    some (Sum.inl (x0, (x1.fst, wrapA IntKind.i64 (x1.snd.snd.snd + (1 : Int)), x1.snd.snd), wrapA IntKind.i64 (x2 + (1 : Int))))
                   else
                    bif decide ((x0.getD x2.toNat dEvent).kind = (↑((0 : Nat) + (1 : Nat) + (1 : Nat)) : Int)) then
                     some (Sum.inl (x0, (x1.fst, x1.snd.fst, wrapA IntKind.i64 (x1.snd.snd.snd + (1 : Int)), x1.snd.snd.snd), wrapA IntKind.i64 (x2 + (1 : Int))))
                    else
                     bif decide ((x0.getD x2.toNat dEvent).kind = (↑((0 : Nat) + (1 : Nat) + (1 : Nat) + (1 : Nat)) : Int)) then
                      some (Sum.inl (x0, (x1.fst, x1.snd.fst, x1.snd.snd.fst, wrapA IntKind.i64 (x1.snd.snd.snd + (1 : Int))), wrapA IntKind.i64 (x2 + (1 : Int))))
                     else
                      none
                 else
                  none
                else
                 none
               else
                none
           else
            none
          else
           none
         else
          none
        else
         none
       else
        some (Sum.inl (x0, x1, wrapA IntKind.i64 (x2 + (1 : Int))))
      else
       none
     else
      none
    else
     some (Sum.inl (x0, x1, wrapA IntKind.i64 (x2 + (1 : Int))))
   else
    none
  else
   none
 else
  some (Sum.inr x1)
noncomputable def T_ref18_Counts_3 (x : (List Event) × (Int × Int × Int × Int) × Int) : Option (((List Event) × (Int × Int × Int × Int) × Int) ⊕ (((Int × Int × Int × Int)))) := S_ref18_Counts_3 x.1 x.2.1 x.2.2
noncomputable def W_ref18_Counts_3 (x : (List Event) × (Int × Int × Int × Int) × Int) : Option (((Int × Int × Int × Int))) := whileM T_ref18_Counts_3 x
noncomputable def F_ref18_Counts (x0 : List Event) : Option (Int × Int × Int) :=
 match W_ref18_Counts_3 (x0, ((0 : Int), (0 : Int), (0 : Int), (0 : Int)), (0 : Int)) with
 | some y1 =>
  some (y1.snd)
 | none => none
noncomputable def C_ref18_Counts (x : (List Event)) : Option (Int × Int × Int) := F_ref18_Counts x

/- millstream/millstreamref18.own -/
noncomputable def S_ref18_own_3 (x0 : List Mark) (x1 : Int) (x2 : List Mark) (x3 : Int) : Option (((List Mark) × Int × (List Mark) × Int) ⊕ (((List Mark)))) :=
 bif decide (x3 < (↑x0.length : Int)) then
  bif decide ((0 : Int) ≤ x3) then
   bif decide (x3 < (↑x0.length : Int)) then
    bif (x0.getD x3.toNat dMark).t == x1 then
     bif decide ((0 : Int) ≤ x3) then
      bif decide (x3 < (↑x0.length : Int)) then
       bif fewB (x2.length + (x0.getD x3.toNat dMark :: ([] : List Mark)).length) then
        some (Sum.inl (x0, x1, x2 ++ x0.getD x3.toNat dMark :: ([] : List Mark), wrapA IntKind.i64 (x3 + (1 : Int))))
       else
        none
      else
       none
     else
      none
    else
     some (Sum.inl (x0, x1, x2, wrapA IntKind.i64 (x3 + (1 : Int))))
   else
    none
  else
   none
 else
  some (Sum.inr x2)
noncomputable def T_ref18_own_3 (x : (List Mark) × Int × (List Mark) × Int) : Option (((List Mark) × Int × (List Mark) × Int) ⊕ (((List Mark)))) := S_ref18_own_3 x.1 x.2.1 x.2.2.1 x.2.2.2
noncomputable def W_ref18_own_3 (x : (List Mark) × Int × (List Mark) × Int) : Option (((List Mark))) := whileM T_ref18_own_3 x
noncomputable def F_ref18_own (x0 : List Mark) (x1 : Int) : Option ((List Mark)) :=
 match W_ref18_own_3 (x0, x1, ([] : List Mark), (0 : Int)) with
 | some y1 =>
  some (y1)
 | none => none
noncomputable def C_ref18_own (x : (List Mark) × Int) : Option ((List Mark)) := F_ref18_own x.1 x.2

/- millstream/millstreamref18.Answers -/
noncomputable def S_ref18_Answers_4 (x0 : Config) (x1 : List Mark) (x2 : List Event) (x3 : Int) : Option ((Config × (List Mark) × (List Event) × Int) ⊕ (((List Mark) × (List Event)) ⊕ (Bool))) :=
 bif decide (x3 < (↑x2.length : Int)) then
  bif decide ((0 : Int) ≤ x3) then
   bif decide (x3 < (↑x2.length : Int)) then
    bif !((x2.getD x3.toNat dEvent).kind == (1 : Int)) == (x3.tmod (2 : Int) == (0 : Int)) then
     some (Sum.inr (Sum.inr false))
    else
     bif x3.tmod (2 : Int) == (0 : Int) then
      some (Sum.inl (x0, x1, x2, wrapA IntKind.i64 (x3 + (1 : Int))))
     else
      bif decide ((0 : Int) ≤ x3) then
       bif decide (x3 < (↑x2.length : Int)) then
        bif decide ((0 : Int) ≤ x3) then
         bif decide (x3 < (↑x2.length : Int)) then
          match C_ref01_Apply ((x2.getD x3.toNat dEvent).op, (x2.getD x3.toNat dEvent).prior, x0.lo, x0.hi) with
          | some y1 =>
           bif decide (wrapA IntKind.i64 (x3.tdiv (2 : Int)) ≥ (↑x1.length : Int)) then
            some (Sum.inr (Sum.inr false))
           else
            bif decide ((0 : Int) ≤ x3) then
             bif decide (x3 < (↑x2.length : Int)) then
              bif decide ((0 : Int) ≤ wrapA IntKind.i64 (x3 - (1 : Int))) then
               bif decide (wrapA IntKind.i64 (x3 - (1 : Int)) < (↑x2.length : Int)) then
                bif !((x2.getD x3.toNat dEvent).op.tag == (x2.getD (wrapA IntKind.i64 (x3 - (1 : Int))).toNat dEvent).op.tag && ((x2.getD x3.toNat dEvent).op.v == (x2.getD (wrapA IntKind.i64 (x3 - (1 : Int))).toNat dEvent).op.v && true)) then
                 some (Sum.inr (Sum.inr false))
                else
                 bif decide ((0 : Int) ≤ x3) then
                  bif decide (x3 < (↑x2.length : Int)) then
                   bif decide ((0 : Int) ≤ wrapA IntKind.i64 (x3 - (1 : Int))) then
                    bif decide (wrapA IntKind.i64 (x3 - (1 : Int)) < (↑x2.length : Int)) then
                     bif (x2.getD x3.toNat dEvent).item != (x2.getD (wrapA IntKind.i64 (x3 - (1 : Int))).toNat dEvent).item then
                      some (Sum.inr (Sum.inr false))
                     else
                      bif decide ((0 : Int) ≤ wrapA IntKind.i64 (x3.tdiv (2 : Int))) then
                       bif decide (wrapA IntKind.i64 (x3.tdiv (2 : Int)) < (↑x1.length : Int)) then
                        bif decide ((0 : Int) ≤ x3) then
                         bif decide (x3 < (↑x2.length : Int)) then
                          bif !((x1.getD (wrapA IntKind.i64 (x3.tdiv (2 : Int))).toNat dMark).op.tag == (x2.getD x3.toNat dEvent).op.tag && ((x1.getD (wrapA IntKind.i64 (x3.tdiv (2 : Int))).toNat dMark).op.v == (x2.getD x3.toNat dEvent).op.v && true)) then
                           some (Sum.inr (Sum.inr false))
                          else
                           bif decide ((0 : Int) ≤ wrapA IntKind.i64 (x3.tdiv (2 : Int))) then
                            bif decide (wrapA IntKind.i64 (x3.tdiv (2 : Int)) < (↑x1.length : Int)) then
                             bif decide ((0 : Int) ≤ x3) then
                              bif decide (x3 < (↑x2.length : Int)) then
                               bif (x1.getD (wrapA IntKind.i64 (x3.tdiv (2 : Int))).toNat dMark).item != (x2.getD x3.toNat dEvent).item then
                                some (Sum.inr (Sum.inr false))
                               else
                                bif decide ((0 : Int) ≤ wrapA IntKind.i64 (x3.tdiv (2 : Int))) then
                                 bif decide (wrapA IntKind.i64 (x3.tdiv (2 : Int)) < (↑x1.length : Int)) then
                                  bif decide ((0 : Int) ≤ x3) then
                                   bif decide (x3 < (↑x2.length : Int)) then
                                    bif (x1.getD (wrapA IntKind.i64 (x3.tdiv (2 : Int))).toNat dMark).prior != (x2.getD x3.toNat dEvent).prior then
                                     some (Sum.inr (Sum.inr false))
                                    else
                                     bif decide ((0 : Int) ≤ x3) then
                                      bif decide (x3 < (↑x2.length : Int)) then
                                       bif !(x2.getD x3.toNat dEvent).did == y1.snd then
                                        some (Sum.inr (Sum.inr false))
                                       else
                                        bif decide ((0 : Int) ≤ wrapA IntKind.i64 (x3.tdiv (2 : Int))) then
                                         bif decide (wrapA IntKind.i64 (x3.tdiv (2 : Int)) < (↑x1.length : Int)) then
                                          bif decide ((0 : Int) ≤ wrapA IntKind.i64 (x3 - (1 : Int))) then
                                           bif decide (wrapA IntKind.i64 (x3 - (1 : Int)) < (↑x2.length : Int)) then
                                            bif decide ((x1.getD (wrapA IntKind.i64 (x3.tdiv (2 : Int))).toNat dMark).step ≤ (x2.getD (wrapA IntKind.i64 (x3 - (1 : Int))).toNat dEvent).step) then
                                             some (Sum.inr (Sum.inr false))
                                            else
                                             bif decide ((0 : Int) ≤ wrapA IntKind.i64 (x3.tdiv (2 : Int))) then
                                              bif decide (wrapA IntKind.i64 (x3.tdiv (2 : Int)) < (↑x1.length : Int)) then
                                               bif decide ((0 : Int) ≤ x3) then
                                                bif decide (x3 < (↑x2.length : Int)) then
                                                 bif decide ((x1.getD (wrapA IntKind.i64 (x3.tdiv (2 : Int))).toNat dMark).step > (x2.getD x3.toNat dEvent).step) then
                                                  some (Sum.inr (Sum.inr false))
                                                 else
                                                  some (Sum.inl (x0, x1, x2, wrapA IntKind.i64 (x3 + (1 : Int))))
                                                else
                                                 none
                                               else
                                                none
                                              else
                                               none
                                             else
                                              none
                                           else
                                            none
                                          else
                                           none
                                         else
                                          none
                                        else
                                         none
                                      else
                                       none
                                     else
                                      none
                                   else
                                    none
                                  else
                                   none
                                 else
                                  none
                                else
                                 none
                              else
                               none
                             else
                              none
                            else
                             none
                           else
                            none
                         else
                          none
                        else
                         none
                       else
                        none
                      else
                       none
                    else
                     none
                   else
                    none
                  else
                   none
                 else
                  none
               else
                none
              else
               none
             else
              none
            else
             none
          | none => none
         else
          none
        else
         none
       else
        none
      else
       none
   else
    none
  else
   none
 else
  some (Sum.inr (Sum.inl (x1, x2)))
noncomputable def T_ref18_Answers_4 (x : Config × (List Mark) × (List Event) × Int) : Option ((Config × (List Mark) × (List Event) × Int) ⊕ (((List Mark) × (List Event)) ⊕ (Bool))) := S_ref18_Answers_4 x.1 x.2.1 x.2.2.1 x.2.2.2
noncomputable def W_ref18_Answers_4 (x : Config × (List Mark) × (List Event) × Int) : Option (((List Mark) × (List Event)) ⊕ (Bool)) := whileM T_ref18_Answers_4 x
noncomputable def F_ref18_Answers (x0 : Config) (x1 : List Mark) (x2 : List Event) (x3 : Int) : Option (Bool) :=
 match C_ref18_own (x1, x3) with
 | some y1 =>
  match C_ref18_events (x2, x3) with
  | some y2 =>
   match W_ref18_Answers_4 (x0, y1, y2, (0 : Int)) with
   | some (.inl y3) =>
    bif (↑(List.length y3.fst) : Int) == wrapA IntKind.i64 ((↑(List.length y3.snd) : Int).tdiv (2 : Int)) then
     some (true)
    else
     bif (↑(List.length y3.fst) : Int) != wrapA IntKind.i64 (wrapA IntKind.i64 ((↑(List.length y3.snd) : Int).tdiv (2 : Int)) + (1 : Int)) then
      some (false)
     else
      bif (↑(List.length y3.snd) : Int).tmod (2 : Int) == (0 : Int) then
       some (false)
      else
       bif decide ((0 : Int) ≤ wrapA IntKind.i64 ((↑(List.length y3.snd) : Int) - (1 : Int))) then
        bif decide (wrapA IntKind.i64 ((↑(List.length y3.snd) : Int) - (1 : Int)) < (↑(List.length y3.snd) : Int)) then
         bif decide ((0 : Int) ≤ wrapA IntKind.i64 ((↑(List.length y3.snd) : Int).tdiv (2 : Int))) then
          bif decide (wrapA IntKind.i64 ((↑(List.length y3.snd) : Int).tdiv (2 : Int)) < (↑(List.length y3.fst) : Int)) then
           bif (List.getD y3.fst (wrapA IntKind.i64 ((↑(List.length y3.snd) : Int).tdiv (2 : Int))).toNat dMark).op.tag == (List.getD y3.snd (wrapA IntKind.i64 ((↑(List.length y3.snd) : Int) - (1 : Int))).toNat dEvent).op.tag && ((List.getD y3.fst (wrapA IntKind.i64 ((↑(List.length y3.snd) : Int).tdiv (2 : Int))).toNat dMark).op.v == (List.getD y3.snd (wrapA IntKind.i64 ((↑(List.length y3.snd) : Int) - (1 : Int))).toNat dEvent).op.v && true) then
            bif decide ((0 : Int) ≤ wrapA IntKind.i64 ((↑(List.length y3.snd) : Int).tdiv (2 : Int))) then
             bif decide (wrapA IntKind.i64 ((↑(List.length y3.snd) : Int).tdiv (2 : Int)) < (↑(List.length y3.fst) : Int)) then
              bif (List.getD y3.fst (wrapA IntKind.i64 ((↑(List.length y3.snd) : Int).tdiv (2 : Int))).toNat dMark).item == (List.getD y3.snd (wrapA IntKind.i64 ((↑(List.length y3.snd) : Int) - (1 : Int))).toNat dEvent).item then
               bif decide ((0 : Int) ≤ wrapA IntKind.i64 ((↑(List.length y3.snd) : Int).tdiv (2 : Int))) then
                bif decide (wrapA IntKind.i64 ((↑(List.length y3.snd) : Int).tdiv (2 : Int)) < (↑(List.length y3.fst) : Int)) then
                 some (decide ((List.getD y3.fst (wrapA IntKind.i64 ((↑(List.length y3.snd) : Int).tdiv (2 : Int))).toNat dMark).step > (List.getD y3.snd (wrapA IntKind.i64 ((↑(List.length y3.snd) : Int) - (1 : Int))).toNat dEvent).step))
                else
                 none
               else
                none
              else
               some (false)
             else
              none
            else
             none
           else
            some (false)
          else
           none
         else
          none
        else
         none
       else
        none
   | some (.inr y4) =>
    some (y4)
   | none => none
  | none => none
 | none => none
noncomputable def C_ref18_Answers (x : Config × (List Mark) × (List Event) × Int) : Option (Bool) := F_ref18_Answers x.1 x.2.1 x.2.2.1 x.2.2.2

/- millstream/millstreamlaw18.HistoryTells -/
noncomputable def F_law18_HistoryTells (x0 : Config) (x1 : List Mark) (x2 : List Event) (x3 : Int) (x4 : Int) : Option (Bool) :=
 bif decide ((↑x1.length : Int) > (200 : Int)) then
  match C_law18_shown () with
  | some y1 =>
   some (y1)
  | none => none
 else
  bif decide ((↑x2.length : Int) > (200 : Int)) then
   match C_law18_shown () with
   | some y1 =>
    some (y1)
   | none => none
  else
   match C_law18_shown () with
   | some y1 =>
    bif !y1 then
     match C_law18_shown () with
     | some y2 =>
      some (y2)
     | none => none
    else
     match C_law18_theirs (Wld.mk (Config.mk (0 : Int) (0 : Int) (0 : Int) (0 : Int) (0 : Int) (0 : Int) (0 : Int) (0 : Int) false (0 : Int) (0 : Int) (0 : Int)) (Memo.mk ([] : List Int) ([] : List (List Entry))) ([] : List Thread) (0 : Int) (0 : Int) (Tape.mk ([] : List Int) (0 : Int)) x1 x2) with
     | some y2 =>
      match C_history_Replay (x0, x1, x4) with
      | some y3 =>
       match C_ref18_Replay (x0, y2.log, x4) with
       | some y4 =>
        match C_history_Pending (x2, x3) with
        | some y5 =>
         match C_ref18_Pending (y2.hist, x3) with
         | some y6 =>
          match C_history_Counts x2 with
          | some y7 =>
           match C_ref18_Counts y2.hist with
           | some y8 =>
            bif y5.fst.kind == y6.fst.kind then
             bif y5.fst.t == y6.fst.t then
              bif y5.fst.item == y6.fst.item then
               bif y5.fst.op.tag == y6.fst.op.tag && (y5.fst.op.v == y6.fst.op.v && true) then
                bif y5.fst.prior == y6.fst.prior then
                 bif y5.fst.did == y6.fst.did then
                  bif y3.fst == y4.fst then
                   bif y3.snd == y4.snd then
                    match C_history_Answers (x0, x1, x2, x3) with
                    | some y9 =>
                     match C_ref18_Answers (x0, y2.log, y2.hist, x3) with
                     | some y10 =>
                      bif y9 == y10 then
                       bif y5.fst.step == y6.fst.step then
                        bif y5.snd == y6.snd then
                         bif y7.fst == y8.fst then
                          bif y7.snd.fst == y8.snd.fst then
                           some (y7.snd.snd == y8.snd.snd)
                          else
                           some (false)
                         else
                          some (false)
                        else
                         some (false)
                       else
                        some (false)
                      else
                       some (false)
                     | none => none
                    | none => none
                   else
                    some (false)
                  else
                   some (false)
                 else
                  bif y3.fst == y4.fst then
                   bif y3.snd == y4.snd then
                    match C_history_Answers (x0, x1, x2, x3) with
                    | some y9 =>
                     match C_ref18_Answers (x0, y2.log, y2.hist, x3) with
                     | some y10 =>
                      bif y9 == y10 then
                       some (false)
                      else
                       some (false)
                     | none => none
                    | none => none
                   else
                    some (false)
                  else
                   some (false)
                else
                 bif y3.fst == y4.fst then
                  bif y3.snd == y4.snd then
                   match C_history_Answers (x0, x1, x2, x3) with
                   | some y9 =>
                    match C_ref18_Answers (x0, y2.log, y2.hist, x3) with
                    | some y10 =>
                     bif y9 == y10 then
                      some (false)
                     else
                      some (false)
                    | none => none
                   | none => none
                  else
                   some (false)
                 else
                  some (false)
               else
                bif y3.fst == y4.fst then
                 bif y3.snd == y4.snd then
                  match C_history_Answers (x0, x1, x2, x3) with
                  | some y9 =>
                   match C_ref18_Answers (x0, y2.log, y2.hist, x3) with
                   | some y10 =>
                    bif y9 == y10 then
                     some (false)
                    else
                     some (false)
                   | none => none
                  | none => none
                 else
                  some (false)
                else
                 some (false)
              else
               bif y3.fst == y4.fst then
                bif y3.snd == y4.snd then
                 match C_history_Answers (x0, x1, x2, x3) with
                 | some y9 =>
                  match C_ref18_Answers (x0, y2.log, y2.hist, x3) with
                  | some y10 =>
                   bif y9 == y10 then
                    some (false)
                   else
                    some (false)
                  | none => none
                 | none => none
                else
                 some (false)
               else
                some (false)
             else
              bif y3.fst == y4.fst then
               bif y3.snd == y4.snd then
                match C_history_Answers (x0, x1, x2, x3) with
                | some y9 =>
                 match C_ref18_Answers (x0, y2.log, y2.hist, x3) with
                 | some y10 =>
                  bif y9 == y10 then
                   some (false)
                  else
                   some (false)
                 | none => none
                | none => none
               else
                some (false)
              else
               some (false)
            else
             bif y3.fst == y4.fst then
              bif y3.snd == y4.snd then
               match C_history_Answers (x0, x1, x2, x3) with
               | some y9 =>
                match C_ref18_Answers (x0, y2.log, y2.hist, x3) with
                | some y10 =>
                 bif y9 == y10 then
                  some (false)
                 else
                  some (false)
                | none => none
               | none => none
              else
               some (false)
             else
              some (false)
           | none => none
          | none => none
         | none => none
        | none => none
       | none => none
      | none => none
     | none => none
   | none => none
noncomputable def C_law18_HistoryTells (x : Config × (List Mark) × (List Event) × Int × Int) : Option (Bool) := F_law18_HistoryTells x.1 x.2.1 x.2.2.1 x.2.2.2.1 x.2.2.2.2

/- millstream/millstreamlaw18.HistoryRefused -/
noncomputable def F_law18_HistoryRefused (x0 : Config) (x1 : List Mark) (x2 : List Event) (x3 : Int) (x4 : Event) (x5 : Int) : Option (Bool) :=
 bif decide ((↑x1.length : Int) > (100 : Int)) then
  match C_law18_shown () with
  | some y1 =>
   some (y1)
  | none => none
 else
  bif decide ((↑x2.length : Int) > (100 : Int)) then
   match C_law18_shown () with
   | some y1 =>
    some (y1)
   | none => none
  else
   match C_law18_shown () with
   | some y1 =>
    bif !y1 then
     match C_law18_shown () with
     | some y2 =>
      some (y2)
     | none => none
    else
     bif x4.t == x3 then
      bif decide (wrapA IntKind.i64 ((↑x2.length : Int) + (1 : Int)) = (0 : Int)) then
       none
      else
       bif decide ((0 : Int) ≤ (IntKind.i64.wrap x5).tmod (wrapA IntKind.i64 ((↑x2.length : Int) + (1 : Int)))) then
        bif decide ((IntKind.i64.wrap x5).tmod (wrapA IntKind.i64 ((↑x2.length : Int) + (1 : Int))) ≤ (↑x2.length : Int)) then
         bif fewB ((0 : Nat) + (List.drop (Int.toNat (0 : Int)) (List.take ((IntKind.i64.wrap x5).tmod (wrapA IntKind.i64 ((↑x2.length : Int) + (1 : Int)))).toNat x2)).length) then
          bif fewB ((List.drop (Int.toNat (0 : Int)) (List.take ((IntKind.i64.wrap x5).tmod (wrapA IntKind.i64 ((↑x2.length : Int) + (1 : Int)))).toNat x2)).length + ({ x4 with kind := (3 : Int) } :: ([] : List Event)).length) then
           bif decide ((0 : Int) ≤ (IntKind.i64.wrap x5).tmod (wrapA IntKind.i64 ((↑x2.length : Int) + (1 : Int)))) then
            bif decide ((IntKind.i64.wrap x5).tmod (wrapA IntKind.i64 ((↑x2.length : Int) + (1 : Int))) ≤ (↑x2.length : Int)) then
             bif decide ((↑x2.length : Int) ≤ (↑x2.length : Int)) then
              bif fewB ((List.drop (Int.toNat (0 : Int)) (List.take ((IntKind.i64.wrap x5).tmod (wrapA IntKind.i64 ((↑x2.length : Int) + (1 : Int)))).toNat x2) ++ { x4 with kind := (3 : Int) } :: ([] : List Event)).length + (List.drop ((IntKind.i64.wrap x5).tmod (wrapA IntKind.i64 ((↑x2.length : Int) + (1 : Int)))).toNat (List.take (↑x2.length : Int).toNat x2)).length) then
               match C_history_Pending (x2, x3) with
               | some y2 =>
                match C_history_Pending (List.drop (Int.toNat (0 : Int)) (List.take ((IntKind.i64.wrap x5).tmod (wrapA IntKind.i64 ((↑x2.length : Int) + (1 : Int)))).toNat x2) ++ { x4 with kind := (3 : Int) } :: ([] : List Event) ++ List.drop ((IntKind.i64.wrap x5).tmod (wrapA IntKind.i64 ((↑x2.length : Int) + (1 : Int)))).toNat (List.take (↑x2.length : Int).toNat x2), x3) with
                | some y3 =>
                 match C_history_Answers (x0, x1, x2, x3) with
                 | some y4 =>
                  match C_history_Answers (x0, x1, List.drop (Int.toNat (0 : Int)) (List.take ((IntKind.i64.wrap x5).tmod (wrapA IntKind.i64 ((↑x2.length : Int) + (1 : Int)))).toNat x2) ++ { x4 with kind := (3 : Int) } :: ([] : List Event) ++ List.drop ((IntKind.i64.wrap x5).tmod (wrapA IntKind.i64 ((↑x2.length : Int) + (1 : Int)))).toNat (List.take (↑x2.length : Int).toNat x2), x3) with
                  | some y5 =>
                   bif y4 == y5 then
                    bif y2.fst.kind == y3.fst.kind && (y2.fst.t == y3.fst.t && (y2.fst.item == y3.fst.item && (y2.fst.op.tag == y3.fst.op.tag && (y2.fst.op.v == y3.fst.op.v && true) && (y2.fst.prior == y3.fst.prior && (y2.fst.did == y3.fst.did && (y2.fst.step == y3.fst.step && true)))))) then
                     some (y2.snd == y3.snd)
                    else
                     some (false)
                   else
                    some (false)
                  | none => none
                 | none => none
                | none => none
               | none => none
              else
               none
             else
              none
            else
             none
           else
            none
          else
           none
         else
          none
        else
         none
       else
        none
     else
      bif decide (wrapA IntKind.i64 ((↑x2.length : Int) + (1 : Int)) = (0 : Int)) then
       none
      else
       bif decide ((0 : Int) ≤ (IntKind.i64.wrap x5).tmod (wrapA IntKind.i64 ((↑x2.length : Int) + (1 : Int)))) then
        bif decide ((IntKind.i64.wrap x5).tmod (wrapA IntKind.i64 ((↑x2.length : Int) + (1 : Int))) ≤ (↑x2.length : Int)) then
         bif fewB ((0 : Nat) + (List.drop (Int.toNat (0 : Int)) (List.take ((IntKind.i64.wrap x5).tmod (wrapA IntKind.i64 ((↑x2.length : Int) + (1 : Int)))).toNat x2)).length) then
          bif fewB ((List.drop (Int.toNat (0 : Int)) (List.take ((IntKind.i64.wrap x5).tmod (wrapA IntKind.i64 ((↑x2.length : Int) + (1 : Int)))).toNat x2)).length + (x4 :: ([] : List Event)).length) then
           bif decide ((0 : Int) ≤ (IntKind.i64.wrap x5).tmod (wrapA IntKind.i64 ((↑x2.length : Int) + (1 : Int)))) then
            bif decide ((IntKind.i64.wrap x5).tmod (wrapA IntKind.i64 ((↑x2.length : Int) + (1 : Int))) ≤ (↑x2.length : Int)) then
             bif decide ((↑x2.length : Int) ≤ (↑x2.length : Int)) then
              bif fewB ((List.drop (Int.toNat (0 : Int)) (List.take ((IntKind.i64.wrap x5).tmod (wrapA IntKind.i64 ((↑x2.length : Int) + (1 : Int)))).toNat x2) ++ x4 :: ([] : List Event)).length + (List.drop ((IntKind.i64.wrap x5).tmod (wrapA IntKind.i64 ((↑x2.length : Int) + (1 : Int)))).toNat (List.take (↑x2.length : Int).toNat x2)).length) then
               match C_history_Pending (x2, x3) with
               | some y2 =>
                match C_history_Pending (List.drop (Int.toNat (0 : Int)) (List.take ((IntKind.i64.wrap x5).tmod (wrapA IntKind.i64 ((↑x2.length : Int) + (1 : Int)))).toNat x2) ++ x4 :: ([] : List Event) ++ List.drop ((IntKind.i64.wrap x5).tmod (wrapA IntKind.i64 ((↑x2.length : Int) + (1 : Int)))).toNat (List.take (↑x2.length : Int).toNat x2), x3) with
                | some y3 =>
                 match C_history_Answers (x0, x1, x2, x3) with
                 | some y4 =>
                  match C_history_Answers (x0, x1, List.drop (Int.toNat (0 : Int)) (List.take ((IntKind.i64.wrap x5).tmod (wrapA IntKind.i64 ((↑x2.length : Int) + (1 : Int)))).toNat x2) ++ x4 :: ([] : List Event) ++ List.drop ((IntKind.i64.wrap x5).tmod (wrapA IntKind.i64 ((↑x2.length : Int) + (1 : Int)))).toNat (List.take (↑x2.length : Int).toNat x2), x3) with
                  | some y5 =>
                   bif y4 == y5 then
                    bif y2.fst.kind == y3.fst.kind && (y2.fst.t == y3.fst.t && (y2.fst.item == y3.fst.item && (y2.fst.op.tag == y3.fst.op.tag && (y2.fst.op.v == y3.fst.op.v && true) && (y2.fst.prior == y3.fst.prior && (y2.fst.did == y3.fst.did && (y2.fst.step == y3.fst.step && true)))))) then
                     some (y2.snd == y3.snd)
                    else
                     some (false)
                   else
                    some (false)
                  | none => none
                 | none => none
                | none => none
               | none => none
              else
               none
             else
              none
            else
             none
           else
            none
          else
           none
         else
          none
        else
         none
       else
        none
   | none => none
noncomputable def C_law18_HistoryRefused (x : Config × (List Mark) × (List Event) × Int × Event × Int) : Option (Bool) := F_law18_HistoryRefused x.1 x.2.1 x.2.2.1 x.2.2.2.1 x.2.2.2.2.1 x.2.2.2.2.2

/- millstream/millstreamlaw18.HistoryParts -/
noncomputable def S_law18_HistoryParts_10 (x0 : List Mark) (x1 : Int) (x2 : Config) (x3 : Int) (x4 : Bool) (x5 : Int) (x6 : Bool) (x7 : Int) (x8 : Bool) (x9 : List Mark) (x10 : Int) : Option (((List Mark) × Int × Config × Int × Bool × Int × Bool × Int × Bool × (List Mark) × Int) ⊕ ((Int × Config × Int × Bool × Int × Bool × Int × Bool × (List Mark)))) :=
 bif decide (x10 < (↑x0.length : Int)) then
  bif decide ((0 : Int) ≤ x10) then
   bif decide (x10 < (↑x0.length : Int)) then
    bif (x0.getD x10.toNat dMark).item == x1 then
     bif decide ((0 : Int) ≤ x10) then
      bif decide (x10 < (↑x0.length : Int)) then
       bif fewB (x9.length + (x0.getD x10.toNat dMark :: ([] : List Mark)).length) then
        some (Sum.inl (x0, x1, x2, x3, x4, x5, x6, x7, x8, x9 ++ x0.getD x10.toNat dMark :: ([] : List Mark), wrapA IntKind.i64 (x10 + (1 : Int))))
       else
        none
      else
       none
     else
      none
    else
     some (Sum.inl (x0, x1, x2, x3, x4, x5, x6, x7, x8, x9, wrapA IntKind.i64 (x10 + (1 : Int))))
   else
    none
  else
   none
 else
  some (Sum.inr (x1, x2, x3, x4, x5, x6, x7, x8, x9))
noncomputable def T_law18_HistoryParts_10 (x : (List Mark) × Int × Config × Int × Bool × Int × Bool × Int × Bool × (List Mark) × Int) : Option (((List Mark) × Int × Config × Int × Bool × Int × Bool × Int × Bool × (List Mark) × Int) ⊕ ((Int × Config × Int × Bool × Int × Bool × Int × Bool × (List Mark)))) := S_law18_HistoryParts_10 x.1 x.2.1 x.2.2.1 x.2.2.2.1 x.2.2.2.2.1 x.2.2.2.2.2.1 x.2.2.2.2.2.2.1 x.2.2.2.2.2.2.2.1 x.2.2.2.2.2.2.2.2.1 x.2.2.2.2.2.2.2.2.2.1 x.2.2.2.2.2.2.2.2.2.2
noncomputable def W_law18_HistoryParts_10 (x : (List Mark) × Int × Config × Int × Bool × Int × Bool × Int × Bool × (List Mark) × Int) : Option ((Int × Config × Int × Bool × Int × Bool × Int × Bool × (List Mark))) := whileM T_law18_HistoryParts_10 x
noncomputable def F_law18_HistoryParts (x0 : Config) (x1 : List Mark) (x2 : List Mark) (x3 : Int) : Option (Bool) :=
 bif decide ((↑x1.length : Int) > (100 : Int)) then
  match C_law18_shown () with
  | some y1 =>
   some (y1)
  | none => none
 else
  bif decide ((↑x2.length : Int) > (100 : Int)) then
   match C_law18_shown () with
   | some y1 =>
    some (y1)
   | none => none
  else
   match C_law18_shown () with
   | some y1 =>
    bif !y1 then
     match C_law18_shown () with
     | some y2 =>
      some (y2)
     | none => none
    else
     match C_history_Replay (x0, x1, x3) with
     | some y2 =>
      match C_history_Replay ({ x0 with init := y2.fst }, x2, x3) with
      | some y3 =>
       bif fewB ((0 : Nat) + x1.length) then
        bif fewB (x1.length + x2.length) then
         match C_history_Replay (x0, x1 ++ x2, x3) with
         | some y4 =>
          match W_law18_HistoryParts_10 (x1, x3, x0, y2.fst, y2.snd, y3.fst, y3.snd, y4.fst, y4.snd, ([] : List Mark), (0 : Int)) with
          | some y5 =>
           match C_history_Replay (y5.snd.fst, y5.snd.snd.snd.snd.snd.snd.snd.snd, y5.fst) with
           | some y6 =>
            bif y5.snd.snd.snd.snd.fst == y5.snd.snd.snd.snd.snd.snd.fst then
             bif y5.snd.snd.snd.fst then
              bif y5.snd.snd.snd.snd.snd.snd.snd.fst == y5.snd.snd.snd.snd.snd.fst then
               bif y6.fst == y5.snd.snd.fst then
                some (y6.snd == y5.snd.snd.snd.fst)
               else
                some (false)
              else
               some (false)
             else
              bif y5.snd.snd.snd.snd.snd.snd.snd.fst == false then
               bif y6.fst == y5.snd.snd.fst then
                some (y6.snd == y5.snd.snd.snd.fst)
               else
                some (false)
              else
               some (false)
            else
             some (false)
           | none => none
          | none => none
         | none => none
        else
         none
       else
        none
      | none => none
     | none => none
   | none => none
noncomputable def C_law18_HistoryParts (x : Config × (List Mark) × (List Mark) × Int) : Option (Bool) := F_law18_HistoryParts x.1 x.2.1 x.2.2.1 x.2.2.2

/- millstream/millstreamlaw18.heap -/
noncomputable def S_law18_heap_7 (x0 : Wld) (x1 : Int) : Option ((Wld × Int) ⊕ ((Wld) ⊕ (Bool))) :=
 bif decide (x1 < (↑x0.t.length : Int)) then
  bif decide (x1 < (20 : Int)) then
   bif decide ((0 : Int) ≤ x1) then
    bif decide (x1 < (↑x0.t.length : Int)) then
     bif decide ((↑(x0.t.getD x1.toNat dThread).batch.length : Int) > (20 : Int)) then
      some (Sum.inr (Sum.inr true))
     else
      bif decide ((0 : Int) ≤ x1) then
       bif decide (x1 < (↑x0.t.length : Int)) then
        bif decide ((↑(x0.t.getD x1.toNat dThread).kids.length : Int) > (20 : Int)) then
         some (Sum.inr (Sum.inr true))
        else
         bif decide ((0 : Int) ≤ x1) then
          bif decide (x1 < (↑x0.t.length : Int)) then
           bif decide ((↑(x0.t.getD x1.toNat dThread).held.length : Int) > (20 : Int)) then
            some (Sum.inr (Sum.inr true))
           else
            some (Sum.inl (x0, wrapA IntKind.i64 (x1 + (1 : Int))))
          else
           none
         else
          none
       else
        none
      else
       none
    else
     none
   else
    none
  else
   some (Sum.inr (Sum.inl x0))
 else
  some (Sum.inr (Sum.inl x0))
noncomputable def T_law18_heap_7 (x : Wld × Int) : Option ((Wld × Int) ⊕ ((Wld) ⊕ (Bool))) := S_law18_heap_7 x.1 x.2
noncomputable def W_law18_heap_7 (x : Wld × Int) : Option ((Wld) ⊕ (Bool)) := whileM T_law18_heap_7 x
noncomputable def S_law18_heap_2 (x0 : Wld) (x1 : Int) : Option ((Wld × Int) ⊕ ((Wld) ⊕ (Bool))) :=
 bif decide (x1 < (↑x0.m.boxes.length : Int)) then
  bif decide (x1 < (20 : Int)) then
   bif decide ((0 : Int) ≤ x1) then
    bif decide (x1 < (↑x0.m.boxes.length : Int)) then
     bif decide ((↑(List.length (x0.m.boxes.getD x1.toNat ([] : List Entry))) : Int) > (20 : Int)) then
      some (Sum.inr (Sum.inr true))
     else
      some (Sum.inl (x0, wrapA IntKind.i64 (x1 + (1 : Int))))
    else
     none
   else
    none
  else
   some (Sum.inr (Sum.inl x0))
 else
  some (Sum.inr (Sum.inl x0))
noncomputable def T_law18_heap_2 (x : Wld × Int) : Option ((Wld × Int) ⊕ ((Wld) ⊕ (Bool))) := S_law18_heap_2 x.1 x.2
noncomputable def W_law18_heap_2 (x : Wld × Int) : Option ((Wld) ⊕ (Bool)) := whileM T_law18_heap_2 x
noncomputable def F_law18_heap (x0 : Wld) : Option (Bool) :=
 match W_law18_heap_2 (x0, (0 : Int)) with
 | some (.inl y1) =>
  match W_law18_heap_7 (y1, (0 : Int)) with
  | some (.inl y2) =>
   bif decide ((↑y2.m.words.length : Int) > (400 : Int)) then
    some (true)
   else
    bif decide ((↑y2.m.boxes.length : Int) > (16 : Int)) then
     some (true)
    else
     bif decide ((↑y2.t.length : Int) > (16 : Int)) then
      some (true)
     else
      bif decide ((↑y2.log.length : Int) > (300 : Int)) then
       some (true)
      else
       bif decide ((↑y2.hist.length : Int) > (300 : Int)) then
        some (true)
       else
        some (decide ((↑y2.tape.l.length : Int) > (200 : Int)))
  | some (.inr y3) =>
   some (y3)
  | none => none
 | some (.inr y2) =>
  some (y2)
 | none => none
noncomputable def C_law18_heap (x : Wld) : Option (Bool) := F_law18_heap x

/- millstream/wmem.at[int] -/
noncomputable def F_wmem_at_int (x0 : List Int) (x1 : Int) : Option (Int × Int) :=
 bif decide (x1 < (0 : Int)) then
  some (((0 : Int), (30 : Int)))
 else
  bif decide (x1 ≥ (↑x0.length : Int)) then
   some (((0 : Int), (30 : Int)))
  else
   bif decide ((0 : Int) ≤ x1) then
    bif decide (x1 < (↑x0.length : Int)) then
     some ((x0.getD x1.toNat (0 : Int), (0 : Int)))
    else
     none
   else
    none
noncomputable def C_wmem_at_int (x : (List Int) × Int) : Option (Int × Int) := F_wmem_at_int x.1 x.2

/- millstream/wmem.Load -/
noncomputable def F_wmem_Load (x0 : Memo) (x1 : Int) : Option (Int × Int) :=
 match C_wmem_at_int (x0.words, x1) with
 | some y1 =>
  some (y1)
 | none => none
noncomputable def C_wmem_Load (x : Memo × Int) : Option (Int × Int) := F_wmem_Load x.1 x.2

/- millstream/arena.Nodes -/
noncomputable def F_arena_Nodes (x0 : Config) : Option (Int) :=
 bif decide (x0.depth < (0 : Int)) then
  none
 else
  some (wrapA IntKind.i64 (wrapA IntKind.i64 ((1 : Int) * (2 : Int) ^ min x0.depth.toNat IntKind.i64.bits) - (1 : Int)))
noncomputable def C_arena_Nodes (x : Config) : Option (Int) := F_arena_Nodes x

/- millstream/arena.of -/
noncomputable def F_arena_of (x0 : Config) : Option (Plan) :=
 match C_arena_Nodes x0 with
 | some y1 =>
  some (Plan.mk (1 : Int) (wrapA IntKind.i64 ((1 : Int) + y1)) (wrapA IntKind.i64 (wrapA IntKind.i64 ((1 : Int) + y1) + wrapA IntKind.i64 (x0.layers * x0.width))) (wrapA IntKind.i64 (x0.items * wrapA IntKind.i64 (wrapA IntKind.i64 ((1 : Int) + y1) + wrapA IntKind.i64 (x0.layers * x0.width)))))
 | none => none
noncomputable def C_arena_of (x : Config) : Option (Plan) := F_arena_of x

/- millstream/arena.Cell -/
noncomputable def F_arena_Cell (x0 : Config) (x1 : Int) : Option (Int) :=
 bif decide (x1 < (0 : Int)) then
  some ((-1 : Int))
 else
  bif decide (x1 ≥ x0.items) then
   some ((-1 : Int))
  else
   match C_arena_of x0 with
   | some y1 =>
    some (wrapA IntKind.i64 (x1 * y1.block))
   | none => none
noncomputable def C_arena_Cell (x : Config × Int) : Option (Int) := F_arena_Cell x.1 x.2

/- millstream/config.Check -/
noncomputable def S_config_Check_2 (x0 : Config) (x1 : Int × Int × Int × Int × Int × Int × Int × Int × Int × Int × Int × Int × Int × Int × Int × Int × Int × Int × Int × Int × Int × Int × Int × Int) (x2 : Int) : Option ((Config × (Int × Int × Int × Int × Int × Int × Int × Int × Int × Int × Int × Int × Int × Int × Int × Int × Int × Int × Int × Int × Int × Int × Int × Int) × Int) ⊕ ((Config) ⊕ (Int))) :=
 bif decide (x2 < (8 : Int)) then
  bif decide ((0 : Int) ≤ x2) then
   bif decide (x2 < (↑(8 : Nat) : Int)) then
    bif decide (x2 = (↑(0 : Nat) : Int)) then
     bif decide (x1.fst < x1.snd.fst) then
      some (Sum.inr (Sum.inr (wrapA IntKind.i64 ((50 : Int) + x2))))
     else
      bif decide (x1.fst > x1.snd.snd.fst) then
       some (Sum.inr (Sum.inr (wrapA IntKind.i64 ((50 : Int) + x2))))
      else
       some (Sum.inl (x0, x1, wrapA IntKind.i64 (x2 + (1 : Int))))
    else
     bif decide (x2 = (↑((0 : Nat) + (1 : Nat)) : Int)) then
      bif decide (x1.snd.snd.snd.fst < x1.snd.snd.snd.snd.fst) then
       some (Sum.inr (Sum.inr (wrapA IntKind.i64 ((50 : Int) + x2))))
      else
       bif decide (x1.snd.snd.snd.fst > x1.snd.snd.snd.snd.snd.fst) then
        some (Sum.inr (Sum.inr (wrapA IntKind.i64 ((50 : Int) + x2))))
       else
        some (Sum.inl (x0, x1, wrapA IntKind.i64 (x2 + (1 : Int))))
     else
      bif decide (x2 = (↑((0 : Nat) + (1 : Nat) + (1 : Nat)) : Int)) then
       bif decide (x1.snd.snd.snd.snd.snd.snd.fst < x1.snd.snd.snd.snd.snd.snd.snd.fst) then
        some (Sum.inr (Sum.inr (wrapA IntKind.i64 ((50 : Int) + x2))))
       else
        bif decide (x1.snd.snd.snd.snd.snd.snd.fst > x1.snd.snd.snd.snd.snd.snd.snd.snd.fst) then
         some (Sum.inr (Sum.inr (wrapA IntKind.i64 ((50 : Int) + x2))))
        else
         some (Sum.inl (x0, x1, wrapA IntKind.i64 (x2 + (1 : Int))))
      else
       bif decide (x2 = (↑((0 : Nat) + (1 : Nat) + (1 : Nat) + (1 : Nat)) : Int)) then
        bif decide (x1.snd.snd.snd.snd.snd.snd.snd.snd.snd.fst < x1.snd.snd.snd.snd.snd.snd.snd.snd.snd.snd.fst) then
         some (Sum.inr (Sum.inr (wrapA IntKind.i64 ((50 : Int) + x2))))
        else
         bif decide (x1.snd.snd.snd.snd.snd.snd.snd.snd.snd.fst > x1.snd.snd.snd.snd.snd.snd.snd.snd.snd.snd.snd.fst) then
          some (Sum.inr (Sum.inr (wrapA IntKind.i64 ((50 : Int) + x2))))
         else
          some (Sum.inl (x0, x1, wrapA IntKind.i64 (x2 + (1 : Int))))
       else
        bif decide (x2 = (↑((0 : Nat) + (1 : Nat) + (1 : Nat) + (1 : Nat) + (1 : Nat)) : Int)) then
         bif decide (x1.snd.snd.snd.snd.snd.snd.snd.snd.snd.snd.snd.snd.fst < x1.snd.snd.snd.snd.snd.snd.snd.snd.snd.snd.snd.snd.snd.fst) then
          some (Sum.inr (Sum.inr (wrapA IntKind.i64 ((50 : Int) + x2))))
         else
          bif decide (x1.snd.snd.snd.snd.snd.snd.snd.snd.snd.snd.snd.snd.fst > x1.snd.snd.snd.snd.snd.snd.snd.snd.snd.snd.snd.snd.snd.snd.fst) then
           some (Sum.inr (Sum.inr (wrapA IntKind.i64 ((50 : Int) + x2))))
          else
           some (Sum.inl (x0, x1, wrapA IntKind.i64 (x2 + (1 : Int))))
        else
         bif decide (x2 = (↑((0 : Nat) + (1 : Nat) + (1 : Nat) + (1 : Nat) + (1 : Nat) + (1 : Nat)) : Int)) then
          bif decide (x1.snd.snd.snd.snd.snd.snd.snd.snd.snd.snd.snd.snd.snd.snd.snd.fst < x1.snd.snd.snd.snd.snd.snd.snd.snd.snd.snd.snd.snd.snd.snd.snd.snd.fst) then
           some (Sum.inr (Sum.inr (wrapA IntKind.i64 ((50 : Int) + x2))))
          else
           bif decide (x1.snd.snd.snd.snd.snd.snd.snd.snd.snd.snd.snd.snd.snd.snd.snd.fst > x1.snd.snd.snd.snd.snd.snd.snd.snd.snd.snd.snd.snd.snd.snd.snd.snd.snd.fst) then
            some (Sum.inr (Sum.inr (wrapA IntKind.i64 ((50 : Int) + x2))))
           else
            some (Sum.inl (x0, x1, wrapA IntKind.i64 (x2 + (1 : Int))))
         else
          bif decide (x2 = (↑((0 : Nat) + (1 : Nat) + (1 : Nat) + (1 : Nat) + (1 : Nat) + (1 : Nat) + (1 : Nat)) : Int)) then
           bif decide (x1.snd.snd.snd.snd.snd.snd.snd.snd.snd.snd.snd.snd.snd.snd.snd.snd.snd.snd.fst < x1.snd.snd.snd.snd.snd.snd.snd.snd.snd.snd.snd.snd.snd.snd.snd.snd.snd.snd.snd.fst) then
            some (Sum.inr (Sum.inr (wrapA IntKind.i64 ((50 : Int) + x2))))
           else
            bif decide (x1.snd.snd.snd.snd.snd.snd.snd.snd.snd.snd.snd.snd.snd.snd.snd.snd.snd.snd.fst > x1.snd.snd.snd.snd.snd.snd.snd.snd.snd.snd.snd.snd.snd.snd.snd.snd.snd.snd.snd.snd.fst) then
             some (Sum.inr (Sum.inr (wrapA IntKind.i64 ((50 : Int) + x2))))
            else
             some (Sum.inl (x0, x1, wrapA IntKind.i64 (x2 + (1 : Int))))
          else
           bif decide (x2 = (↑((0 : Nat) + (1 : Nat) + (1 : Nat) + (1 : Nat) + (1 : Nat) + (1 : Nat) + (1 : Nat) + (1 : Nat)) : Int)) then
            bif decide (x1.snd.snd.snd.snd.snd.snd.snd.snd.snd.snd.snd.snd.snd.snd.snd.snd.snd.snd.snd.snd.snd.fst < x1.snd.snd.snd.snd.snd.snd.snd.snd.snd.snd.snd.snd.snd.snd.snd.snd.snd.snd.snd.snd.snd.snd.fst) then
             some (Sum.inr (Sum.inr (wrapA IntKind.i64 ((50 : Int) + x2))))
            else
             bif decide (x1.snd.snd.snd.snd.snd.snd.snd.snd.snd.snd.snd.snd.snd.snd.snd.snd.snd.snd.snd.snd.snd.fst > x1.snd.snd.snd.snd.snd.snd.snd.snd.snd.snd.snd.snd.snd.snd.snd.snd.snd.snd.snd.snd.snd.snd.snd) then
              some (Sum.inr (Sum.inr (wrapA IntKind.i64 ((50 : Int) + x2))))
             else
              some (Sum.inl (x0, x1, wrapA IntKind.i64 (x2 + (1 : Int))))
           else
            none
   else
    none
  else
   none
 else
  some (Sum.inr (Sum.inl x0))
noncomputable def T_config_Check_2 (x : Config × (Int × Int × Int × Int × Int × Int × Int × Int × Int × Int × Int × Int × Int × Int × Int × Int × Int × Int × Int × Int × Int × Int × Int × Int) × Int) : Option ((Config × (Int × Int × Int × Int × Int × Int × Int × Int × Int × Int × Int × Int × Int × Int × Int × Int × Int × Int × Int × Int × Int × Int × Int × Int) × Int) ⊕ ((Config) ⊕ (Int))) := S_config_Check_2 x.1 x.2.1 x.2.2
noncomputable def W_config_Check_2 (x : Config × (Int × Int × Int × Int × Int × Int × Int × Int × Int × Int × Int × Int × Int × Int × Int × Int × Int × Int × Int × Int × Int × Int × Int × Int) × Int) : Option ((Config) ⊕ (Int)) := whileM T_config_Check_2 x
noncomputable def F_config_Check (x0 : Config) : Option (Int) :=
 match W_config_Check_2 (x0, (x0.threads, (1 : Int), (16 : Int), x0.items, (1 : Int), (4 : Int), x0.backend, (1 : Int), (3 : Int), x0.depth, (0 : Int), (4 : Int), x0.layers, (0 : Int), (3 : Int), x0.width, (1 : Int), (8 : Int), x0.spin, (0 : Int), (20 : Int), x0.wait, (0 : Int), (1000 : Int)), (0 : Int)) with
 | some (.inl y1) =>
  bif y1.bounded then
   bif decide (y1.init < y1.lo) then
    some ((58 : Int))
   else
    bif decide (y1.hi < y1.init) then
     some ((58 : Int))
    else
     some ((0 : Int))
  else
   some ((0 : Int))
 | some (.inr y2) =>
  some (y2)
 | none => none
noncomputable def C_config_Check (x : Config) : Option (Int) := F_config_Check x

/- millstream/history.order -/
noncomputable def F_history_order (x0 : Int) (x1 : Int) : Option (Int) :=
 bif decide (x0 < x1) then
  some ((-1 : Int))
 else
  bif decide (x0 > x1) then
   some ((1 : Int))
  else
   some ((0 : Int))
noncomputable def C_history_order (x : Int × Int) : Option (Int) := F_history_order x.1 x.2

/- slices.IsSortedFunc[[]millstream/thread.Mark,millstream/thread.Mark] -/
noncomputable def S_slices_IsSortedFunc_thread_Mark_2 (x0 : List Mark) (x1 : Unit) (x2 : Int) : Option (((List Mark) × Unit × Int) ⊕ ((Unit) ⊕ (Bool))) :=
 bif decide (x2 > (0 : Int)) then
  bif decide ((0 : Int) ≤ x2) then
   bif decide (x2 < (↑x0.length : Int)) then
    bif decide ((0 : Int) ≤ wrapA IntKind.i64 (x2 - (1 : Int))) then
     bif decide (wrapA IntKind.i64 (x2 - (1 : Int)) < (↑x0.length : Int)) then
      match C_history_order ((x0.getD x2.toNat dMark).step, (x0.getD (wrapA IntKind.i64 (x2 - (1 : Int))).toNat dMark).step) with
      | some y1 =>
       bif decide (y1 < (0 : Int)) then
        some (Sum.inr (Sum.inr false))
       else
        some (Sum.inl (x0, (), wrapA IntKind.i64 (x2 - (1 : Int))))
      | none => none
     else
      none
    else
     none
   else
    none
  else
   none
 else
  some (Sum.inr (Sum.inl ()))
noncomputable def T_slices_IsSortedFunc_thread_Mark_2 (x : (List Mark) × Unit × Int) : Option (((List Mark) × Unit × Int) ⊕ ((Unit) ⊕ (Bool))) := S_slices_IsSortedFunc_thread_Mark_2 x.1 x.2.1 x.2.2
noncomputable def W_slices_IsSortedFunc_thread_Mark_2 (x : (List Mark) × Unit × Int) : Option ((Unit) ⊕ (Bool)) := whileM T_slices_IsSortedFunc_thread_Mark_2 x
noncomputable def F_slices_IsSortedFunc_thread_Mark (x0 : List Mark) (x1 : Unit) : Option (Bool) :=
 match W_slices_IsSortedFunc_thread_Mark_2 (x0, (), wrapA IntKind.i64 ((↑x0.length : Int) - (1 : Int))) with
 | some (.inl y1) =>
  some (true)
 | some (.inr y2) =>
  some (y2)
 | none => none
noncomputable def C_slices_IsSortedFunc_thread_Mark (x : (List Mark) × Unit) : Option (Bool) := F_slices_IsSortedFunc_thread_Mark x.1 x.2

/- millstream/history.Linear -/
noncomputable def S_history_Linear_12 (x0 : Wld) (x1 : Int) (x2 : Int) : Option ((Wld × Int × Int) ⊕ ((Unit) ⊕ (Bool))) :=
 bif decide (x2 < x1) then
  match C_history_Answers (x0.c, x0.log, x0.hist, x2) with
  | some y1 =>
   bif !y1 then
    some (Sum.inr (Sum.inr false))
   else
    some (Sum.inl (x0, x1, wrapA IntKind.i64 (x2 + (1 : Int))))
  | none => none
 else
  some (Sum.inr (Sum.inl ()))
noncomputable def T_history_Linear_12 (x : Wld × Int × Int) : Option ((Wld × Int × Int) ⊕ ((Unit) ⊕ (Bool))) := S_history_Linear_12 x.1 x.2.1 x.2.2
noncomputable def W_history_Linear_12 (x : Wld × Int × Int) : Option ((Unit) ⊕ (Bool)) := whileM T_history_Linear_12 x
noncomputable def S_history_Linear_4 (x0 : Wld) (x1 : Int) (x2 : Int) : Option ((Wld × Int × Int) ⊕ ((Wld) ⊕ (Bool))) :=
 bif decide (x2 < x1) then
  match C_history_Replay (x0.c, x0.log, x2) with
  | some y1 =>
   match C_arena_Cell (x0.c, x2) with
   | some y2 =>
    match C_wmem_Load (x0.m, y2) with
    | some y3 =>
     bif !y1.snd then
      some (Sum.inr (Sum.inr false))
     else
      bif y3.snd != (0 : Int) then
       some (Sum.inr (Sum.inr false))
      else
       bif y1.fst != y3.fst then
        some (Sum.inr (Sum.inr false))
       else
        some (Sum.inl (x0, x1, wrapA IntKind.i64 (x2 + (1 : Int))))
    | none => none
   | none => none
  | none => none
 else
  some (Sum.inr (Sum.inl x0))
noncomputable def T_history_Linear_4 (x : Wld × Int × Int) : Option ((Wld × Int × Int) ⊕ ((Wld) ⊕ (Bool))) := S_history_Linear_4 x.1 x.2.1 x.2.2
noncomputable def W_history_Linear_4 (x : Wld × Int × Int) : Option ((Wld) ⊕ (Bool)) := whileM T_history_Linear_4 x
noncomputable def F_history_Linear (x0 : Wld) : Option (Bool) :=
 match C_config_Check x0.c with
 | some y1 =>
  bif y1 != (0 : Int) then
   some (false)
  else
   match C_slices_IsSortedFunc_thread_Mark (x0.log, ()) with
   | some y2 =>
    bif !y2 then
     some (false)
    else
     match W_history_Linear_4 (x0, x0.c.items, (0 : Int)) with
     | some (.inl y3) =>
      match W_history_Linear_12 (y3, y3.c.threads, (0 : Int)) with
      | some (.inl y4) =>
       some (true)
      | some (.inr y5) =>
       some (y5)
      | none => none
     | some (.inr y4) =>
      some (y4)
     | none => none
   | none => none
 | none => none
noncomputable def C_history_Linear (x : Wld) : Option (Bool) := F_history_Linear x

/- millstream/millstreamref05.Check -/
noncomputable def F_ref05_Check (x0 : Config) : Option (Int) :=
 bif decide (x0.threads < (1 : Int)) then
  some ((50 : Int))
 else
  bif decide (x0.threads > (16 : Int)) then
   some ((50 : Int))
  else
   bif decide (x0.items < (1 : Int)) then
    some ((51 : Int))
   else
    bif decide (x0.items > (4 : Int)) then
     some ((51 : Int))
    else
     bif decide (x0.backend < (1 : Int)) then
      some ((52 : Int))
     else
      bif decide (x0.backend > (3 : Int)) then
       some ((52 : Int))
      else
       bif decide (x0.depth < (0 : Int)) then
        some ((53 : Int))
       else
        bif decide (x0.depth > (4 : Int)) then
         some ((53 : Int))
        else
         bif decide (x0.layers < (0 : Int)) then
          some ((54 : Int))
         else
          bif decide (x0.layers > (3 : Int)) then
           some ((54 : Int))
          else
           bif decide (x0.width < (1 : Int)) then
            some ((55 : Int))
           else
            bif decide (x0.width > (8 : Int)) then
             some ((55 : Int))
            else
             bif decide (x0.spin < (0 : Int)) then
              some ((56 : Int))
             else
              bif decide (x0.spin > (20 : Int)) then
               some ((56 : Int))
              else
               bif decide (x0.wait < (0 : Int)) then
                some ((57 : Int))
               else
                bif decide (x0.wait > (1000 : Int)) then
                 some ((57 : Int))
                else
                 bif x0.bounded then
                  bif decide (x0.lo > x0.init) then
                   some ((58 : Int))
                  else
                   bif decide (x0.init > x0.hi) then
                    some ((58 : Int))
                   else
                    some ((0 : Int))
                 else
                  some ((0 : Int))
noncomputable def C_ref05_Check (x : Config) : Option (Int) := F_ref05_Check x

/- millstream/millstreamref03.Load -/
noncomputable def F_ref03_Load (x0 : Memo) (x1 : Int) : Option (Int × Int) :=
 bif decide (x1 < (0 : Int)) then
  some (((0 : Int), (30 : Int)))
 else
  bif decide (x1 ≥ (↑x0.words.length : Int)) then
   some (((0 : Int), (30 : Int)))
  else
   bif decide ((0 : Int) ≤ x1) then
    bif decide (x1 < (↑x0.words.length : Int)) then
     some ((x0.words.getD x1.toNat (0 : Int), (0 : Int)))
    else
     none
   else
    none
noncomputable def C_ref03_Load (x : Memo × Int) : Option (Int × Int) := F_ref03_Load x.1 x.2

/- millstream/millstreamref06.Nodes -/
noncomputable def S_ref06_Nodes_3 (x0 : Config) (x1 : Int) (x2 : Int) : Option ((Config × Int × Int) ⊕ ((Int))) :=
 bif decide (x2 < x0.depth) then
  some (Sum.inl (x0, wrapA IntKind.i64 ((2 : Int) * x1), wrapA IntKind.i64 (x2 + (1 : Int))))
 else
  some (Sum.inr x1)
noncomputable def T_ref06_Nodes_3 (x : Config × Int × Int) : Option ((Config × Int × Int) ⊕ ((Int))) := S_ref06_Nodes_3 x.1 x.2.1 x.2.2
noncomputable def W_ref06_Nodes_3 (x : Config × Int × Int) : Option ((Int)) := whileM T_ref06_Nodes_3 x
noncomputable def F_ref06_Nodes (x0 : Config) : Option (Int) :=
 match W_ref06_Nodes_3 (x0, (1 : Int), (0 : Int)) with
 | some y1 =>
  some (wrapA IntKind.i64 (y1 - (1 : Int)))
 | none => none
noncomputable def C_ref06_Nodes (x : Config) : Option (Int) := F_ref06_Nodes x

/- millstream/millstreamref06.block -/
noncomputable def F_ref06_block (x0 : Config) : Option (Int) :=
 match C_ref06_Nodes x0 with
 | some y1 =>
  some (wrapA IntKind.i64 (wrapA IntKind.i64 ((1 : Int) + y1) + wrapA IntKind.i64 (x0.layers * x0.width)))
 | none => none
noncomputable def C_ref06_block (x : Config) : Option (Int) := F_ref06_block x

/- millstream/millstreamref06.Cell -/
noncomputable def F_ref06_Cell (x0 : Config) (x1 : Int) : Option (Int) :=
 bif decide (x1 < (0 : Int)) then
  some ((-1 : Int))
 else
  bif decide (x1 ≥ x0.items) then
   some ((-1 : Int))
  else
   match C_ref06_block x0 with
   | some y1 =>
    some (wrapA IntKind.i64 (x1 * y1))
   | none => none
noncomputable def C_ref06_Cell (x : Config × Int) : Option (Int) := F_ref06_Cell x.1 x.2

/- millstream/millstreamref18.Linear -/
noncomputable def S_ref18_Linear_16 (x0 : Wld) (x1 : Int) : Option ((Wld × Int) ⊕ ((Unit) ⊕ (Bool))) :=
 bif decide (x1 < (↑x0.log.length : Int)) then
  bif decide ((0 : Int) ≤ x1) then
   bif decide (x1 < (↑x0.log.length : Int)) then
    bif decide ((0 : Int) ≤ wrapA IntKind.i64 (x1 - (1 : Int))) then
     bif decide (wrapA IntKind.i64 (x1 - (1 : Int)) < (↑x0.log.length : Int)) then
      bif decide ((x0.log.getD x1.toNat dMark).step < (x0.log.getD (wrapA IntKind.i64 (x1 - (1 : Int))).toNat dMark).step) then
       some (Sum.inr (Sum.inr false))
      else
       some (Sum.inl (x0, wrapA IntKind.i64 (x1 + (1 : Int))))
     else
      none
    else
     none
   else
    none
  else
   none
 else
  some (Sum.inr (Sum.inl ()))
noncomputable def T_ref18_Linear_16 (x : Wld × Int) : Option ((Wld × Int) ⊕ ((Unit) ⊕ (Bool))) := S_ref18_Linear_16 x.1 x.2
noncomputable def W_ref18_Linear_16 (x : Wld × Int) : Option ((Unit) ⊕ (Bool)) := whileM T_ref18_Linear_16 x
noncomputable def S_ref18_Linear_11 (x0 : Wld) (x1 : Int) : Option ((Wld × Int) ⊕ ((Wld) ⊕ (Bool))) :=
 bif decide (x1 < x0.c.threads) then
  match C_ref18_Answers (x0.c, x0.log, x0.hist, x1) with
  | some y1 =>
   bif !y1 then
    some (Sum.inr (Sum.inr false))
   else
    some (Sum.inl (x0, wrapA IntKind.i64 (x1 + (1 : Int))))
  | none => none
 else
  some (Sum.inr (Sum.inl x0))
noncomputable def T_ref18_Linear_11 (x : Wld × Int) : Option ((Wld × Int) ⊕ ((Wld) ⊕ (Bool))) := S_ref18_Linear_11 x.1 x.2
noncomputable def W_ref18_Linear_11 (x : Wld × Int) : Option ((Wld) ⊕ (Bool)) := whileM T_ref18_Linear_11 x
noncomputable def S_ref18_Linear_4 (x0 : Wld) (x1 : Int) : Option ((Wld × Int) ⊕ ((Wld) ⊕ (Bool))) :=
 bif decide (x1 < x0.c.items) then
  match C_ref18_Replay (x0.c, x0.log, x1) with
  | some y1 =>
   match C_ref06_Cell (x0.c, x1) with
   | some y2 =>
    match C_ref03_Load (x0.m, y2) with
    | some y3 =>
     bif !y1.snd then
      some (Sum.inr (Sum.inr false))
     else
      bif y3.snd != (0 : Int) then
       some (Sum.inr (Sum.inr false))
      else
       bif y1.fst != y3.fst then
        some (Sum.inr (Sum.inr false))
       else
        some (Sum.inl (x0, wrapA IntKind.i64 (x1 + (1 : Int))))
    | none => none
   | none => none
  | none => none
 else
  some (Sum.inr (Sum.inl x0))
noncomputable def T_ref18_Linear_4 (x : Wld × Int) : Option ((Wld × Int) ⊕ ((Wld) ⊕ (Bool))) := S_ref18_Linear_4 x.1 x.2
noncomputable def W_ref18_Linear_4 (x : Wld × Int) : Option ((Wld) ⊕ (Bool)) := whileM T_ref18_Linear_4 x
noncomputable def F_ref18_Linear (x0 : Wld) : Option (Bool) :=
 match C_ref05_Check x0.c with
 | some y1 =>
  bif y1 != (0 : Int) then
   some (false)
  else
   match W_ref18_Linear_4 (x0, (0 : Int)) with
   | some (.inl y2) =>
    match W_ref18_Linear_11 (y2, (0 : Int)) with
    | some (.inl y3) =>
     match W_ref18_Linear_16 (y3, (1 : Int)) with
     | some (.inl y4) =>
      some (true)
     | some (.inr y5) =>
      some (y5)
     | none => none
    | some (.inr y4) =>
     some (y4)
    | none => none
   | some (.inr y3) =>
    some (y3)
   | none => none
 | none => none
noncomputable def C_ref18_Linear (x : Wld) : Option (Bool) := F_ref18_Linear x

/- millstream/millstreamlaw18.HistoryLinear -/
noncomputable def F_law18_HistoryLinear (x0 : Wld) : Option (Bool) :=
 match C_law18_heap x0 with
 | some y1 =>
  bif y1 then
   match C_law18_shown () with
   | some y2 =>
    some (y2)
   | none => none
  else
   match C_law18_shown () with
   | some y2 =>
    bif !y2 then
     match C_law18_shown () with
     | some y3 =>
      some (y3)
     | none => none
    else
     match C_history_Linear x0 with
     | some y3 =>
      match C_law18_theirs x0 with
      | some y4 =>
       match C_ref18_Linear y4 with
       | some y5 =>
        some (y3 == y5)
       | none => none
      | none => none
     | none => none
   | none => none
 | none => none
noncomputable def C_law18_HistoryLinear (x : Wld) : Option (Bool) := F_law18_HistoryLinear x

end Go.Proofs.Mill
