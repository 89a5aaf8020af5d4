/- What the functions compute. -/
import Derived.Test.YtaopdopnecognaaGreatMillAll4
namespace Go.Proofs.Mill
set_option linter.all false
/- millstream/fair.Round -/
noncomputable def S_fair_Round_2 (x0 : List SEntry) (x1 : Int) (x2 : Int) : Option (((List SEntry) × Int × Int) ⊕ (((List SEntry)))) :=
 bif decide (x2 < x1) then
  bif fewB (x0.length + (SEntry.mk (2 : Int) x2 (0 : Int) (Op.mk (0 : Int) (0 : Int)) :: ([] : List SEntry)).length) then
   some (Sum.inl (x0 ++ SEntry.mk (2 : Int) x2 (0 : Int) (Op.mk (0 : Int) (0 : Int)) :: ([] : List SEntry), x1, wrapA IntKind.i64 (x2 + (1 : Int))))
  else
   none
 else
  some (Sum.inr x0)
noncomputable def T_fair_Round_2 (x : (List SEntry) × Int × Int) : Option (((List SEntry) × Int × Int) ⊕ (((List SEntry)))) := S_fair_Round_2 x.1 x.2.1 x.2.2
noncomputable def W_fair_Round_2 (x : (List SEntry) × Int × Int) : Option (((List SEntry))) := whileM T_fair_Round_2 x
noncomputable def F_fair_Round (x0 : Config) : Option ((List SEntry)) :=
 match W_fair_Round_2 (([] : List SEntry), x0.threads, (0 : Int)) with
 | some y1 =>
  some (y1)
 | none => none
noncomputable def C_fair_Round (x : Config) : Option ((List SEntry)) := F_fair_Round x

/- millstream/fair.Suffix -/
noncomputable def S_fair_Suffix_5 (x0 : Int) (x1 : List SEntry) (x2 : List SEntry) (x3 : List SEntry) (x4 : Int) (x5 : Int) : Option ((Int × (List SEntry) × (List SEntry) × (List SEntry) × Int × Int) ⊕ (((List SEntry)) ⊕ (Int × (List SEntry) × (List SEntry)))) :=
 bif decide (x5 < x4) then
  bif decide ((0 : Int) ≤ x5) then
   bif decide (x5 < (↑x3.length : Int)) then
    bif decide ((↑x1.length : Int) ≥ (65536 : Int)) then
     some (Sum.inr (Sum.inl x1))
    else
     bif fewB (x1.length + (x3.getD x5.toNat dSEntry :: ([] : List SEntry)).length) then
      some (Sum.inl (x0, x1 ++ x3.getD x5.toNat dSEntry :: ([] : List SEntry), x2, x3, x4, wrapA IntKind.i64 (x5 + (1 : Int))))
     else
      none
   else
    none
  else
   none
 else
  some (Sum.inr (Sum.inr (x0, x1, x2)))
noncomputable def T_fair_Suffix_5 (x : Int × (List SEntry) × (List SEntry) × (List SEntry) × Int × Int) : Option ((Int × (List SEntry) × (List SEntry) × (List SEntry) × Int × Int) ⊕ (((List SEntry)) ⊕ (Int × (List SEntry) × (List SEntry)))) := S_fair_Suffix_5 x.1 x.2.1 x.2.2.1 x.2.2.2.1 x.2.2.2.2.1 x.2.2.2.2.2
noncomputable def W_fair_Suffix_5 (x : Int × (List SEntry) × (List SEntry) × (List SEntry) × Int × Int) : Option (((List SEntry)) ⊕ (Int × (List SEntry) × (List SEntry))) := whileM T_fair_Suffix_5 x
noncomputable def S_fair_Suffix_2 (x0 : Int) (x1 : List SEntry) (x2 : List SEntry) : Option ((Int × (List SEntry) × (List SEntry)) ⊕ (((List SEntry)))) :=
 bif decide (x0 > (0 : Int)) then
  match W_fair_Suffix_5 (x0, x1, x2, x2, (↑x2.length : Int), (0 : Int)) with
  | some (.inl y1) =>
   some (Sum.inr y1)
  | some (.inr y2) =>
   some (Sum.inl (wrapA IntKind.i64 (y2.fst - (1 : Int)), y2.snd))
  | none => none
 else
  some (Sum.inr x1)
noncomputable def T_fair_Suffix_2 (x : Int × (List SEntry) × (List SEntry)) : Option ((Int × (List SEntry) × (List SEntry)) ⊕ (((List SEntry)))) := S_fair_Suffix_2 x.1 x.2.1 x.2.2
noncomputable def W_fair_Suffix_2 (x : Int × (List SEntry) × (List SEntry)) : Option (((List SEntry))) := whileM T_fair_Suffix_2 x
noncomputable def F_fair_Suffix (x0 : Config) (x1 : Int) : Option ((List SEntry)) :=
 match C_fair_Round x0 with
 | some y1 =>
  match W_fair_Suffix_2 (x1, ([] : List SEntry), y1) with
  | some y2 =>
   some (y2)
  | none => none
 | none => none
noncomputable def C_fair_Suffix (x : Config × Int) : Option ((List SEntry)) := F_fair_Suffix x.1 x.2

/- millstream/config.Steps -/
noncomputable def F_config_Steps (x0 : Config) : Option (Int) :=
 some (wrapA IntKind.i64 (wrapA IntKind.i64 ((20 : Int) + wrapA IntKind.i64 ((8 : Int) * x0.depth)) + wrapA IntKind.i64 (x0.layers * wrapA IntKind.i64 ((20 : Int) + wrapA IntKind.i64 ((2 : Int) * x0.spin)))))
noncomputable def C_config_Steps (x : Config) : Option (Int) := F_config_Steps x

/- millstream/fair.Rounds -/
noncomputable def F_fair_Rounds (x0 : Config) : Option (Int) :=
 match C_config_Steps x0 with
 | some y1 =>
  some (wrapA IntKind.i64 ((20 : Int) + wrapA IntKind.i64 (wrapA IntKind.i64 ((4 : Int) * y1) * x0.threads)))
 | none => none
noncomputable def C_fair_Rounds (x : Config) : Option (Int) := F_fair_Rounds x

/- millstream/millstreamref06.Nodes -/
noncomputable def S_ref06_Nodes_3 (x0 : Config) (x1 : Int) (x2 : Int) : Option ((Config × Int × Int) ⊕ ((Int))) :=
 bif decide (x2 < x0.depth) then
  some (Sum.inl (x0, wrapA IntKind.i64 ((2 : Int) * x1), wrapA IntKind.i64 (x2 + (1 : Int))))
 else
  some (Sum.inr x1)
noncomputable def T_ref06_Nodes_3 (x : Config × Int × Int) : Option ((Config × Int × Int) ⊕ ((Int))) := S_ref06_Nodes_3 x.1 x.2.1 x.2.2
noncomputable def W_ref06_Nodes_3 (x : Config × Int × Int) : Option ((Int)) := whileM T_ref06_Nodes_3 x
noncomputable def F_ref06_Nodes (x0 : Config) : Option (Int) :=
 match W_ref06_Nodes_3 (x0, (1 : Int), (0 : Int)) with
 | some y1 =>
  some (wrapA IntKind.i64 (y1 - (1 : Int)))
 | none => none
noncomputable def C_ref06_Nodes (x : Config) : Option (Int) := F_ref06_Nodes x

/- millstream/millstreamref06.block -/
noncomputable def F_ref06_block (x0 : Config) : Option (Int) :=
 match C_ref06_Nodes x0 with
 | some y1 =>
  some (wrapA IntKind.i64 (wrapA IntKind.i64 ((1 : Int) + y1) + wrapA IntKind.i64 (x0.layers * x0.width)))
 | none => none
noncomputable def C_ref06_block (x : Config) : Option (Int) := F_ref06_block x

/- millstream/millstreamref06.Size -/
noncomputable def F_ref06_Size (x0 : Config) : Option (Int) :=
 match C_ref06_block x0 with
 | some y1 =>
  some (wrapA IntKind.i64 (wrapA IntKind.i64 (x0.items * y1) + wrapA IntKind.i64 ((2 : Int) * x0.threads)))
 | none => none
noncomputable def C_ref06_Size (x : Config) : Option (Int) := F_ref06_Size x

/- millstream/millstreamref06.Node -/
noncomputable def F_ref06_Node (x0 : Config) (x1 : Int) (x2 : Int) : Option (Int) :=
 bif decide (x1 < (0 : Int)) then
  some ((-1 : Int))
 else
  bif decide (x1 ≥ x0.items) then
   some ((-1 : Int))
  else
   bif decide (x2 < (1 : Int)) then
    some ((-1 : Int))
   else
    match C_ref06_Nodes x0 with
    | some y1 =>
     bif decide (x2 > y1) then
      some ((-1 : Int))
     else
      match C_ref06_block x0 with
      | some y2 =>
       some (wrapA IntKind.i64 (wrapA IntKind.i64 (x1 * y2) + x2))
      | none => none
    | none => none
noncomputable def C_ref06_Node (x : Config × Int × Int) : Option (Int) := F_ref06_Node x.1 x.2.1 x.2.2

/- millstream/millstreamref06.Line -/
noncomputable def F_ref06_Line (x0 : Config) (x1 : Int) : Option (Int) :=
 bif decide (x1 < (0 : Int)) then
  some ((-1 : Int))
 else
  bif decide (x1 ≥ x0.threads) then
   some ((-1 : Int))
  else
   match C_ref06_block x0 with
   | some y1 =>
    some (wrapA IntKind.i64 (wrapA IntKind.i64 (x0.items * y1) + wrapA IntKind.i64 ((2 : Int) * x1)))
   | none => none
noncomputable def C_ref06_Line (x : Config × Int) : Option (Int) := F_ref06_Line x.1 x.2

/- millstream/thread.Busy -/
noncomputable def F_thread_Busy (x0 : Thread) : Option (Bool) :=
 some (x0.phase != (0 : Int))
noncomputable def C_thread_Busy (x : Thread) : Option (Bool) := F_thread_Busy x

/- millstream/script.within -/
noncomputable def F_script_within (x0 : Int) (x1 : Int) : Option (Bool) :=
 bif decide ((0 : Int) ≤ x0) then
  some (decide (x0 < x1))
 else
  some (false)
noncomputable def C_script_within (x : Int × Int) : Option (Bool) := F_script_within x.1 x.2

/- millstream/oper.Known -/
noncomputable def F_oper_Known (x0 : Int) : Option (Bool) :=
 bif decide ((1 : Int) ≤ x0) then
  some (decide (x0 ≤ (9 : Int)))
 else
  some (false)
noncomputable def C_oper_Known (x : Int) : Option (Bool) := F_oper_Known x

/- millstream/oper.May -/
noncomputable def F_oper_May (x0 : Op) (x1 : Bool) : Option (Bool) :=
 bif !x1 then
  match C_oper_Known x0.tag with
  | some y1 =>
   bif y1 then
    some (decide (x0.tag < (8 : Int)))
   else
    some (false)
  | none => none
 else
  bif x0.tag == (9 : Int) then
   some (decide (x0.v ≥ (0 : Int)))
  else
   some (x0.tag == (8 : Int))
noncomputable def C_oper_May (x : Op × Bool) : Option (Bool) := F_oper_May x.1 x.2

/- millstream/script.Check -/
noncomputable def F_script_Check (x0 : Config) (x1 : SEntry) : Option (Int) :=
 bif x1.kind == (1 : Int) then
  bif x1.kind == (1 : Int) then
   match C_script_within (x1.t, x0.threads) with
   | some y1 =>
    bif !y1 then
     some ((91 : Int))
    else
     bif x1.kind == (2 : Int) then
      some ((0 : Int))
     else
      match C_script_within (x1.item, x0.items) with
      | some y2 =>
       bif !y2 then
        some ((92 : Int))
       else
        match C_oper_May (x1.op, x0.bounded) with
        | some y3 =>
         bif !y3 then
          some ((93 : Int))
         else
          some ((0 : Int))
        | none => none
      | none => none
   | none => none
  else
   bif x1.kind == (3 : Int) then
    some ((0 : Int))
   else
    some ((90 : Int))
 else
  bif x1.kind == (2 : Int) then
   match C_script_within (x1.t, x0.threads) with
   | some y1 =>
    bif !y1 then
     some ((91 : Int))
    else
     bif x1.kind == (2 : Int) then
      some ((0 : Int))
     else
      match C_script_within (x1.item, x0.items) with
      | some y2 =>
       bif !y2 then
        some ((92 : Int))
       else
        match C_oper_May (x1.op, x0.bounded) with
        | some y3 =>
         bif !y3 then
          some ((93 : Int))
         else
          some ((0 : Int))
        | none => none
      | none => none
   | none => none
  else
   bif x1.kind == (3 : Int) then
    some ((0 : Int))
   else
    some ((90 : Int))
noncomputable def C_script_Check (x : Config × SEntry) : Option (Int) := F_script_Check x.1 x.2

/- slices.Clone[[]millstream/thread.Thread,millstream/thread.Thread] -/
noncomputable def F_slices_Clone_thread_Thread (x0 : List Thread) : Option ((List Thread)) :=
 bif fewB ((0 : Nat) + x0.length) then
  some (x0)
 else
  none
noncomputable def C_slices_Clone_thread_Thread (x : (List Thread)) : Option ((List Thread)) := F_slices_Clone_thread_Thread x

/- slices.Clone[[]millstream/thread.Mark,millstream/thread.Mark] -/
noncomputable def F_slices_Clone_thread_Mark (x0 : List Mark) : Option ((List Mark)) :=
 bif fewB ((0 : Nat) + x0.length) then
  some (x0)
 else
  none
noncomputable def C_slices_Clone_thread_Mark (x : (List Mark)) : Option ((List Mark)) := F_slices_Clone_thread_Mark x

/- slices.Clone[[]millstream/world.Event,millstream/world.Event] -/
noncomputable def F_slices_Clone_world_Event (x0 : List Event) : Option ((List Event)) :=
 bif fewB ((0 : Nat) + x0.length) then
  some (x0)
 else
  none
noncomputable def C_slices_Clone_world_Event (x : (List Event)) : Option ((List Event)) := F_slices_Clone_world_Event x

/- millstream/shape.Leaf -/
noncomputable def F_shape_Leaf (x0 : Int) (x1 : Int) : Option (Int) :=
 bif decide (x0 < (1 : Int)) then
  some ((0 : Int))
 else
  bif decide (wrapA IntKind.i64 (x0 - (1 : Int)) < (0 : Int)) then
   none
  else
   some (wrapA IntKind.i64 (↑(BitVec.ofInt IntKind.i64.bits (wrapA IntKind.i64 ((1 : Int) * (2 : Int) ^ min (wrapA IntKind.i64 (x0 - (1 : Int))).toNat IntKind.i64.bits)) ||| BitVec.ofInt IntKind.i64.bits (wrapA IntKind.i64 (↑(BitVec.ofInt IntKind.i64.bits (x1.fdiv ((2 : Int) ^ min (Int.toNat (1 : Int)) IntKind.i64.bits)) &&& BitVec.ofInt IntKind.i64.bits (wrapA IntKind.i64 (wrapA IntKind.i64 ((1 : Int) * (2 : Int) ^ min (wrapA IntKind.i64 (x0 - (1 : Int))).toNat IntKind.i64.bits) - (1 : Int)))).toNat : Int))).toNat : Int))
noncomputable def C_shape_Leaf (x : Int × Int) : Option (Int) := F_shape_Leaf x.1 x.2

/- millstream/thread.Begin -/
noncomputable def F_thread_Begin (x0 : Config) (x1 : Int) (x2 : Thread) (x3 : Int) (x4 : Op) (x5 : Int) : Option (Thread) :=
 match C_shape_Leaf (x0.depth, x1) with
 | some y1 =>
  bif decide (x0.wait > (0 : Int)) then
   some (Thread.mk (1 : Int) x3 x4 (Entry.mk x1 x4 :: ([] : List Entry)) ([] : List Kid) ([] : List Int) (0 : Int) y1 (0 : Int) (0 : Int) (0 : Int) x2.width (0 : Int) (0 : Int) (0 : Int) (wrapA IntKind.i64 (x5 + x0.wait)))
  else
   some (Thread.mk (1 : Int) x3 x4 (Entry.mk x1 x4 :: ([] : List Entry)) ([] : List Kid) ([] : List Int) (0 : Int) y1 (0 : Int) (0 : Int) (0 : Int) x2.width (0 : Int) (0 : Int) (0 : Int) (0 : Int))
 | none => none
noncomputable def C_thread_Begin (x : Config × Int × Thread × Int × Op × Int) : Option (Thread) := F_thread_Begin x.1 x.2.1 x.2.2.1 x.2.2.2.1 x.2.2.2.2.1 x.2.2.2.2.2

/- millstream/world.Step -/
noncomputable def F_world_Step (x0 : Wld) (x1 : SEntry) : Option (Wld × Int) :=
 match C_script_Check (x0.c, x1) with
 | some y1 =>
  bif y1 != (0 : Int) then
   some ((x0, y1))
  else
   match C_slices_Clone_thread_Thread x0.t with
   | some y2 =>
    match C_slices_Clone_thread_Mark x0.log with
    | some y3 =>
     match C_slices_Clone_world_Event x0.hist with
     | some y4 =>
      bif x1.kind == (1 : Int) then
       bif decide ((0 : Int) ≤ x1.t) then
        bif decide (x1.t < (↑(List.length y2) : Int)) then
         match C_thread_Busy (List.getD y2 x1.t.toNat dThread) with
         | some y5 =>
          bif y5 then
           bif fewB (List.length y4 + (Event.mk (3 : Int) x1.t x1.item x1.op (0 : Int) false x0.steps :: ([] : List Event)).length) then
            some (({ x0 with t := y2, log := y3, hist := y4 ++ Event.mk (3 : Int) x1.t x1.item x1.op (0 : Int) false x0.steps :: ([] : List Event) }, (170 : Int)))
           else
            none
          else
           match C_thread_Begin (x0.c, x1.t, List.getD y2 x1.t.toNat dThread, x1.item, x1.op, x0.now) with
           | some y6 =>
            bif fewB (List.length y4 + (Event.mk (1 : Int) x1.t x1.item x1.op (0 : Int) false x0.steps :: ([] : List Event)).length) then
             some (({ x0 with t := List.set y2 x1.t.toNat y6, log := y3, hist := y4 ++ Event.mk (1 : Int) x1.t x1.item x1.op (0 : Int) false x0.steps :: ([] : List Event) }, (0 : Int)))
            else
             none
           | none => none
         | none => none
        else
         none
       else
        none
      else
       bif x1.kind == (2 : Int) then
        none
       else
        bif x1.kind == (3 : Int) then
         some (({ x0 with t := y2, now := wrapA IntKind.i64 (x0.now + (1 : Int)), log := y3, hist := y4 }, (0 : Int)))
        else
         some (({ x0 with t := y2, log := y3, hist := y4 }, (0 : Int)))
     | none => none
    | none => none
   | none => none
 | none => none
noncomputable def C_world_Step (x : Wld × SEntry) : Option (Wld × Int) := F_world_Step x.1 x.2

/- millstream/millstreamref05.Check -/
noncomputable def F_ref05_Check (x0 : Config) : Option (Int) :=
 bif decide (x0.threads < (1 : Int)) then
  some ((50 : Int))
 else
  bif decide (x0.threads > (16 : Int)) then
   some ((50 : Int))
  else
   bif decide (x0.items < (1 : Int)) then
    some ((51 : Int))
   else
    bif decide (x0.items > (4 : Int)) then
     some ((51 : Int))
    else
     bif decide (x0.backend < (1 : Int)) then
      some ((52 : Int))
     else
      bif decide (x0.backend > (3 : Int)) then
       some ((52 : Int))
      else
       bif decide (x0.depth < (0 : Int)) then
        some ((53 : Int))
       else
        bif decide (x0.depth > (4 : Int)) then
         some ((53 : Int))
        else
         bif decide (x0.layers < (0 : Int)) then
          some ((54 : Int))
         else
          bif decide (x0.layers > (3 : Int)) then
           some ((54 : Int))
          else
           bif decide (x0.width < (1 : Int)) then
            some ((55 : Int))
           else
            bif decide (x0.width > (8 : Int)) then
             some ((55 : Int))
            else
             bif decide (x0.spin < (0 : Int)) then
              some ((56 : Int))
             else
              bif decide (x0.spin > (20 : Int)) then
               some ((56 : Int))
              else
               bif decide (x0.wait < (0 : Int)) then
                some ((57 : Int))
               else
                bif decide (x0.wait > (1000 : Int)) then
                 some ((57 : Int))
                else
                 bif x0.bounded then
                  bif decide (x0.lo > x0.init) then
                   some ((58 : Int))
                  else
                   bif decide (x0.init > x0.hi) then
                    some ((58 : Int))
                   else
                    some ((0 : Int))
                 else
                  some ((0 : Int))
noncomputable def C_ref05_Check (x : Config) : Option (Int) := F_ref05_Check x

/- millstream/millstreamref01.May -/
noncomputable def F_ref01_May (x0 : Op) (x1 : Bool) : Option (Bool) :=
 bif x1 then
  bif x0.tag == (8 : Int) then
   some (true)
  else
   bif x0.tag == (9 : Int) then
    some (decide (x0.v ≥ (0 : Int)))
   else
    some (false)
 else
  bif decide (x0.tag ≥ (1 : Int)) then
   some (decide (x0.tag ≤ (7 : Int)))
  else
   some (false)
noncomputable def C_ref01_May (x : Op × Bool) : Option (Bool) := F_ref01_May x.1 x.2

/- millstream/millstreamref09.Check -/
noncomputable def F_ref09_Check (x0 : Config) (x1 : SEntry) : Option (Int) :=
 bif decide (x1.kind < (1 : Int)) then
  some ((90 : Int))
 else
  bif decide (x1.kind > (3 : Int)) then
   some ((90 : Int))
  else
   bif x1.kind == (3 : Int) then
    some ((0 : Int))
   else
    bif decide (x1.t < (0 : Int)) then
     some ((91 : Int))
    else
     bif decide (x1.t ≥ x0.threads) then
      some ((91 : Int))
     else
      bif x1.kind == (2 : Int) then
       some ((0 : Int))
      else
       bif decide (x1.item < (0 : Int)) then
        some ((92 : Int))
       else
        bif decide (x1.item ≥ x0.items) then
         some ((92 : Int))
        else
         match C_ref01_May (x1.op, x0.bounded) with
         | some y1 =>
          bif !y1 then
           some ((93 : Int))
          else
           some ((0 : Int))
         | none => none
noncomputable def C_ref09_Check (x : Config × SEntry) : Option (Int) := F_ref09_Check x.1 x.2

/- millstream/millstreamref09.All -/
noncomputable def S_ref09_All_7 (x0 : List SEntry) (x1 : Config) (x2 : Int) : Option (((List SEntry) × Config × Int) ⊕ ((Unit) ⊕ (Int × Int))) :=
 bif decide (x2 < (↑x0.length : Int)) then
  bif decide ((0 : Int) ≤ x2) then
   bif decide (x2 < (↑x0.length : Int)) then
    match C_ref09_Check (x1, x0.getD x2.toNat dSEntry) with
    | some y1 =>
     bif y1 != (0 : Int) then
      some (Sum.inr (Sum.inr (x2, y1)))
     else
      some (Sum.inl (x0, x1, wrapA IntKind.i64 (x2 + (1 : Int))))
    | none => none
   else
    none
  else
   none
 else
  some (Sum.inr (Sum.inl ()))
noncomputable def T_ref09_All_7 (x : (List SEntry) × Config × Int) : Option (((List SEntry) × Config × Int) ⊕ ((Unit) ⊕ (Int × Int))) := S_ref09_All_7 x.1 x.2.1 x.2.2
noncomputable def W_ref09_All_7 (x : (List SEntry) × Config × Int) : Option ((Unit) ⊕ (Int × Int)) := whileM T_ref09_All_7 x
noncomputable def F_ref09_All (x0 : Config) (x1 : List SEntry) : Option (Int × Int) :=
 match C_ref05_Check x0 with
 | some y1 =>
  bif y1 != (0 : Int) then
   some (((0 : Int), y1))
  else
   bif decide ((↑x1.length : Int) > (65536 : Int)) then
    some (((0 : Int), (2 : Int)))
   else
    match W_ref09_All_7 (x1, x0, (0 : Int)) with
    | some (.inl y2) =>
     some (((0 : Int), (0 : Int)))
    | some (.inr y3) =>
     some (y3)
    | none => none
 | none => none
noncomputable def C_ref09_All (x : Config × (List SEntry)) : Option (Int × Int) := F_ref09_All x.1 x.2

/- millstream/millstreamlaw19.may -/
noncomputable def F_law19_may (x0 : Config) : Option (Bool) :=
 match C_ref05_Check x0 with
 | some y1 =>
  some (y1 == (0 : Int))
 | none => none
noncomputable def C_law19_may (x : Config) : Option (Bool) := F_law19_may x

/- millstream/millstreamref05.Steps -/
noncomputable def F_ref05_Steps (x0 : Config) : Option (Int) :=
 some (wrapA IntKind.i64 (wrapA IntKind.i64 ((20 : Int) + wrapA IntKind.i64 ((8 : Int) * x0.depth)) + wrapA IntKind.i64 (x0.layers * wrapA IntKind.i64 ((20 : Int) + wrapA IntKind.i64 ((2 : Int) * x0.spin)))))
noncomputable def C_ref05_Steps (x : Config) : Option (Int) := F_ref05_Steps x

/- millstream/millstreamref19.Rounds -/
noncomputable def F_ref19_Rounds (x0 : Config) : Option (Int) :=
 match C_ref05_Steps x0 with
 | some y1 =>
  some (wrapA IntKind.i64 (wrapA IntKind.i64 (wrapA IntKind.i64 ((4 : Int) * x0.threads) * y1) + (20 : Int)))
 | none => none
noncomputable def C_ref19_Rounds (x : Config) : Option (Int) := F_ref19_Rounds x

/- millstream/millstreamref09.Same -/
noncomputable def S_ref09_Same_4 (x0 : List SEntry) (x1 : List SEntry) (x2 : Int) : Option (((List SEntry) × (List SEntry) × Int) ⊕ ((Unit) ⊕ (Bool))) :=
 bif decide (x2 < (↑x0.length : Int)) then
  bif decide ((0 : Int) ≤ x2) then
   bif decide (x2 < (↑x0.length : Int)) then
    bif decide ((0 : Int) ≤ x2) then
     bif decide (x2 < (↑x1.length : Int)) then
      bif !((x0.getD x2.toNat dSEntry).kind == (x1.getD x2.toNat dSEntry).kind && ((x0.getD x2.toNat dSEntry).t == (x1.getD x2.toNat dSEntry).t && ((x0.getD x2.toNat dSEntry).item == (x1.getD x2.toNat dSEntry).item && ((x0.getD x2.toNat dSEntry).op.tag == (x1.getD x2.toNat dSEntry).op.tag && ((x0.getD x2.toNat dSEntry).op.v == (x1.getD x2.toNat dSEntry).op.v && true) && true)))) then
       some (Sum.inr (Sum.inr false))
      else
       some (Sum.inl (x0, x1, wrapA IntKind.i64 (x2 + (1 : Int))))
     else
      none
    else
     none
   else
    none
  else
   none
 else
  some (Sum.inr (Sum.inl ()))
noncomputable def T_ref09_Same_4 (x : (List SEntry) × (List SEntry) × Int) : Option (((List SEntry) × (List SEntry) × Int) ⊕ ((Unit) ⊕ (Bool))) := S_ref09_Same_4 x.1 x.2.1 x.2.2
noncomputable def W_ref09_Same_4 (x : (List SEntry) × (List SEntry) × Int) : Option ((Unit) ⊕ (Bool)) := whileM T_ref09_Same_4 x
noncomputable def F_ref09_Same (x0 : List SEntry) (x1 : List SEntry) : Option (Bool) :=
 bif (↑x0.length : Int) != (↑x1.length : Int) then
  some (false)
 else
  match W_ref09_Same_4 (x0, x1, (0 : Int)) with
  | some (.inl y1) =>
   some (true)
  | some (.inr y2) =>
   some (y2)
  | none => none
noncomputable def C_ref09_Same (x : (List SEntry) × (List SEntry)) : Option (Bool) := F_ref09_Same x.1 x.2

/- millstream/millstreamlaw19.its -/
noncomputable def S_law19_its_3 (x0 : List SEntry) (x1 : List SEntry) (x2 : Int) : Option (((List SEntry) × (List SEntry) × Int) ⊕ (((List SEntry)))) :=
 bif decide (x2 < (↑x0.length : Int)) then
  bif decide ((0 : Int) ≤ x2) then
   bif decide (x2 < (↑x0.length : Int)) then
    bif decide ((0 : Int) ≤ x2) then
     bif decide (x2 < (↑x0.length : Int)) then
      bif decide ((0 : Int) ≤ x2) then
       bif decide (x2 < (↑x0.length : Int)) then
        bif decide ((0 : Int) ≤ x2) then
         bif decide (x2 < (↑x0.length : Int)) then
          bif fewB (x1.length + (x0.getD x2.toNat dSEntry :: ([] : List SEntry)).length) then
           some (Sum.inl (x0, x1 ++ x0.getD x2.toNat dSEntry :: ([] : List SEntry), wrapA IntKind.i64 (x2 + (1 : Int))))
          else
           none
         else
          none
        else
         none
       else
        none
      else
       none
     else
      none
    else
     none
   else
    none
  else
   none
 else
  some (Sum.inr x1)
noncomputable def T_law19_its_3 (x : (List SEntry) × (List SEntry) × Int) : Option (((List SEntry) × (List SEntry) × Int) ⊕ (((List SEntry)))) := S_law19_its_3 x.1 x.2.1 x.2.2
noncomputable def W_law19_its_3 (x : (List SEntry) × (List SEntry) × Int) : Option (((List SEntry))) := whileM T_law19_its_3 x
noncomputable def F_law19_its (x0 : List SEntry) : Option ((List SEntry)) :=
 match W_law19_its_3 (x0, ([] : List SEntry), (0 : Int)) with
 | some y1 =>
  some (y1)
 | none => none
noncomputable def C_law19_its (x : (List SEntry)) : Option ((List SEntry)) := F_law19_its x

/- millstream/millstreamref19.Suffix -/
noncomputable def S_ref19_Suffix_6 (x0 : Int) (x1 : Config) (x2 : List SEntry) (x3 : Int) (x4 : Int) : Option ((Int × Config × (List SEntry) × Int × Int) ⊕ ((Int × Config × (List SEntry) × Int) ⊕ ((List SEntry)))) :=
 bif decide (x4 < x1.threads) then
  bif (↑x2.length : Int) == (65536 : Int) then
   some (Sum.inr (Sum.inr x2))
  else
   bif fewB (x2.length + (SEntry.mk (2 : Int) x4 (0 : Int) (Op.mk (0 : Int) (0 : Int)) :: ([] : List SEntry)).length) then
    some (Sum.inl (x0, x1, x2 ++ SEntry.mk (2 : Int) x4 (0 : Int) (Op.mk (0 : Int) (0 : Int)) :: ([] : List SEntry), x3, wrapA IntKind.i64 (x4 + (1 : Int))))
   else
    none
 else
  some (Sum.inr (Sum.inl (x0, x1, x2, x3)))
noncomputable def T_ref19_Suffix_6 (x : Int × Config × (List SEntry) × Int × Int) : Option ((Int × Config × (List SEntry) × Int × Int) ⊕ ((Int × Config × (List SEntry) × Int) ⊕ ((List SEntry)))) := S_ref19_Suffix_6 x.1 x.2.1 x.2.2.1 x.2.2.2.1 x.2.2.2.2
noncomputable def W_ref19_Suffix_6 (x : Int × Config × (List SEntry) × Int × Int) : Option ((Int × Config × (List SEntry) × Int) ⊕ ((List SEntry))) := whileM T_ref19_Suffix_6 x
noncomputable def S_ref19_Suffix_3 (x0 : Int) (x1 : Config) (x2 : List SEntry) (x3 : Int) : Option ((Int × Config × (List SEntry) × Int) ⊕ (((List SEntry)) ⊕ ((List SEntry)))) :=
 bif decide (x3 < x0) then
  match W_ref19_Suffix_6 (x0, x1, x2, x3, (0 : Int)) with
  | some (.inl y1) =>
   some (Sum.inl (y1.fst, y1.snd.fst, y1.snd.snd.fst, wrapA IntKind.i64 (y1.snd.snd.snd + (1 : Int))))
  | some (.inr y2) =>
   some (Sum.inr (Sum.inr y2))
  | none => none
 else
  some (Sum.inr (Sum.inl x2))
noncomputable def T_ref19_Suffix_3 (x : Int × Config × (List SEntry) × Int) : Option ((Int × Config × (List SEntry) × Int) ⊕ (((List SEntry)) ⊕ ((List SEntry)))) := S_ref19_Suffix_3 x.1 x.2.1 x.2.2.1 x.2.2.2
noncomputable def W_ref19_Suffix_3 (x : Int × Config × (List SEntry) × Int) : Option (((List SEntry)) ⊕ ((List SEntry))) := whileM T_ref19_Suffix_3 x
noncomputable def F_ref19_Suffix (x0 : Config) (x1 : Int) : Option ((List SEntry)) :=
 match W_ref19_Suffix_3 (x1, x0, ([] : List SEntry), (0 : Int)) with
 | some (.inl y1) =>
  some (y1)
 | some (.inr y2) =>
  some (y2)
 | none => none
noncomputable def C_ref19_Suffix (x : Config × Int) : Option ((List SEntry)) := F_ref19_Suffix x.1 x.2

/- millstream/millstreamref19.Round -/
noncomputable def F_ref19_Round (x0 : Config) : Option ((List SEntry)) :=
 match C_ref19_Suffix (x0, (1 : Int)) with
 | some y1 =>
  some (y1)
 | none => none
noncomputable def C_ref19_Round (x : Config) : Option ((List SEntry)) := F_ref19_Round x

/- millstream/fair.behind -/
noncomputable def S_fair_behind_2 (x0 : List SEntry) (x1 : Int) (x2 : Int) : Option (((List SEntry) × Int × Int) ⊕ (((List SEntry)) ⊕ ((List SEntry)))) :=
 bif decide (x2 < x1) then
  bif decide ((0 : Int) ≤ wrapA IntKind.i64 (wrapA IntKind.i64 ((↑x0.length : Int) - x2) - (1 : Int))) then
   bif decide (wrapA IntKind.i64 (wrapA IntKind.i64 ((↑x0.length : Int) - x2) - (1 : Int)) < (↑x0.length : Int)) then
    bif (x0.getD (wrapA IntKind.i64 (wrapA IntKind.i64 ((↑x0.length : Int) - x2) - (1 : Int))).toNat dSEntry).kind == (1 : Int) then
     bif decide ((0 : Int) ≤ wrapA IntKind.i64 ((↑x0.length : Int) - x2)) then
      bif decide (wrapA IntKind.i64 ((↑x0.length : Int) - x2) ≤ (↑x0.length : Int)) then
       bif decide ((↑x0.length : Int) ≤ (↑x0.length : Int)) then
        some (Sum.inr (Sum.inr (List.drop (wrapA IntKind.i64 ((↑x0.length : Int) - x2)).toNat (List.take (↑x0.length : Int).toNat x0))))
       else
        none
      else
       none
     else
      none
    else
     some (Sum.inl (x0, x1, wrapA IntKind.i64 (x2 + (1 : Int))))
   else
    none
  else
   none
 else
  some (Sum.inr (Sum.inl x0))
noncomputable def T_fair_behind_2 (x : (List SEntry) × Int × Int) : Option (((List SEntry) × Int × Int) ⊕ (((List SEntry)) ⊕ ((List SEntry)))) := S_fair_behind_2 x.1 x.2.1 x.2.2
noncomputable def W_fair_behind_2 (x : (List SEntry) × Int × Int) : Option (((List SEntry)) ⊕ ((List SEntry))) := whileM T_fair_behind_2 x
noncomputable def F_fair_behind (x0 : List SEntry) : Option ((List SEntry)) :=
 match W_fair_behind_2 (x0, (↑x0.length : Int), (0 : Int)) with
 | some (.inl y1) =>
  some (y1)
 | some (.inr y2) =>
  some (y2)
 | none => none
noncomputable def C_fair_behind (x : (List SEntry)) : Option ((List SEntry)) := F_fair_behind x

/- millstream/fair.Whole -/
noncomputable def S_fair_Whole_3 (x0 : Config) (x1 : Int) (x2 : Int) (x3 : List SEntry) (x4 : Int) (x5 : Int) : Option ((Config × Int × Int × (List SEntry) × Int × Int) ⊕ ((Int))) :=
 bif decide (x5 < x4) then
  bif decide ((0 : Int) ≤ x5) then
   bif decide (x5 < (↑x3.length : Int)) then
    bif (x3.getD x5.toNat dSEntry).kind != (2 : Int) then
     some (Sum.inl (x0, x1, x2, x3, x4, wrapA IntKind.i64 (x5 + (1 : Int))))
    else
     bif (x3.getD x5.toNat dSEntry).t != x2 then
      some (Sum.inr x1)
     else
      bif wrapA IntKind.i64 (x2 + (1 : Int)) == x0.threads then
       some (Sum.inl (x0, wrapA IntKind.i64 (x1 + (1 : Int)), (0 : Int), x3, x4, wrapA IntKind.i64 (x5 + (1 : Int))))
      else
       some (Sum.inl (x0, x1, wrapA IntKind.i64 (x2 + (1 : Int)), x3, x4, wrapA IntKind.i64 (x5 + (1 : Int))))
   else
    none
  else
   none
 else
  some (Sum.inr x1)
noncomputable def T_fair_Whole_3 (x : Config × Int × Int × (List SEntry) × Int × Int) : Option ((Config × Int × Int × (List SEntry) × Int × Int) ⊕ ((Int))) := S_fair_Whole_3 x.1 x.2.1 x.2.2.1 x.2.2.2.1 x.2.2.2.2.1 x.2.2.2.2.2
noncomputable def W_fair_Whole_3 (x : Config × Int × Int × (List SEntry) × Int × Int) : Option ((Int)) := whileM T_fair_Whole_3 x
noncomputable def F_fair_Whole (x0 : Config) (x1 : List SEntry) : Option (Int) :=
 match C_fair_behind x1 with
 | some y1 =>
  match W_fair_Whole_3 (x0, (0 : Int), (0 : Int), y1, (↑(List.length y1) : Int), (0 : Int)) with
  | some y2 =>
   some (y2)
  | none => none
 | none => none
noncomputable def C_fair_Whole (x : Config × (List SEntry)) : Option (Int) := F_fair_Whole x.1 x.2

/- millstream/millstreamref19.Whole -/
noncomputable def S_ref19_Whole_9 (x0 : List SEntry) (x1 : Config) (x2 : Int) (x3 : Int) : Option (((List SEntry) × Config × Int × Int) ⊕ ((Config × Int))) :=
 bif decide (x3 < (↑x0.length : Int)) then
  bif decide ((0 : Int) ≤ x3) then
   bif decide (x3 < (↑x0.length : Int)) then
    bif (x0.getD x3.toNat dSEntry).kind != (2 : Int) then
     some (Sum.inl (x0, x1, x2, wrapA IntKind.i64 (x3 + (1 : Int))))
    else
     bif decide ((0 : Int) ≤ x3) then
      bif decide (x3 < (↑x0.length : Int)) then
       bif decide (x1.threads = (0 : Int)) then
        none
       else
        bif (x0.getD x3.toNat dSEntry).t != x2.tmod x1.threads then
         some (Sum.inr (x1, x2))
        else
         some (Sum.inl (x0, x1, wrapA IntKind.i64 (x2 + (1 : Int)), wrapA IntKind.i64 (x3 + (1 : Int))))
      else
       none
     else
      none
   else
    none
  else
   none
 else
  some (Sum.inr (x1, x2))
noncomputable def T_ref19_Whole_9 (x : (List SEntry) × Config × Int × Int) : Option (((List SEntry) × Config × Int × Int) ⊕ ((Config × Int))) := S_ref19_Whole_9 x.1 x.2.1 x.2.2.1 x.2.2.2
noncomputable def W_ref19_Whole_9 (x : (List SEntry) × Config × Int × Int) : Option ((Config × Int)) := whileM T_ref19_Whole_9 x
noncomputable def S_ref19_Whole_3 (x0 : List SEntry) (x1 : Config) (x2 : Int) (x3 : Int) : Option (((List SEntry) × Config × Int × Int) ⊕ (((List SEntry) × Config × Int))) :=
 bif decide (x3 < (↑x0.length : Int)) then
  bif decide ((0 : Int) ≤ x3) then
   bif decide (x3 < (↑x0.length : Int)) then
    bif (x0.getD x3.toNat dSEntry).kind == (1 : Int) then
     some (Sum.inl (x0, x1, wrapA IntKind.i64 (x3 + (1 : Int)), wrapA IntKind.i64 (x3 + (1 : Int))))
    else
     some (Sum.inl (x0, x1, x2, wrapA IntKind.i64 (x3 + (1 : Int))))
   else
    none
  else
   none
 else
  some (Sum.inr (x0, x1, x2))
noncomputable def T_ref19_Whole_3 (x : (List SEntry) × Config × Int × Int) : Option (((List SEntry) × Config × Int × Int) ⊕ (((List SEntry) × Config × Int))) := S_ref19_Whole_3 x.1 x.2.1 x.2.2.1 x.2.2.2
noncomputable def W_ref19_Whole_3 (x : (List SEntry) × Config × Int × Int) : Option (((List SEntry) × Config × Int)) := whileM T_ref19_Whole_3 x
noncomputable def F_ref19_Whole (x0 : Config) (x1 : List SEntry) : Option (Int) :=
 match W_ref19_Whole_3 (x1, x0, (0 : Int), (0 : Int)) with
 | some y1 =>
  match W_ref19_Whole_9 (y1.fst, y1.snd.fst, (0 : Int), y1.snd.snd) with
  | some y2 =>
   bif decide (y2.fst.threads = (0 : Int)) then
    none
   else
    some (wrapA IntKind.i64 (Int.tdiv y2.snd y2.fst.threads))
  | none => none
 | none => none
noncomputable def C_ref19_Whole (x : Config × (List SEntry)) : Option (Int) := F_ref19_Whole x.1 x.2

/- millstream/fair.Fair -/
noncomputable def F_fair_Fair (x0 : Config) (x1 : List SEntry) : Option (Bool) :=
 match C_fair_Rounds x0 with
 | some y1 =>
  match C_fair_Whole (x0, x1) with
  | some y2 =>
   some (decide (y1 ≤ y2))
  | none => none
 | none => none
noncomputable def C_fair_Fair (x : Config × (List SEntry)) : Option (Bool) := F_fair_Fair x.1 x.2

/- millstream/millstreamref19.Fair -/
noncomputable def F_ref19_Fair (x0 : Config) (x1 : List SEntry) : Option (Bool) :=
 match C_ref19_Whole (x0, x1) with
 | some y1 =>
  match C_ref19_Rounds x0 with
  | some y2 =>
   some (decide (y1 ≥ y2))
  | none => none
 | none => none
noncomputable def C_ref19_Fair (x : Config × (List SEntry)) : Option (Bool) := F_ref19_Fair x.1 x.2

/- millstream/world.Busy -/
noncomputable def S_world_Busy_2 (x0 : Int) (x1 : List Thread) (x2 : Int) (x3 : Int) : Option ((Int × (List Thread) × Int × Int) ⊕ ((Int))) :=
 bif decide (x3 < x2) then
  bif decide ((0 : Int) ≤ x3) then
   bif decide (x3 < (↑x1.length : Int)) then
    match C_thread_Busy (x1.getD x3.toNat dThread) with
    | some y1 =>
     bif y1 then
      some (Sum.inl (wrapA IntKind.i64 (x0 + (1 : Int)), x1, x2, wrapA IntKind.i64 (x3 + (1 : Int))))
     else
      some (Sum.inl (x0, x1, x2, wrapA IntKind.i64 (x3 + (1 : Int))))
    | none => none
   else
    none
  else
   none
 else
  some (Sum.inr x0)
noncomputable def T_world_Busy_2 (x : Int × (List Thread) × Int × Int) : Option ((Int × (List Thread) × Int × Int) ⊕ ((Int))) := S_world_Busy_2 x.1 x.2.1 x.2.2.1 x.2.2.2
noncomputable def W_world_Busy_2 (x : Int × (List Thread) × Int × Int) : Option ((Int)) := whileM T_world_Busy_2 x
noncomputable def F_world_Busy (x0 : Wld) : Option (Int) :=
 match W_world_Busy_2 ((0 : Int), x0.t, (↑x0.t.length : Int), (0 : Int)) with
 | some y1 =>
  some (y1)
 | none => none
noncomputable def C_world_Busy (x : Wld) : Option (Int) := F_world_Busy x

/- millstream/millstreamref06.Cell -/
noncomputable def F_ref06_Cell (x0 : Config) (x1 : Int) : Option (Int) :=
 bif decide (x1 < (0 : Int)) then
  some ((-1 : Int))
 else
  bif decide (x1 ≥ x0.items) then
   some ((-1 : Int))
  else
   match C_ref06_block x0 with
   | some y1 =>
    some (wrapA IntKind.i64 (x1 * y1))
   | none => none
noncomputable def C_ref06_Cell (x : Config × Int) : Option (Int) := F_ref06_Cell x.1 x.2

/- millstream/millstreamref01.sum -/
noncomputable def F_ref01_sum (x0 : Int) (x1 : Int) : Option (Int × Bool) :=
 some ((wrapA IntKind.i64 (x0 + x1), decide (x1 ≥ (0 : Int)) == decide (wrapA IntKind.i64 (x0 + x1) ≥ x0)))
noncomputable def C_ref01_sum (x : Int × Int) : Option (Int × Bool) := F_ref01_sum x.1 x.2

/- millstream/millstreamref01.Apply -/
noncomputable def F_ref01_Apply (x0 : Op) (x1 : Int) (x2 : Int) (x3 : Int) : Option (Int × Bool) :=
 bif x0.tag == (1 : Int) then
  some ((wrapA IntKind.i64 (x1 + x0.v), true))
 else
  bif x0.tag == (2 : Int) then
   some ((wrapA IntKind.i64 (x1 - x0.v), true))
  else
   bif x0.tag == (3 : Int) then
    some ((wrapA IntKind.i64 (↑(BitVec.ofInt IntKind.i64.bits x1 ||| BitVec.ofInt IntKind.i64.bits x0.v).toNat : Int), true))
   else
    bif x0.tag == (4 : Int) then
     some ((wrapA IntKind.i64 (↑(BitVec.ofInt IntKind.i64.bits x1 &&& BitVec.ofInt IntKind.i64.bits x0.v).toNat : Int), true))
    else
     bif x0.tag == (5 : Int) then
      some ((if x0.v > x1 then x0.v else x1, true))
     else
      bif x0.tag == (6 : Int) then
       some ((if x0.v < x1 then x0.v else x1, true))
      else
       bif x0.tag == (7 : Int) then
        some ((x0.v, true))
       else
        bif x0.tag == (8 : Int) then
         match C_ref01_sum (x1, x0.v) with
         | some y1 =>
          bif !y1.snd then
           some ((x1, false))
          else
           bif decide (y1.fst < x2) then
            some ((x1, false))
           else
            bif decide (y1.fst > x3) then
             some ((x1, false))
            else
             some ((y1.fst, true))
         | none => none
        else
         bif x0.tag == (9 : Int) then
          bif decide (x0.v < (0 : Int)) then
           some ((x1, false))
          else
           bif decide (x1 < x2) then
            some ((x1, false))
           else
            bif decide (IntKind.u64.wrap x0.v ≥ wrapA IntKind.u64 (IntKind.u64.wrap x1 - IntKind.u64.wrap x2)) then
             some ((x2, true))
            else
             some ((wrapA IntKind.i64 (x1 - x0.v), true))
         else
          some ((x1, false))
noncomputable def C_ref01_Apply (x : Op × Int × Int × Int) : Option (Int × Bool) := F_ref01_Apply x.1 x.2.1 x.2.2.1 x.2.2.2

/- millstream/config.Check -/
noncomputable def S_config_Check_2 (x0 : Config) (x1 : Int × Int × Int × Int × Int × Int × Int × Int × Int × Int × Int × Int × Int × Int × Int × Int × Int × Int × Int × Int × Int × Int × Int × Int) (x2 : Int) : Option ((Config × (Int × Int × Int × Int × Int × Int × Int × Int × Int × Int × Int × Int × Int × Int × Int × Int × Int × Int × Int × Int × Int × Int × Int × Int) × Int) ⊕ ((Config) ⊕ (Int))) :=
 bif decide (x2 < (8 : Int)) then
  bif decide ((0 : Int) ≤ x2) then
   bif decide (x2 < (↑(8 : Nat) : Int)) then
    bif decide (x2 = (↑(0 : Nat) : Int)) then
     bif decide (x1.fst < x1.snd.fst) then
      some (Sum.inr (Sum.inr (wrapA IntKind.i64 ((50 : Int) + x2))))
     else
      bif decide (x1.fst > x1.snd.snd.fst) then
       some (Sum.inr (Sum.inr (wrapA IntKind.i64 ((50 : Int) + x2))))
      else
       some (Sum.inl (x0, x1, wrapA IntKind.i64 (x2 + (1 : Int))))
    else
     bif decide (x2 = (↑((0 : Nat) + (1 : Nat)) : Int)) then
      bif decide (x1.snd.snd.snd.fst < x1.snd.snd.snd.snd.fst) then
       some (Sum.inr (Sum.inr (wrapA IntKind.i64 ((50 : Int) + x2))))
      else
       bif decide (x1.snd.snd.snd.fst > x1.snd.snd.snd.snd.snd.fst) then
        some (Sum.inr (Sum.inr (wrapA IntKind.i64 ((50 : Int) + x2))))
       else
        some (Sum.inl (x0, x1, wrapA IntKind.i64 (x2 + (1 : Int))))
     else
      bif decide (x2 = (↑((0 : Nat) + (1 : Nat) + (1 : Nat)) : Int)) then
       bif decide (x1.snd.snd.snd.snd.snd.snd.fst < x1.snd.snd.snd.snd.snd.snd.snd.fst) then
        some (Sum.inr (Sum.inr (wrapA IntKind.i64 ((50 : Int) + x2))))
       else
        bif decide (x1.snd.snd.snd.snd.snd.snd.fst > x1.snd.snd.snd.snd.snd.snd.snd.snd.fst) then
         some (Sum.inr (Sum.inr (wrapA IntKind.i64 ((50 : Int) + x2))))
        else
         some (Sum.inl (x0, x1, wrapA IntKind.i64 (x2 + (1 : Int))))
      else
       bif decide (x2 = (↑((0 : Nat) + (1 : Nat) + (1 : Nat) + (1 : Nat)) : Int)) then
        bif decide (x1.snd.snd.snd.snd.snd.snd.snd.snd.snd.fst < x1.snd.snd.snd.snd.snd.snd.snd.snd.snd.snd.fst) then
         some (Sum.inr (Sum.inr (wrapA IntKind.i64 ((50 : Int) + x2))))
        else
         bif decide (x1.snd.snd.snd.snd.snd.snd.snd.snd.snd.fst > x1.snd.snd.snd.snd.snd.snd.snd.snd.snd.snd.snd.fst) then
          some (Sum.inr (Sum.inr (wrapA IntKind.i64 ((50 : Int) + x2))))
         else
          some (Sum.inl (x0, x1, wrapA IntKind.i64 (x2 + (1 : Int))))
       else
        bif decide (x2 = (↑((0 : Nat) + (1 : Nat) + (1 : Nat) + (1 : Nat) + (1 : Nat)) : Int)) then
         bif decide (x1.snd.snd.snd.snd.snd.snd.snd.snd.snd.snd.snd.snd.fst < x1.snd.snd.snd.snd.snd.snd.snd.snd.snd.snd.snd.snd.snd.fst) then
          some (Sum.inr (Sum.inr (wrapA IntKind.i64 ((50 : Int) + x2))))
         else
          bif decide (x1.snd.snd.snd.snd.snd.snd.snd.snd.snd.snd.snd.snd.fst > x1.snd.snd.snd.snd.snd.snd.snd.snd.snd.snd.snd.snd.snd.snd.fst) then
           some (Sum.inr (Sum.inr (wrapA IntKind.i64 ((50 : Int) + x2))))
          else
           some (Sum.inl (x0, x1, wrapA IntKind.i64 (x2 + (1 : Int))))
        else
         bif decide (x2 = (↑((0 : Nat) + (1 : Nat) + (1 : Nat) + (1 : Nat) + (1 : Nat) + (1 : Nat)) : Int)) then
          bif decide (x1.snd.snd.snd.snd.snd.snd.snd.snd.snd.snd.snd.snd.snd.snd.snd.fst < x1.snd.snd.snd.snd.snd.snd.snd.snd.snd.snd.snd.snd.snd.snd.snd.snd.fst) then
           some (Sum.inr (Sum.inr (wrapA IntKind.i64 ((50 : Int) + x2))))
          else
           bif decide (x1.snd.snd.snd.snd.snd.snd.snd.snd.snd.snd.snd.snd.snd.snd.snd.fst > x1.snd.snd.snd.snd.snd.snd.snd.snd.snd.snd.snd.snd.snd.snd.snd.snd.snd.fst) then
            some (Sum.inr (Sum.inr (wrapA IntKind.i64 ((50 : Int) + x2))))
           else
            some (Sum.inl (x0, x1, wrapA IntKind.i64 (x2 + (1 : Int))))
         else
          bif decide (x2 = (↑((0 : Nat) + (1 : Nat) + (1 : Nat) + (1 : Nat) + (1 : Nat) + (1 : Nat) + (1 : Nat)) : Int)) then
           bif decide (x1.snd.snd.snd.snd.snd.snd.snd.snd.snd.snd.snd.snd.snd.snd.snd.snd.snd.snd.fst < x1.snd.snd.snd.snd.snd.snd.snd.snd.snd.snd.snd.snd.snd.snd.snd.snd.snd.snd.snd.fst) then
            some (Sum.inr (Sum.inr (wrapA IntKind.i64 ((50 : Int) + x2))))
           else
            bif decide (x1.snd.snd.snd.snd.snd.snd.snd.snd.snd.snd.snd.snd.snd.snd.snd.snd.snd.snd.fst > x1.snd.snd.snd.snd.snd.snd.snd.snd.snd.snd.snd.snd.snd.snd.snd.snd.snd.snd.snd.snd.fst) then
             some (Sum.inr (Sum.inr (wrapA IntKind.i64 ((50 : Int) + x2))))
            else
             some (Sum.inl (x0, x1, wrapA IntKind.i64 (x2 + (1 : Int))))
          else
           bif decide (x2 = (↑((0 : Nat) + (1 : Nat) + (1 : Nat) + (1 : Nat) + (1 : Nat) + (1 : Nat) + (1 : Nat) + (1 : Nat)) : Int)) then
            bif decide (x1.snd.snd.snd.snd.snd.snd.snd.snd.snd.snd.snd.snd.snd.snd.snd.snd.snd.snd.snd.snd.snd.fst < x1.snd.snd.snd.snd.snd.snd.snd.snd.snd.snd.snd.snd.snd.snd.snd.snd.snd.snd.snd.snd.snd.snd.fst) then
             some (Sum.inr (Sum.inr (wrapA IntKind.i64 ((50 : Int) + x2))))
            else
             bif decide (x1.snd.snd.snd.snd.snd.snd.snd.snd.snd.snd.snd.snd.snd.snd.snd.snd.snd.snd.snd.snd.snd.fst > x1.snd.snd.snd.snd.snd.snd.snd.snd.snd.snd.snd.snd.snd.snd.snd.snd.snd.snd.snd.snd.snd.snd.snd) then
              some (Sum.inr (Sum.inr (wrapA IntKind.i64 ((50 : Int) + x2))))
             else
              some (Sum.inl (x0, x1, wrapA IntKind.i64 (x2 + (1 : Int))))
           else
            none
   else
    none
  else
   none
 else
  some (Sum.inr (Sum.inl x0))
noncomputable def T_config_Check_2 (x : Config × (Int × Int × Int × Int × Int × Int × Int × Int × Int × Int × Int × Int × Int × Int × Int × Int × Int × Int × Int × Int × Int × Int × Int × Int) × Int) : Option ((Config × (Int × Int × Int × Int × Int × Int × Int × Int × Int × Int × Int × Int × Int × Int × Int × Int × Int × Int × Int × Int × Int × Int × Int × Int) × Int) ⊕ ((Config) ⊕ (Int))) := S_config_Check_2 x.1 x.2.1 x.2.2
noncomputable def W_config_Check_2 (x : Config × (Int × Int × Int × Int × Int × Int × Int × Int × Int × Int × Int × Int × Int × Int × Int × Int × Int × Int × Int × Int × Int × Int × Int × Int) × Int) : Option ((Config) ⊕ (Int)) := whileM T_config_Check_2 x
noncomputable def F_config_Check (x0 : Config) : Option (Int) :=
 match W_config_Check_2 (x0, (x0.threads, (1 : Int), (16 : Int), x0.items, (1 : Int), (4 : Int), x0.backend, (1 : Int), (3 : Int), x0.depth, (0 : Int), (4 : Int), x0.layers, (0 : Int), (3 : Int), x0.width, (1 : Int), (8 : Int), x0.spin, (0 : Int), (20 : Int), x0.wait, (0 : Int), (1000 : Int)), (0 : Int)) with
 | some (.inl y1) =>
  bif y1.bounded then
   bif decide (y1.init < y1.lo) then
    some ((58 : Int))
   else
    bif decide (y1.hi < y1.init) then
     some ((58 : Int))
    else
     some ((0 : Int))
  else
   some ((0 : Int))
 | some (.inr y2) =>
  some (y2)
 | none => none
noncomputable def C_config_Check (x : Config) : Option (Int) := F_config_Check x

/- millstream/script.All -/
noncomputable def S_script_All_7 (x0 : Config) (x1 : List SEntry) (x2 : Int) (x3 : Int) : Option ((Config × (List SEntry) × Int × Int) ⊕ ((Unit) ⊕ (Int × Int))) :=
 bif decide (x3 < x2) then
  bif decide ((0 : Int) ≤ x3) then
   bif decide (x3 < (↑x1.length : Int)) then
    match C_script_Check (x0, x1.getD x3.toNat dSEntry) with
    | some y1 =>
     bif y1 != (0 : Int) then
      some (Sum.inr (Sum.inr (x3, y1)))
     else
      some (Sum.inl (x0, x1, x2, wrapA IntKind.i64 (x3 + (1 : Int))))
    | none => none
   else
    none
  else
   none
 else
  some (Sum.inr (Sum.inl ()))
noncomputable def T_script_All_7 (x : Config × (List SEntry) × Int × Int) : Option ((Config × (List SEntry) × Int × Int) ⊕ ((Unit) ⊕ (Int × Int))) := S_script_All_7 x.1 x.2.1 x.2.2.1 x.2.2.2
noncomputable def W_script_All_7 (x : Config × (List SEntry) × Int × Int) : Option ((Unit) ⊕ (Int × Int)) := whileM T_script_All_7 x
noncomputable def F_script_All (x0 : Config) (x1 : List SEntry) : Option (Int × Int) :=
 match C_config_Check x0 with
 | some y1 =>
  bif y1 != (0 : Int) then
   some (((0 : Int), y1))
  else
   bif decide ((↑x1.length : Int) > (65536 : Int)) then
    some (((0 : Int), (2 : Int)))
   else
    match W_script_All_7 (x0, x1, (↑x1.length : Int), (0 : Int)) with
    | some (.inl y2) =>
     some (((0 : Int), (0 : Int)))
    | some (.inr y3) =>
     some (y3)
    | none => none
 | none => none
noncomputable def C_script_All (x : Config × (List SEntry)) : Option (Int × Int) := F_script_All x.1 x.2

/- millstream/arena.Nodes -/
noncomputable def F_arena_Nodes (x0 : Config) : Option (Int) :=
 bif decide (x0.depth < (0 : Int)) then
  none
 else
  some (wrapA IntKind.i64 (wrapA IntKind.i64 ((1 : Int) * (2 : Int) ^ min x0.depth.toNat IntKind.i64.bits) - (1 : Int)))
noncomputable def C_arena_Nodes (x : Config) : Option (Int) := F_arena_Nodes x

/- millstream/arena.of -/
noncomputable def F_arena_of (x0 : Config) : Option (Plan) :=
 match C_arena_Nodes x0 with
 | some y1 =>
  some (Plan.mk (1 : Int) (wrapA IntKind.i64 ((1 : Int) + y1)) (wrapA IntKind.i64 (wrapA IntKind.i64 ((1 : Int) + y1) + wrapA IntKind.i64 (x0.layers * x0.width))) (wrapA IntKind.i64 (x0.items * wrapA IntKind.i64 (wrapA IntKind.i64 ((1 : Int) + y1) + wrapA IntKind.i64 (x0.layers * x0.width)))))
 | none => none
noncomputable def C_arena_of (x : Config) : Option (Plan) := F_arena_of x

/- millstream/arena.Cell -/
noncomputable def F_arena_Cell (x0 : Config) (x1 : Int) : Option (Int) :=
 bif decide (x1 < (0 : Int)) then
  some ((-1 : Int))
 else
  bif decide (x1 ≥ x0.items) then
   some ((-1 : Int))
  else
   match C_arena_of x0 with
   | some y1 =>
    some (wrapA IntKind.i64 (x1 * y1.block))
   | none => none
noncomputable def C_arena_Cell (x : Config × Int) : Option (Int) := F_arena_Cell x.1 x.2

/- millstream/wmem.made[int] -/
noncomputable def F_wmem_made_int (x0 : Int) : Option ((List Int)) :=
 bif decide (x0 < (1 : Int)) then
  some (([] : List Int))
 else
  bif decide (x0 > (10000 : Int)) then
   some (([] : List Int))
  else
   bif x0 == x0 then
    bif decide ((0 : Int) ≤ x0) then
     bif decide (x0 ≤ maxElems) then
      some (List.replicate x0.toNat (0 : Int))
     else
      none
    else
     none
   else
    none
noncomputable def C_wmem_made_int (x : Int) : Option ((List Int)) := F_wmem_made_int x

/- millstream/wmem.made[[]millstream/batch.Entry] -/
noncomputable def F_wmem_made_lbatch_Entry (x0 : Int) : Option ((List (List Entry))) :=
 bif decide (x0 < (1 : Int)) then
  some (([] : List (List Entry)))
 else
  bif decide (x0 > (10000 : Int)) then
   some (([] : List (List Entry)))
  else
   bif x0 == x0 then
    bif decide ((0 : Int) ≤ x0) then
     bif decide (x0 ≤ maxElems) then
      some (List.replicate x0.toNat ([] : List Entry))
     else
      none
    else
     none
   else
    none
noncomputable def C_wmem_made_lbatch_Entry (x : Int) : Option ((List (List Entry))) := F_wmem_made_lbatch_Entry x

/- millstream/wmem.New -/
noncomputable def F_wmem_New (x0 : Int) (x1 : Int) : Option (Memo) :=
 match C_wmem_made_int x0 with
 | some y1 =>
  match C_wmem_made_lbatch_Entry x1 with
  | some y2 =>
   some (Memo.mk y1 y2)
  | none => none
 | none => none
noncomputable def C_wmem_New (x : Int × Int) : Option (Memo) := F_wmem_New x.1 x.2

/- millstream/arena.Size -/
noncomputable def F_arena_Size (x0 : Config) : Option (Int) :=
 match C_arena_of x0 with
 | some y1 =>
  some (wrapA IntKind.i64 (y1.lines + wrapA IntKind.i64 ((2 : Int) * x0.threads)))
 | none => none
noncomputable def C_arena_Size (x : Config) : Option (Int) := F_arena_Size x

/- millstream/arena.Build -/
noncomputable def S_arena_Build_3 (x0 : Config) (x1 : Memo) (x2 : Memo) (x3 : Int) (x4 : Int) : Option ((Config × Memo × Memo × Int × Int) ⊕ ((Memo × Memo))) :=
 bif decide (x4 < x3) then
  match C_arena_Cell (x0, x4) with
  | some y1 =>
   bif decide ((0 : Int) ≤ y1) then
    bif decide (y1 < (↑x2.words.length : Int)) then
     some (Sum.inl (x0, x1, { x2 with words := x2.words.set (Int.toNat y1) x0.init }, x3, wrapA IntKind.i64 (x4 + (1 : Int))))
    else
     none
   else
    none
  | none => none
 else
  some (Sum.inr (x1, x2))
noncomputable def T_arena_Build_3 (x : Config × Memo × Memo × Int × Int) : Option ((Config × Memo × Memo × Int × Int) ⊕ ((Memo × Memo))) := S_arena_Build_3 x.1 x.2.1 x.2.2.1 x.2.2.2.1 x.2.2.2.2
noncomputable def W_arena_Build_3 (x : Config × Memo × Memo × Int × Int) : Option ((Memo × Memo)) := whileM T_arena_Build_3 x
noncomputable def F_arena_Build (x0 : Config) : Option (Memo) :=
 match C_arena_Size x0 with
 | some y1 =>
  match C_wmem_New (y1, x0.threads) with
  | some y2 =>
   match W_arena_Build_3 (x0, Memo.mk ([] : List Int) ([] : List (List Entry)), y2, x0.items, (0 : Int)) with
   | some y3 =>
    some (y3.snd)
   | none => none
  | none => none
 | none => none
noncomputable def C_arena_Build (x : Config) : Option (Memo) := F_arena_Build x

/- millstream/thread.New -/
noncomputable def F_thread_New : Option (Thread) :=
 some (Thread.mk (0 : Int) (0 : Int) (Op.mk (0 : Int) (0 : Int)) ([] : List Entry) ([] : List Kid) ([] : List Int) (0 : Int) (0 : Int) (0 : Int) (0 : Int) (0 : Int) (1 : Int) (0 : Int) (0 : Int) (0 : Int) (0 : Int))
noncomputable def C_thread_New (x : Unit) : Option (Thread) := F_thread_New

/- slices.Clone[[]int,int] -/
noncomputable def F_slices_Clone_int (x0 : List Int) : Option ((List Int)) :=
 bif fewB ((0 : Nat) + x0.length) then
  some (x0)
 else
  none
noncomputable def C_slices_Clone_int (x : (List Int)) : Option ((List Int)) := F_slices_Clone_int x

/- millstream/script.size -/
noncomputable def F_script_size (x0 : Int) : Option (Int) :=
 bif x0 == (1 : Int) then
  some ((12 : Int))
 else
  bif x0 == (2 : Int) then
   some ((2 : Int))
  else
   some ((1 : Int))
noncomputable def C_script_size (x : Int) : Option (Int) := F_script_size x

/- millstream/wmem.at[int] -/
noncomputable def F_wmem_at_int (x0 : List Int) (x1 : Int) : Option (Int × Int) :=
 bif decide (x1 < (0 : Int)) then
  some (((0 : Int), (30 : Int)))
 else
  bif decide (x1 ≥ (↑x0.length : Int)) then
   some (((0 : Int), (30 : Int)))
  else
   bif decide ((0 : Int) ≤ x1) then
    bif decide (x1 < (↑x0.length : Int)) then
     some ((x0.getD x1.toNat (0 : Int), (0 : Int)))
    else
     none
   else
    none
noncomputable def C_wmem_at_int (x : (List Int) × Int) : Option (Int × Int) := F_wmem_at_int x.1 x.2

/- millstream/wmem.Load -/
noncomputable def F_wmem_Load (x0 : Memo) (x1 : Int) : Option (Int × Int) :=
 match C_wmem_at_int (x0.words, x1) with
 | some y1 =>
  some (y1)
 | none => none
noncomputable def C_wmem_Load (x : Memo × Int) : Option (Int × Int) := F_wmem_Load x.1 x.2

/- math/bits.Mul64 -/
noncomputable def F_math_bits_Mul64 (x0 : Int) (x1 : Int) : Option (Int × Int) :=
 some ((wrapA IntKind.u64 (wrapA IntKind.u64 (wrapA IntKind.u64 (x0.fdiv ((2 : Int) ^ min (Int.toNat (32 : Int)) IntKind.u64.bits) * x1.fdiv ((2 : Int) ^ min (Int.toNat (32 : Int)) IntKind.u64.bits)) + (wrapA IntKind.u64 (wrapA IntKind.u64 (x0.fdiv ((2 : Int) ^ min (Int.toNat (32 : Int)) IntKind.u64.bits) * wrapA IntKind.u64 (↑(BitVec.ofInt IntKind.u64.bits x1 &&& BitVec.ofInt IntKind.u64.bits (4294967295 : Int)).toNat : Int)) + (wrapA IntKind.u64 (wrapA IntKind.u64 (↑(BitVec.ofInt IntKind.u64.bits x0 &&& BitVec.ofInt IntKind.u64.bits (4294967295 : Int)).toNat : Int) * wrapA IntKind.u64 (↑(BitVec.ofInt IntKind.u64.bits x1 &&& BitVec.ofInt IntKind.u64.bits (4294967295 : Int)).toNat : Int))).fdiv ((2 : Int) ^ min (Int.toNat (32 : Int)) IntKind.u64.bits))).fdiv ((2 : Int) ^ min (Int.toNat (32 : Int)) IntKind.u64.bits)) + (wrapA IntKind.u64 (wrapA IntKind.u64 (↑(BitVec.ofInt IntKind.u64.bits (wrapA IntKind.u64 (wrapA IntKind.u64 (x0.fdiv ((2 : Int) ^ min (Int.toNat (32 : Int)) IntKind.u64.bits) * wrapA IntKind.u64 (↑(BitVec.ofInt IntKind.u64.bits x1 &&& BitVec.ofInt IntKind.u64.bits (4294967295 : Int)).toNat : Int)) + (wrapA IntKind.u64 (wrapA IntKind.u64 (↑(BitVec.ofInt IntKind.u64.bits x0 &&& BitVec.ofInt IntKind.u64.bits (4294967295 : Int)).toNat : Int) * wrapA IntKind.u64 (↑(BitVec.ofInt IntKind.u64.bits x1 &&& BitVec.ofInt IntKind.u64.bits (4294967295 : Int)).toNat : Int))).fdiv ((2 : Int) ^ min (Int.toNat (32 : Int)) IntKind.u64.bits))) &&& BitVec.ofInt IntKind.u64.bits (4294967295 : Int)).toNat : Int) + wrapA IntKind.u64 (wrapA IntKind.u64 (↑(BitVec.ofInt IntKind.u64.bits x0 &&& BitVec.ofInt IntKind.u64.bits (4294967295 : Int)).toNat : Int) * x1.fdiv ((2 : Int) ^ min (Int.toNat (32 : Int)) IntKind.u64.bits)))).fdiv ((2 : Int) ^ min (Int.toNat (32 : Int)) IntKind.u64.bits)), wrapA IntKind.u64 (x0 * x1)))
noncomputable def C_math_bits_Mul64 (x : Int × Int) : Option (Int × Int) := F_math_bits_Mul64 x.1 x.2

/- math/bits.Mul -/
noncomputable def F_math_bits_Mul (x0 : Int) (x1 : Int) : Option (Int × Int) :=
 match C_math_bits_Mul64 (x0, x1) with
 | some y1 =>
  some (y1)
 | none => none
noncomputable def C_math_bits_Mul (x : Int × Int) : Option (Int × Int) := F_math_bits_Mul x.1 x.2

/- millstream/oper.beyond -/
noncomputable def F_oper_beyond (x0 : Int) (x1 : Int) (x2 : Int) (x3 : Int) : Option (Bool) :=
 bif decide (x1 ≥ (0 : Int)) then
  bif decide (wrapA IntKind.i64 (x0 + x1) ≥ x0) then
   bif decide (wrapA IntKind.i64 (x0 + x1) < x2) then
    some (true)
   else
    some (decide (wrapA IntKind.i64 (x0 + x1) > x3))
  else
   bif decide (x1 < (0 : Int)) then
    bif decide (wrapA IntKind.i64 (x0 + x1) < x0) then
     bif decide (wrapA IntKind.i64 (x0 + x1) < x2) then
      some (true)
     else
      some (decide (wrapA IntKind.i64 (x0 + x1) > x3))
    else
     some (true)
   else
    some (true)
 else
  bif decide (x1 < (0 : Int)) then
   bif decide (wrapA IntKind.i64 (x0 + x1) < x0) then
    bif decide (wrapA IntKind.i64 (x0 + x1) < x2) then
     some (true)
    else
     some (decide (wrapA IntKind.i64 (x0 + x1) > x3))
   else
    some (true)
  else
   some (true)
noncomputable def C_oper_beyond (x : Int × Int × Int × Int) : Option (Bool) := F_oper_beyond x.1 x.2.1 x.2.2.1 x.2.2.2

/- millstream/oper.Apply -/
noncomputable def F_oper_Apply (x0 : Op) (x1 : Int) (x2 : Int) (x3 : Int) : Option (Int × Bool) :=
 bif x0.tag == (2 : Int) then
  some ((wrapA IntKind.i64 (x1 + wrapA IntKind.i64 ((0 : Int) - x0.v)), true))
 else
  bif x0.tag == (1 : Int) then
   some ((wrapA IntKind.i64 (x1 + x0.v), true))
  else
   bif x0.tag == (3 : Int) then
    some ((wrapA IntKind.i64 (↑(BitVec.ofInt IntKind.i64.bits x1 ||| BitVec.ofInt IntKind.i64.bits x0.v).toNat : Int), true))
   else
    bif x0.tag == (4 : Int) then
     some ((wrapA IntKind.i64 (↑(BitVec.ofInt IntKind.i64.bits x1 &&& BitVec.ofInt IntKind.i64.bits x0.v).toNat : Int), true))
    else
     bif x0.tag == (5 : Int) then
      some ((if x1 > x0.v then x1 else x0.v, true))
     else
      bif x0.tag == (6 : Int) then
       some ((if x1 < x0.v then x1 else x0.v, true))
      else
       bif x0.tag == (7 : Int) then
        some ((x0.v, true))
       else
        bif x0.tag == (9 : Int) then
         bif decide (x0.v < (0 : Int)) then
          some ((x1, false))
         else
          bif decide (x1 < x2) then
           some ((x1, false))
          else
           bif decide (wrapA IntKind.i64 (x1 - x0.v) ≤ x1) then
            bif decide (wrapA IntKind.i64 (x1 - x0.v) ≥ x2) then
             some ((wrapA IntKind.i64 (x1 - x0.v), true))
            else
             some ((x2, true))
           else
            some ((x2, true))
        else
         bif x0.tag == (8 : Int) then
          match C_oper_beyond (x1, x0.v, x2, x3) with
          | some y1 =>
           bif !y1 then
            some ((wrapA IntKind.i64 (x1 + x0.v), true))
           else
            some ((x1, false))
          | none => none
         else
          some ((x1, false))
noncomputable def C_oper_Apply (x : Op × Int × Int × Int) : Option (Int × Bool) := F_oper_Apply x.1 x.2.1 x.2.2.1 x.2.2.2

/- millstream/wmem.Store -/
noncomputable def F_wmem_Store (x0 : Memo) (x1 : Int) (x2 : Int) : Option (Memo × Int) :=
 match C_wmem_at_int (x0.words, x1) with
 | some y1 =>
  bif y1.snd != (0 : Int) then
   some ((x0, y1.snd))
  else
   match C_slices_Clone_int x0.words with
   | some y2 =>
    bif decide ((0 : Int) ≤ x1) then
     bif decide (x1 < (↑(List.length y2) : Int)) then
      some (({ x0 with words := List.set y2 x1.toNat x2 }, y1.snd))
     else
      none
    else
     none
   | none => none
 | none => none
noncomputable def C_wmem_Store (x : Memo × Int × Int) : Option (Memo × Int) := F_wmem_Store x.1 x.2.1 x.2.2

/- millstream/arena.Line -/
noncomputable def F_arena_Line (x0 : Config) (x1 : Int) : Option (Int) :=
 bif decide (x1 < (0 : Int)) then
  some ((-1 : Int))
 else
  bif decide (x1 ≥ x0.threads) then
   some ((-1 : Int))
  else
   match C_arena_of x0 with
   | some y1 =>
    some (wrapA IntKind.i64 (y1.lines + wrapA IntKind.i64 ((2 : Int) * x1)))
   | none => none
noncomputable def C_arena_Line (x : Config × Int) : Option (Int) := F_arena_Line x.1 x.2

/- millstream/machine.Start -/
noncomputable def F_machine_Start (x0 : Turn) : Option (Turn) :=
 bif x0.c.backend == (2 : Int) then
  bif decide (x0.c.depth > (0 : Int)) then
   some ({ x0 with th := { x0.th with phase := (4 : Int) } })
  else
   bif x0.c.backend == (3 : Int) then
    bif decide (x0.c.layers > (0 : Int)) then
     some ({ x0 with th := { x0.th with phase := (17 : Int), layer := (1 : Int) } })
    else
     some ({ x0 with th := { x0.th with phase := (2 : Int) } })
   else
    some ({ x0 with th := { x0.th with phase := (2 : Int) } })
 else
  bif x0.c.backend == (3 : Int) then
   bif decide (x0.c.layers > (0 : Int)) then
    some ({ x0 with th := { x0.th with phase := (17 : Int), layer := (1 : Int) } })
   else
    some ({ x0 with th := { x0.th with phase := (2 : Int) } })
  else
   some ({ x0 with th := { x0.th with phase := (2 : Int) } })
noncomputable def C_machine_Start (x : Turn) : Option (Turn) := F_machine_Start x

/- millstream/machine.clear -/
noncomputable def F_machine_clear (x0 : Turn) : Option (Turn × Bool) :=
 bif x0.th.phase != (1 : Int) then
  some ((x0, false))
 else
  match C_arena_Line (x0.c, x0.t) with
  | some y1 =>
   match C_wmem_Store (x0.m, y1, (0 : Int)) with
   | some y2 =>
    bif y2.snd != (0 : Int) then
     some ((x0, true))
    else
     match C_machine_Start { x0 with m := y2.fst } with
     | some y3 =>
      some ((y3, true))
     | none => none
   | none => none
  | none => none
noncomputable def C_machine_clear (x : Turn) : Option (Turn × Bool) := F_machine_clear x

/- millstream/arena.Node -/
noncomputable def F_arena_Node (x0 : Config) (x1 : Int) (x2 : Int) : Option (Int) :=
 bif decide (x1 < (0 : Int)) then
  some ((-1 : Int))
 else
  bif decide (x1 ≥ x0.items) then
   some ((-1 : Int))
  else
   match C_arena_Nodes x0 with
   | some y1 =>
    bif decide (x2 < (1 : Int)) then
     some ((-1 : Int))
    else
     bif decide (x2 ≥ wrapA IntKind.i64 ((1 : Int) + y1)) then
      some ((-1 : Int))
     else
      match C_arena_of x0 with
      | some y2 =>
       some (wrapA IntKind.i64 (wrapA IntKind.i64 (x1 * y2.block) + x2))
      | none => none
   | none => none
noncomputable def C_arena_Node (x : Config × Int × Int) : Option (Int) := F_arena_Node x.1 x.2.1 x.2.2

/- (millstream/code.said).word -/
noncomputable def F_code_said_word (x0 : Said) : Option (Int) :=
 some (wrapA IntKind.i64 (wrapA IntKind.i64 ((8 : Int) * wrapA IntKind.i64 (x0.n + (1 : Int))) + x0.kind))
noncomputable def C_code_said_word (x : Said) : Option (Int) := F_code_said_word x

/- millstream/code.First -/
noncomputable def F_code_First (x0 : Int) : Option (Int) :=
 match C_code_said_word (Said.mk (1 : Int) x0) with
 | some y1 =>
  some (y1)
 | none => none
noncomputable def C_code_First (x : Int) : Option (Int) := F_code_First x

/- millstream/shape.Parent -/
noncomputable def F_shape_Parent (x0 : Int) : Option (Int) :=
 some ((if (0 : Int) > x0 then (0 : Int) else x0).fdiv ((2 : Int) ^ min (Int.toNat (1 : Int)) IntKind.i64.bits))
noncomputable def C_shape_Parent (x : Int) : Option (Int) := F_shape_Parent x

/- millstream/climb.Down -/
noncomputable def F_climb_Down (x0 : Turn) : Option (Turn) :=
 bif decide (x0.th.stop > (0 : Int)) then
  bif decide (x0.th.at_ ≥ (0 : Int)) then
   bif decide (x0.th.at_ < (↑x0.th.held.length : Int)) then
    some ({ x0 with th := { x0.th with phase := (7 : Int) } })
   else
    some ({ x0 with th := { x0.th with phase := (11 : Int) } })
  else
   some ({ x0 with th := { x0.th with phase := (11 : Int) } })
 else
  bif decide (x0.th.at_ ≥ (0 : Int)) then
   bif decide (x0.th.at_ < (↑x0.th.held.length : Int)) then
    some ({ x0 with th := { x0.th with phase := (7 : Int) } })
   else
    some ({ x0 with th := { x0.th with phase := (2 : Int) } })
  else
   some ({ x0 with th := { x0.th with phase := (2 : Int) } })
noncomputable def C_climb_Down (x : Turn) : Option (Turn) := F_climb_Down x

/- millstream/climb.over -/
noncomputable def F_climb_over (x0 : Turn) : Option (Turn) :=
 match C_climb_Down { x0 with th := { x0.th with at_ := (0 : Int) } } with
 | some y1 =>
  some (y1)
 | none => none
noncomputable def C_climb_over (x : Turn) : Option (Turn) := F_climb_over x

/- millstream/climb.taken -/
noncomputable def F_climb_taken (x0 : Turn) : Option (Turn) :=
 match C_slices_Clone_int x0.th.held with
 | some y1 =>
  bif fewB (List.length y1 + (x0.th.node :: ([] : List Int)).length) then
   match C_shape_Parent x0.th.node with
   | some y2 =>
    bif decide (y2 > (0 : Int)) then
     some ({ x0 with th := { x0.th with held := y1 ++ x0.th.node :: ([] : List Int), node := y2 } })
    else
     match C_climb_over { x0 with th := { x0.th with held := y1 ++ x0.th.node :: ([] : List Int), node := y2 } } with
     | some y3 =>
      some (y3)
     | none => none
   | none => none
  else
   none
 | none => none
noncomputable def C_climb_taken (x : Turn) : Option (Turn) := F_climb_taken x

/- millstream/wmem.Cas -/
noncomputable def F_wmem_Cas (x0 : Memo) (x1 : Int) (x2 : Int) (x3 : Int) : Option (Memo × Bool × Int) :=
 match C_wmem_at_int (x0.words, x1) with
 | some y1 =>
  bif y1.snd != (0 : Int) then
   some ((x0, false, y1.snd))
  else
   bif y1.fst == x2 then
    match C_slices_Clone_int x0.words with
    | some y2 =>
     bif decide ((0 : Int) ≤ x1) then
      bif decide (x1 < (↑(List.length y2) : Int)) then
       some (({ x0 with words := List.set y2 x1.toNat x3 }, y1.fst == x2, y1.snd))
      else
       none
     else
      none
    | none => none
   else
    some ((x0, y1.fst == x2, y1.snd))
 | none => none
noncomputable def C_wmem_Cas (x : Memo × Int × Int × Int) : Option (Memo × Bool × Int) := F_wmem_Cas x.1 x.2.1 x.2.2.1 x.2.2.2

/- millstream/thread.Late -/
noncomputable def F_thread_Late (x0 : Turn) : Option (Bool) :=
 bif decide ((0 : Int) < x0.th.until_) then
  some (decide (x0.th.until_ ≤ x0.now))
 else
  some (false)
noncomputable def C_thread_Late (x : Turn) : Option (Bool) := F_thread_Late x

/- millstream/code.of -/
noncomputable def F_code_of (x0 : Int) : Option (Said) :=
 bif wrapA IntKind.i64 (↑(BitVec.ofInt IntKind.i64.bits x0 &&& BitVec.ofInt IntKind.i64.bits (7 : Int)).toNat : Int) == (5 : Int) && (wrapA IntKind.i64 (x0.fdiv ((2 : Int) ^ min (Int.toNat (3 : Int)) IntKind.i64.bits) - (1 : Int)) == (-1 : Int) && true) then
  some (Said.mk (wrapA IntKind.i64 (↑(BitVec.ofInt IntKind.i64.bits x0 &&& BitVec.ofInt IntKind.i64.bits (7 : Int)).toNat : Int)) (wrapA IntKind.i64 (x0.fdiv ((2 : Int) ^ min (Int.toNat (3 : Int)) IntKind.i64.bits) - (1 : Int))))
 else
  bif decide (wrapA IntKind.i64 (↑(BitVec.ofInt IntKind.i64.bits x0 &&& BitVec.ofInt IntKind.i64.bits (7 : Int)).toNat : Int) ≥ (1 : Int)) then
   bif decide (wrapA IntKind.i64 (↑(BitVec.ofInt IntKind.i64.bits x0 &&& BitVec.ofInt IntKind.i64.bits (7 : Int)).toNat : Int) ≤ (3 : Int)) then
    bif decide (wrapA IntKind.i64 (x0.fdiv ((2 : Int) ^ min (Int.toNat (3 : Int)) IntKind.i64.bits) - (1 : Int)) ≥ (0 : Int)) then
     bif decide (wrapA IntKind.i64 (x0.fdiv ((2 : Int) ^ min (Int.toNat (3 : Int)) IntKind.i64.bits) - (1 : Int)) < (16 : Int)) then
      some (Said.mk (wrapA IntKind.i64 (↑(BitVec.ofInt IntKind.i64.bits x0 &&& BitVec.ofInt IntKind.i64.bits (7 : Int)).toNat : Int)) (wrapA IntKind.i64 (x0.fdiv ((2 : Int) ^ min (Int.toNat (3 : Int)) IntKind.i64.bits) - (1 : Int))))
     else
      bif wrapA IntKind.i64 (↑(BitVec.ofInt IntKind.i64.bits x0 &&& BitVec.ofInt IntKind.i64.bits (7 : Int)).toNat : Int) == (4 : Int) then
       bif decide ((wrapA IntKind.i64 (x0.fdiv ((2 : Int) ^ min (Int.toNat (3 : Int)) IntKind.i64.bits) - (1 : Int))).fdiv ((2 : Int) ^ min (Int.toNat (4 : Int)) IntKind.i64.bits) ≥ (0 : Int)) then
        bif decide ((wrapA IntKind.i64 (x0.fdiv ((2 : Int) ^ min (Int.toNat (3 : Int)) IntKind.i64.bits) - (1 : Int))).fdiv ((2 : Int) ^ min (Int.toNat (4 : Int)) IntKind.i64.bits) < (4 : Int)) then
         bif decide (wrapA IntKind.i64 (↑(BitVec.ofInt IntKind.i64.bits (wrapA IntKind.i64 (x0.fdiv ((2 : Int) ^ min (Int.toNat (3 : Int)) IntKind.i64.bits) - (1 : Int))) &&& BitVec.ofInt IntKind.i64.bits (15 : Int)).toNat : Int) ≥ (1 : Int)) then
          bif decide (wrapA IntKind.i64 (↑(BitVec.ofInt IntKind.i64.bits (wrapA IntKind.i64 (x0.fdiv ((2 : Int) ^ min (Int.toNat (3 : Int)) IntKind.i64.bits) - (1 : Int))) &&& BitVec.ofInt IntKind.i64.bits (15 : Int)).toNat : Int) ≤ (3 : Int)) then
           some (Said.mk (wrapA IntKind.i64 (↑(BitVec.ofInt IntKind.i64.bits x0 &&& BitVec.ofInt IntKind.i64.bits (7 : Int)).toNat : Int)) (wrapA IntKind.i64 (x0.fdiv ((2 : Int) ^ min (Int.toNat (3 : Int)) IntKind.i64.bits) - (1 : Int))))
          else
           some (Said.mk (0 : Int) (0 : Int))
         else
          some (Said.mk (0 : Int) (0 : Int))
        else
         some (Said.mk (0 : Int) (0 : Int))
       else
        some (Said.mk (0 : Int) (0 : Int))
      else
       some (Said.mk (0 : Int) (0 : Int))
    else
     bif wrapA IntKind.i64 (↑(BitVec.ofInt IntKind.i64.bits x0 &&& BitVec.ofInt IntKind.i64.bits (7 : Int)).toNat : Int) == (4 : Int) then
      bif decide ((wrapA IntKind.i64 (x0.fdiv ((2 : Int) ^ min (Int.toNat (3 : Int)) IntKind.i64.bits) - (1 : Int))).fdiv ((2 : Int) ^ min (Int.toNat (4 : Int)) IntKind.i64.bits) ≥ (0 : Int)) then
       bif decide ((wrapA IntKind.i64 (x0.fdiv ((2 : Int) ^ min (Int.toNat (3 : Int)) IntKind.i64.bits) - (1 : Int))).fdiv ((2 : Int) ^ min (Int.toNat (4 : Int)) IntKind.i64.bits) < (4 : Int)) then
        bif decide (wrapA IntKind.i64 (↑(BitVec.ofInt IntKind.i64.bits (wrapA IntKind.i64 (x0.fdiv ((2 : Int) ^ min (Int.toNat (3 : Int)) IntKind.i64.bits) - (1 : Int))) &&& BitVec.ofInt IntKind.i64.bits (15 : Int)).toNat : Int) ≥ (1 : Int)) then
         bif decide (wrapA IntKind.i64 (↑(BitVec.ofInt IntKind.i64.bits (wrapA IntKind.i64 (x0.fdiv ((2 : Int) ^ min (Int.toNat (3 : Int)) IntKind.i64.bits) - (1 : Int))) &&& BitVec.ofInt IntKind.i64.bits (15 : Int)).toNat : Int) ≤ (3 : Int)) then
          some (Said.mk (wrapA IntKind.i64 (↑(BitVec.ofInt IntKind.i64.bits x0 &&& BitVec.ofInt IntKind.i64.bits (7 : Int)).toNat : Int)) (wrapA IntKind.i64 (x0.fdiv ((2 : Int) ^ min (Int.toNat (3 : Int)) IntKind.i64.bits) - (1 : Int))))
         else
          some (Said.mk (0 : Int) (0 : Int))
        else
         some (Said.mk (0 : Int) (0 : Int))
       else
        some (Said.mk (0 : Int) (0 : Int))
      else
       some (Said.mk (0 : Int) (0 : Int))
     else
      some (Said.mk (0 : Int) (0 : Int))
   else
    bif wrapA IntKind.i64 (↑(BitVec.ofInt IntKind.i64.bits x0 &&& BitVec.ofInt IntKind.i64.bits (7 : Int)).toNat : Int) == (4 : Int) then
     bif decide ((wrapA IntKind.i64 (x0.fdiv ((2 : Int) ^ min (Int.toNat (3 : Int)) IntKind.i64.bits) - (1 : Int))).fdiv ((2 : Int) ^ min (Int.toNat (4 : Int)) IntKind.i64.bits) ≥ (0 : Int)) then
      bif decide ((wrapA IntKind.i64 (x0.fdiv ((2 : Int) ^ min (Int.toNat (3 : Int)) IntKind.i64.bits) - (1 : Int))).fdiv ((2 : Int) ^ min (Int.toNat (4 : Int)) IntKind.i64.bits) < (4 : Int)) then
       bif decide (wrapA IntKind.i64 (↑(BitVec.ofInt IntKind.i64.bits (wrapA IntKind.i64 (x0.fdiv ((2 : Int) ^ min (Int.toNat (3 : Int)) IntKind.i64.bits) - (1 : Int))) &&& BitVec.ofInt IntKind.i64.bits (15 : Int)).toNat : Int) ≥ (1 : Int)) then
        bif decide (wrapA IntKind.i64 (↑(BitVec.ofInt IntKind.i64.bits (wrapA IntKind.i64 (x0.fdiv ((2 : Int) ^ min (Int.toNat (3 : Int)) IntKind.i64.bits) - (1 : Int))) &&& BitVec.ofInt IntKind.i64.bits (15 : Int)).toNat : Int) ≤ (3 : Int)) then
         some (Said.mk (wrapA IntKind.i64 (↑(BitVec.ofInt IntKind.i64.bits x0 &&& BitVec.ofInt IntKind.i64.bits (7 : Int)).toNat : Int)) (wrapA IntKind.i64 (x0.fdiv ((2 : Int) ^ min (Int.toNat (3 : Int)) IntKind.i64.bits) - (1 : Int))))
        else
         some (Said.mk (0 : Int) (0 : Int))
       else
        some (Said.mk (0 : Int) (0 : Int))
      else
       some (Said.mk (0 : Int) (0 : Int))
     else
      some (Said.mk (0 : Int) (0 : Int))
    else
     some (Said.mk (0 : Int) (0 : Int))
  else
   bif wrapA IntKind.i64 (↑(BitVec.ofInt IntKind.i64.bits x0 &&& BitVec.ofInt IntKind.i64.bits (7 : Int)).toNat : Int) == (4 : Int) then
    bif decide ((wrapA IntKind.i64 (x0.fdiv ((2 : Int) ^ min (Int.toNat (3 : Int)) IntKind.i64.bits) - (1 : Int))).fdiv ((2 : Int) ^ min (Int.toNat (4 : Int)) IntKind.i64.bits) ≥ (0 : Int)) then
     bif decide ((wrapA IntKind.i64 (x0.fdiv ((2 : Int) ^ min (Int.toNat (3 : Int)) IntKind.i64.bits) - (1 : Int))).fdiv ((2 : Int) ^ min (Int.toNat (4 : Int)) IntKind.i64.bits) < (4 : Int)) then
      bif decide (wrapA IntKind.i64 (↑(BitVec.ofInt IntKind.i64.bits (wrapA IntKind.i64 (x0.fdiv ((2 : Int) ^ min (Int.toNat (3 : Int)) IntKind.i64.bits) - (1 : Int))) &&& BitVec.ofInt IntKind.i64.bits (15 : Int)).toNat : Int) ≥ (1 : Int)) then
       bif decide (wrapA IntKind.i64 (↑(BitVec.ofInt IntKind.i64.bits (wrapA IntKind.i64 (x0.fdiv ((2 : Int) ^ min (Int.toNat (3 : Int)) IntKind.i64.bits) - (1 : Int))) &&& BitVec.ofInt IntKind.i64.bits (15 : Int)).toNat : Int) ≤ (3 : Int)) then
        some (Said.mk (wrapA IntKind.i64 (↑(BitVec.ofInt IntKind.i64.bits x0 &&& BitVec.ofInt IntKind.i64.bits (7 : Int)).toNat : Int)) (wrapA IntKind.i64 (x0.fdiv ((2 : Int) ^ min (Int.toNat (3 : Int)) IntKind.i64.bits) - (1 : Int))))
       else
        some (Said.mk (0 : Int) (0 : Int))
      else
       some (Said.mk (0 : Int) (0 : Int))
     else
      some (Said.mk (0 : Int) (0 : Int))
    else
     some (Said.mk (0 : Int) (0 : Int))
   else
    some (Said.mk (0 : Int) (0 : Int))
noncomputable def C_code_of (x : Int) : Option (Said) := F_code_of x

/- millstream/code.Kind -/
noncomputable def F_code_Kind (x0 : Int) : Option (Int) :=
 match C_code_of x0 with
 | some y1 =>
  bif x0 == (0 : Int) then
   some (y1.kind)
  else
   bif !(y1.kind == (0 : Int) && (y1.n == (0 : Int) && true)) then
    some (y1.kind)
   else
    some ((-1 : Int))
 | none => none
noncomputable def C_code_Kind (x : Int) : Option (Int) := F_code_Kind x

/- millstream/climb.look -/
noncomputable def F_climb_look (x0 : Turn) (x1 : Int) : Option (Turn) :=
 match C_code_Kind x1 with
 | some y1 =>
  bif y1 == (1 : Int) then
   some ({ x0 with th := { x0.th with phase := (6 : Int), x := x1 } })
  else
   bif y1 == (0 : Int) then
    some ({ x0 with th := { x0.th with phase := (5 : Int) } })
   else
    match C_thread_Late x0 with
    | some y2 =>
     bif y2 then
      match C_climb_over x0 with
      | some y3 =>
       some (y3)
      | none => none
     else
      some (x0)
    | none => none
 | none => none
noncomputable def C_climb_look (x : Turn × Int) : Option (Turn) := F_climb_look x.1 x.2

/- millstream/code.Joined -/
noncomputable def F_code_Joined (x0 : Int) : Option (Int) :=
 match C_code_said_word (Said.mk (2 : Int) x0) with
 | some y1 =>
  some (y1)
 | none => none
noncomputable def C_code_Joined (x : Int) : Option (Int) := F_code_Joined x

/- millstream/climb.joined -/
noncomputable def F_climb_joined (x0 : Turn) : Option (Turn) :=
 match C_climb_over { x0 with th := { x0.th with stop := x0.th.node } } with
 | some y1 =>
  some (y1)
 | none => none
noncomputable def C_climb_joined (x : Turn) : Option (Turn) := F_climb_joined x

/- millstream/climb.Step -/
noncomputable def F_climb_Step (x0 : Turn) : Option (Turn × Bool) :=
 match C_arena_Node (x0.c, x0.th.item, x0.th.node) with
 | some y1 =>
  match C_code_First x0.t with
  | some y2 =>
   bif x0.th.phase == (4 : Int) then
    match C_wmem_Load (x0.m, y1) with
    | some y3 =>
     bif y3.snd != (0 : Int) then
      some ((x0, true))
     else
      match C_climb_look (x0, y3.fst) with
      | some y4 =>
       some ((y4, true))
      | none => none
    | none => none
   else
    bif x0.th.phase == (6 : Int) then
     match C_code_Joined x0.t with
     | some y3 =>
      match C_wmem_Cas (x0.m, y1, x0.th.x, y3) with
      | some y4 =>
       bif y4.snd.snd != (0 : Int) then
        some ((x0, true))
       else
        bif y4.snd.fst then
         match C_climb_joined { x0 with m := y4.fst, th := { x0.th with phase := (4 : Int) } } with
         | some y5 =>
          some ((y5, true))
         | none => none
        else
         some (({ x0 with m := y4.fst, th := { x0.th with phase := (4 : Int) } }, true))
      | none => none
     | none => none
    else
     bif x0.th.phase == (5 : Int) then
      match C_wmem_Cas (x0.m, y1, (0 : Int), y2) with
      | some y3 =>
       bif y3.snd.snd != (0 : Int) then
        some ((x0, true))
       else
        bif y3.snd.fst then
         match C_climb_taken { x0 with m := y3.fst, th := { x0.th with phase := (4 : Int) } } with
         | some y4 =>
          some ((y4, true))
         | none => none
        else
         some (({ x0 with m := y3.fst, th := { x0.th with phase := (4 : Int) } }, true))
      | none => none
     else
      some ((x0, false))
  | none => none
 | none => none
noncomputable def C_climb_Step (x : Turn) : Option (Turn × Bool) := F_climb_Step x

/- millstream/gather.held -/
noncomputable def F_gather_held (x0 : Turn) : Option (Int) :=
 bif decide (x0.th.at_ < (0 : Int)) then
  some ((-1 : Int))
 else
  bif decide (x0.th.at_ ≥ (↑x0.th.held.length : Int)) then
   some ((-1 : Int))
  else
   bif decide ((0 : Int) ≤ x0.th.at_) then
    bif decide (x0.th.at_ < (↑x0.th.held.length : Int)) then
     match C_arena_Node (x0.c, x0.th.item, x0.th.held.getD x0.th.at_.toNat (0 : Int)) with
     | some y1 =>
      some (y1)
     | none => none
    else
     none
   else
    none
noncomputable def C_gather_held (x : Turn) : Option (Int) := F_gather_held x

/- millstream/code.Who -/
noncomputable def F_code_Who (x0 : Int) : Option (Int) :=
 match C_code_of x0 with
 | some y1 =>
  bif decide (y1.kind ≥ (1 : Int)) then
   bif decide (y1.kind ≤ (3 : Int)) then
    some (y1.n)
   else
    some ((-1 : Int))
  else
   some ((-1 : Int))
 | none => none
noncomputable def C_code_Who (x : Int) : Option (Int) := F_code_Who x

/- millstream/gather.look -/
noncomputable def F_gather_look (x0 : Turn) : Option (Turn) :=
 match C_gather_held x0 with
 | some y1 =>
  match C_wmem_Load (x0.m, y1) with
  | some y2 =>
   bif y2.snd != (0 : Int) then
    some (x0)
   else
    match C_code_First x0.t with
    | some y3 =>
     bif y2.fst == y3 then
      some ({ x0 with th := { x0.th with phase := (8 : Int) } })
     else
      match C_code_Kind y2.fst with
      | some y4 =>
       bif y4 == (3 : Int) then
        match C_code_Who y2.fst with
        | some y5 =>
         some ({ x0 with th := { x0.th with phase := (9 : Int), who := y5 } })
        | none => none
       else
        some (x0)
      | none => none
    | none => none
  | none => none
 | none => none
noncomputable def C_gather_look (x : Turn) : Option (Turn) := F_gather_look x

/- millstream/gather.next -/
noncomputable def F_gather_next (x0 : Turn) : Option (Turn) :=
 match C_climb_Down { x0 with th := { x0.th with at_ := wrapA IntKind.i64 (x0.th.at_ + (1 : Int)) } } with
 | some y1 =>
  some (y1)
 | none => none
noncomputable def C_gather_next (x : Turn) : Option (Turn) := F_gather_next x

/- millstream/gather.shut -/
noncomputable def F_gather_shut (x0 : Turn) : Option (Turn) :=
 match C_gather_held x0 with
 | some y1 =>
  match C_code_First x0.t with
  | some y2 =>
   match C_wmem_Cas (x0.m, y1, y2, (0 : Int)) with
   | some y3 =>
    bif !y3.snd.fst then
     bif y3.snd.snd != (0 : Int) then
      some (x0)
     else
      some ({ x0 with m := y3.fst, th := { x0.th with phase := (7 : Int) } })
    else
     bif y3.snd.snd != (0 : Int) then
      some (x0)
     else
      match C_gather_next { x0 with m := y3.fst } with
      | some y4 =>
       some (y4)
      | none => none
   | none => none
  | none => none
 | none => none
noncomputable def C_gather_shut (x : Turn) : Option (Turn) := F_gather_shut x

/- slices.Clone[[]millstream/batch.Entry,millstream/batch.Entry] -/
noncomputable def F_slices_Clone_batch_Entry (x0 : List Entry) : Option ((List Entry)) :=
 bif fewB ((0 : Nat) + x0.length) then
  some (x0)
 else
  none
noncomputable def C_slices_Clone_batch_Entry (x : (List Entry)) : Option ((List Entry)) := F_slices_Clone_batch_Entry x

/- millstream/wmem.at[[]millstream/batch.Entry] -/
noncomputable def F_wmem_at_lbatch_Entry (x0 : List (List Entry)) (x1 : Int) : Option ((List Entry) × Int) :=
 bif decide (x1 < (0 : Int)) then
  some ((([] : List Entry), (30 : Int)))
 else
  bif decide (x1 ≥ (↑x0.length : Int)) then
   some ((([] : List Entry), (30 : Int)))
  else
   bif decide ((0 : Int) ≤ x1) then
    bif decide (x1 < (↑x0.length : Int)) then
     some ((x0.getD x1.toNat ([] : List Entry), (0 : Int)))
    else
     none
   else
    none
noncomputable def C_wmem_at_lbatch_Entry (x : (List (List Entry)) × Int) : Option ((List Entry) × Int) := F_wmem_at_lbatch_Entry x.1 x.2

/- millstream/wmem.Box -/
noncomputable def F_wmem_Box (x0 : Memo) (x1 : Int) : Option ((List Entry) × Int) :=
 match C_wmem_at_lbatch_Entry (x0.boxes, x1) with
 | some y1 =>
  match C_slices_Clone_batch_Entry y1.fst with
  | some y2 =>
   some ((y2, y1.snd))
  | none => none
 | none => none
noncomputable def C_wmem_Box (x : Memo × Int) : Option ((List Entry) × Int) := F_wmem_Box x.1 x.2

/- slices.Grow[[]millstream/thread.Kid,millstream/thread.Kid] -/
noncomputable def F_slices_Grow_thread_Kid (x0 : Unit) (x1 : Int) : Option ((List Kid)) :=
 bif decide (x1 < (0 : Int)) then
  none
 else
  bif decide (wrapA IntKind.i64 (x1 - wrapA IntKind.i64 ((0 : Int) - (0 : Int))) > (0 : Int)) then
   bif decide ((0 : Int) ≤ wrapA IntKind.i64 (x1 - wrapA IntKind.i64 ((0 : Int) - (0 : Int)))) then
    bif decide (wrapA IntKind.i64 (x1 - wrapA IntKind.i64 ((0 : Int) - (0 : Int))) ≤ maxElems) then
     some (List.take (Int.toNat (0 : Int)) (List.replicate (wrapA IntKind.i64 (x1 - wrapA IntKind.i64 ((0 : Int) - (0 : Int)))).toNat (Kid.mk (0 : Int) (0 : Int))))
    else
     none
   else
    none
  else
   some (([] : List Kid))
noncomputable def C_slices_Grow_thread_Kid (x : Unit × Int) : Option ((List Kid)) := F_slices_Grow_thread_Kid x.1 x.2

/- slices.Concat[[]millstream/thread.Kid,millstream/thread.Kid] -/
noncomputable def S_slices_Concat_thread_Kid_11 (x0 : List Kid) (x1 : List (List Kid)) (x2 : Int) (x3 : Int) : Option (((List Kid) × (List (List Kid)) × Int × Int) ⊕ (((List Kid)))) :=
 bif decide (x3 < x2) then
  bif decide ((0 : Int) ≤ x3) then
   bif decide (x3 < (↑x1.length : Int)) then
    bif fewB (x0.length + List.length (x1.getD x3.toNat ([] : List Kid))) then
     some (Sum.inl (x0 ++ x1.getD x3.toNat ([] : List Kid), x1, x2, wrapA IntKind.i64 (x3 + (1 : Int))))
    else
     none
   else
    none
  else
   none
 else
  some (Sum.inr x0)
noncomputable def T_slices_Concat_thread_Kid_11 (x : (List Kid) × (List (List Kid)) × Int × Int) : Option (((List Kid) × (List (List Kid)) × Int × Int) ⊕ (((List Kid)))) := S_slices_Concat_thread_Kid_11 x.1 x.2.1 x.2.2.1 x.2.2.2
noncomputable def W_slices_Concat_thread_Kid_11 (x : (List Kid) × (List (List Kid)) × Int × Int) : Option (((List Kid))) := whileM T_slices_Concat_thread_Kid_11 x
noncomputable def S_slices_Concat_thread_Kid_3 (x0 : List (List Kid)) (x1 : Int) (x2 : List (List Kid)) (x3 : Int) (x4 : Int) : Option (((List (List Kid)) × Int × (List (List Kid)) × Int × Int) ⊕ (((List (List Kid)) × Int))) :=
 bif decide (x4 < x3) then
  bif decide ((0 : Int) ≤ x4) then
   bif decide (x4 < (↑x2.length : Int)) then
    bif decide (wrapA IntKind.i64 (x1 + (↑(List.length (x2.getD x4.toNat ([] : List Kid))) : Int)) < (0 : Int)) then
     none
    else
     some (Sum.inl (x0, wrapA IntKind.i64 (x1 + (↑(List.length (x2.getD x4.toNat ([] : List Kid))) : Int)), x2, x3, wrapA IntKind.i64 (x4 + (1 : Int))))
   else
    none
  else
   none
 else
  some (Sum.inr (x0, x1))
noncomputable def T_slices_Concat_thread_Kid_3 (x : (List (List Kid)) × Int × (List (List Kid)) × Int × Int) : Option (((List (List Kid)) × Int × (List (List Kid)) × Int × Int) ⊕ (((List (List Kid)) × Int))) := S_slices_Concat_thread_Kid_3 x.1 x.2.1 x.2.2.1 x.2.2.2.1 x.2.2.2.2
noncomputable def W_slices_Concat_thread_Kid_3 (x : (List (List Kid)) × Int × (List (List Kid)) × Int × Int) : Option (((List (List Kid)) × Int)) := whileM T_slices_Concat_thread_Kid_3 x
noncomputable def F_slices_Concat_thread_Kid (x0 : List (List Kid)) : Option ((List Kid)) :=
 match W_slices_Concat_thread_Kid_3 (x0, (0 : Int), x0, (↑x0.length : Int), (0 : Int)) with
 | some y1 =>
  match C_slices_Grow_thread_Kid ((), y1.snd) with
  | some y2 =>
   match W_slices_Concat_thread_Kid_11 (y2, y1.fst, (↑(List.length y1.fst) : Int), (0 : Int)) with
   | some y3 =>
    some (y3)
   | none => none
  | none => none
 | none => none
noncomputable def C_slices_Concat_thread_Kid (x : (List (List Kid))) : Option ((List Kid)) := F_slices_Concat_thread_Kid x

/- slices.Grow[[]millstream/batch.Entry,millstream/batch.Entry] -/
noncomputable def F_slices_Grow_batch_Entry (x0 : Unit) (x1 : Int) : Option ((List Entry)) :=
 bif decide (x1 < (0 : Int)) then
  none
 else
  bif decide (wrapA IntKind.i64 (x1 - wrapA IntKind.i64 ((0 : Int) - (0 : Int))) > (0 : Int)) then
   bif decide ((0 : Int) ≤ wrapA IntKind.i64 (x1 - wrapA IntKind.i64 ((0 : Int) - (0 : Int)))) then
    bif decide (wrapA IntKind.i64 (x1 - wrapA IntKind.i64 ((0 : Int) - (0 : Int))) ≤ maxElems) then
     some (List.take (Int.toNat (0 : Int)) (List.replicate (wrapA IntKind.i64 (x1 - wrapA IntKind.i64 ((0 : Int) - (0 : Int)))).toNat (Entry.mk (0 : Int) (Op.mk (0 : Int) (0 : Int)))))
    else
     none
   else
    none
  else
   some (([] : List Entry))
noncomputable def C_slices_Grow_batch_Entry (x : Unit × Int) : Option ((List Entry)) := F_slices_Grow_batch_Entry x.1 x.2

/- slices.Concat[[]millstream/batch.Entry,millstream/batch.Entry] -/
noncomputable def S_slices_Concat_batch_Entry_11 (x0 : List Entry) (x1 : List (List Entry)) (x2 : Int) (x3 : Int) : Option (((List Entry) × (List (List Entry)) × Int × Int) ⊕ (((List Entry)))) :=
 bif decide (x3 < x2) then
  bif decide ((0 : Int) ≤ x3) then
   bif decide (x3 < (↑x1.length : Int)) then
    bif fewB (x0.length + List.length (x1.getD x3.toNat ([] : List Entry))) then
     some (Sum.inl (x0 ++ x1.getD x3.toNat ([] : List Entry), x1, x2, wrapA IntKind.i64 (x3 + (1 : Int))))
    else
     none
   else
    none
  else
   none
 else
  some (Sum.inr x0)
noncomputable def T_slices_Concat_batch_Entry_11 (x : (List Entry) × (List (List Entry)) × Int × Int) : Option (((List Entry) × (List (List Entry)) × Int × Int) ⊕ (((List Entry)))) := S_slices_Concat_batch_Entry_11 x.1 x.2.1 x.2.2.1 x.2.2.2
noncomputable def W_slices_Concat_batch_Entry_11 (x : (List Entry) × (List (List Entry)) × Int × Int) : Option (((List Entry))) := whileM T_slices_Concat_batch_Entry_11 x
noncomputable def S_slices_Concat_batch_Entry_3 (x0 : List (List Entry)) (x1 : Int) (x2 : List (List Entry)) (x3 : Int) (x4 : Int) : Option (((List (List Entry)) × Int × (List (List Entry)) × Int × Int) ⊕ (((List (List Entry)) × Int))) :=
 bif decide (x4 < x3) then
  bif decide ((0 : Int) ≤ x4) then
   bif decide (x4 < (↑x2.length : Int)) then
    bif decide (wrapA IntKind.i64 (x1 + (↑(List.length (x2.getD x4.toNat ([] : List Entry))) : Int)) < (0 : Int)) then
     none
    else
     some (Sum.inl (x0, wrapA IntKind.i64 (x1 + (↑(List.length (x2.getD x4.toNat ([] : List Entry))) : Int)), x2, x3, wrapA IntKind.i64 (x4 + (1 : Int))))
   else
    none
  else
   none
 else
  some (Sum.inr (x0, x1))
noncomputable def T_slices_Concat_batch_Entry_3 (x : (List (List Entry)) × Int × (List (List Entry)) × Int × Int) : Option (((List (List Entry)) × Int × (List (List Entry)) × Int × Int) ⊕ (((List (List Entry)) × Int))) := S_slices_Concat_batch_Entry_3 x.1 x.2.1 x.2.2.1 x.2.2.2.1 x.2.2.2.2
noncomputable def W_slices_Concat_batch_Entry_3 (x : (List (List Entry)) × Int × (List (List Entry)) × Int × Int) : Option (((List (List Entry)) × Int)) := whileM T_slices_Concat_batch_Entry_3 x
noncomputable def F_slices_Concat_batch_Entry (x0 : List (List Entry)) : Option ((List Entry)) :=
 match W_slices_Concat_batch_Entry_3 (x0, (0 : Int), x0, (↑x0.length : Int), (0 : Int)) with
 | some y1 =>
  match C_slices_Grow_batch_Entry ((), y1.snd) with
  | some y2 =>
   match W_slices_Concat_batch_Entry_11 (y2, y1.fst, (↑(List.length y1.fst) : Int), (0 : Int)) with
   | some y3 =>
    some (y3)
   | none => none
  | none => none
 | none => none
noncomputable def C_slices_Concat_batch_Entry (x : (List (List Entry))) : Option ((List Entry)) := F_slices_Concat_batch_Entry x

/- millstream/batch.Join -/
noncomputable def F_batch_Join (x0 : List (List Entry)) : Option ((List Entry)) :=
 match C_slices_Concat_batch_Entry x0 with
 | some y1 =>
  some (y1)
 | none => none
noncomputable def C_batch_Join (x : (List (List Entry))) : Option ((List Entry)) := F_batch_Join x

/- millstream/gather.Take -/
noncomputable def F_gather_Take (x0 : Turn) (x1 : Int) (x2 : List Entry) : Option (Turn) :=
 match C_slices_Concat_thread_Kid (x0.th.kids :: (Kid.mk x1 (↑x0.th.batch.length : Int) :: ([] : List Kid)) :: ([] : List (List Kid))) with
 | some y1 =>
  match C_batch_Join (x0.th.batch :: x2 :: ([] : List (List Entry))) with
  | some y2 =>
   some ({ x0 with th := { x0.th with batch := y2, kids := y1 } })
  | none => none
 | none => none
noncomputable def C_gather_Take (x : Turn × Int × (List Entry)) : Option (Turn) := F_gather_Take x.1 x.2.1 x.2.2

/- millstream/gather.collect -/
noncomputable def F_gather_collect (x0 : Turn) : Option (Turn) :=
 match C_wmem_Box (x0.m, x0.th.who) with
 | some y1 =>
  bif y1.snd != (0 : Int) then
   some (x0)
  else
   match C_gather_Take (x0, x0.th.who, y1.fst) with
   | some y2 =>
    some ({ y2 with th := { y2.th with phase := (10 : Int) } })
   | none => none
 | none => none
noncomputable def C_gather_collect (x : Turn) : Option (Turn) := F_gather_collect x

/- millstream/gather.free -/
noncomputable def F_gather_free (x0 : Turn) : Option (Turn) :=
 match C_gather_held x0 with
 | some y1 =>
  match C_wmem_Store (x0.m, y1, (0 : Int)) with
  | some y2 =>
   bif y2.snd != (0 : Int) then
    some (x0)
   else
    match C_gather_next { x0 with m := y2.fst } with
    | some y3 =>
     some (y3)
    | none => none
  | none => none
 | none => none
noncomputable def C_gather_free (x : Turn) : Option (Turn) := F_gather_free x

/- slices.Clone[[][]millstream/batch.Entry,[]millstream/batch.Entry] -/
noncomputable def F_slices_Clone_lbatch_Entry (x0 : List (List Entry)) : Option ((List (List Entry))) :=
 bif fewB ((0 : Nat) + x0.length) then
  some (x0)
 else
  none
noncomputable def C_slices_Clone_lbatch_Entry (x : (List (List Entry))) : Option ((List (List Entry))) := F_slices_Clone_lbatch_Entry x

/- millstream/wmem.Put -/
noncomputable def F_wmem_Put (x0 : Memo) (x1 : Int) (x2 : List Entry) : Option (Memo × Int) :=
 match C_wmem_at_lbatch_Entry (x0.boxes, x1) with
 | some y1 =>
  bif y1.snd != (0 : Int) then
   some ((x0, y1.snd))
  else
   match C_slices_Clone_lbatch_Entry x0.boxes with
   | some y2 =>
    match C_slices_Clone_batch_Entry x2 with
    | some y3 =>
     bif decide ((0 : Int) ≤ x1) then
      bif decide (x1 < (↑(List.length y2) : Int)) then
       some (({ x0 with boxes := List.set y2 x1.toNat y3 }, (0 : Int)))
      else
       none
     else
      none
    | none => none
   | none => none
 | none => none
noncomputable def C_wmem_Put (x : Memo × Int × (List Entry)) : Option (Memo × Int) := F_wmem_Put x.1 x.2.1 x.2.2

/- millstream/gather.publish -/
noncomputable def F_gather_publish (x0 : Turn) : Option (Turn) :=
 match C_wmem_Put (x0.m, x0.t, x0.th.batch) with
 | some y1 =>
  bif y1.snd != (0 : Int) then
   some (x0)
  else
   some ({ x0 with m := y1.fst, th := { x0.th with phase := (12 : Int) } })
 | none => none
noncomputable def C_gather_publish (x : Turn) : Option (Turn) := F_gather_publish x

/- millstream/code.Deposited -/
noncomputable def F_code_Deposited (x0 : Int) : Option (Int) :=
 match C_code_said_word (Said.mk (3 : Int) x0) with
 | some y1 =>
  some (y1)
 | none => none
noncomputable def C_code_Deposited (x : Int) : Option (Int) := F_code_Deposited x

/- millstream/gather.deposit -/
noncomputable def F_gather_deposit (x0 : Turn) : Option (Turn) :=
 match C_arena_Node (x0.c, x0.th.item, x0.th.stop) with
 | some y1 =>
  match C_code_Deposited x0.t with
  | some y2 =>
   match C_wmem_Store (x0.m, y1, y2) with
   | some y3 =>
    bif y3.snd != (0 : Int) then
     some (x0)
    else
     some ({ x0 with m := y3.fst, th := { x0.th with phase := (13 : Int) } })
   | none => none
  | none => none
 | none => none
noncomputable def C_gather_deposit (x : Turn) : Option (Turn) := F_gather_deposit x

/- millstream/gather.Step -/
noncomputable def F_gather_Step (x0 : Turn) : Option (Turn × Bool) :=
 bif x0.th.phase == (7 : Int) then
  match C_gather_look x0 with
  | some y1 =>
   some ((y1, true))
  | none => none
 else
  bif x0.th.phase == (8 : Int) then
   match C_gather_shut x0 with
   | some y1 =>
    some ((y1, true))
   | none => none
  else
   bif x0.th.phase == (9 : Int) then
    match C_gather_collect x0 with
    | some y1 =>
     some ((y1, true))
    | none => none
   else
    bif x0.th.phase == (10 : Int) then
     match C_gather_free x0 with
     | some y1 =>
      some ((y1, true))
     | none => none
    else
     bif x0.th.phase == (11 : Int) then
      match C_gather_publish x0 with
      | some y1 =>
       some ((y1, true))
      | none => none
     else
      bif x0.th.phase == (12 : Int) then
       match C_gather_deposit x0 with
       | some y1 =>
        some ((y1, true))
       | none => none
      else
       some ((x0, false))
noncomputable def C_gather_Step (x : Turn) : Option (Turn × Bool) := F_gather_Step x

/- millstream/commit.Onward -/
noncomputable def F_commit_Onward (x0 : Turn) : Option (Turn) :=
 bif decide (x0.th.layer < x0.c.layers) then
  match C_thread_Late { x0 with th := { x0.th with phase := (2 : Int) } } with
  | some y1 =>
   bif !y1 then
    some ({ x0 with th := { x0.th with phase := (17 : Int), layer := wrapA IntKind.i64 (x0.th.layer + (1 : Int)) } })
   else
    some ({ x0 with th := { x0.th with phase := (2 : Int) } })
  | none => none
 else
  some ({ x0 with th := { x0.th with phase := (2 : Int) } })
noncomputable def C_commit_Onward (x : Turn) : Option (Turn) := F_commit_Onward x

/- millstream/code.Open -/
noncomputable def F_code_Open (x0 : Int) (x1 : Int) : Option (Int) :=
 match C_code_said_word (Said.mk (4 : Int) (wrapA IntKind.i64 (wrapA IntKind.i64 (x0 * (2 : Int) ^ min (Int.toNat (4 : Int)) IntKind.i64.bits) + x1))) with
 | some y1 =>
  some (y1)
 | none => none
noncomputable def C_code_Open (x : Int × Int) : Option (Int) := F_code_Open x.1 x.2

/- (*millstream/collide.diver).line -/
noncomputable def F_collide_diver_line (x0 : Turn × Int) (x1 : Int) : Option (Int) :=
 match C_arena_Line (x0.fst.c, x1) with
 | some y1 =>
  some (y1)
 | none => none
noncomputable def C_collide_diver_line (x : (Turn × Int) × Int) : Option (Int) := F_collide_diver_line x.1 x.2

/- millstream/code.Told -/
noncomputable def F_code_Told : Option (Int) :=
 match C_code_said_word (Said.mk (5 : Int) (-1 : Int)) with
 | some y1 =>
  some (y1)
 | none => none
noncomputable def C_code_Told (x : Unit) : Option (Int) := F_code_Told

/- millstream/arena.Result -/
noncomputable def F_arena_Result (x0 : Config) (x1 : Int) : Option (Int) :=
 bif decide (x1 < (0 : Int)) then
  some ((-1 : Int))
 else
  bif decide (x1 ≥ x0.threads) then
   some ((-1 : Int))
  else
   match C_arena_of x0 with
   | some y1 =>
    some (wrapA IntKind.i64 (wrapA IntKind.i64 (y1.lines + wrapA IntKind.i64 ((2 : Int) * x1)) + (1 : Int)))
   | none => none
noncomputable def C_arena_Result (x : Config × Int) : Option (Int) := F_arena_Result x.1 x.2

/- millstream/share.Settle -/
noncomputable def F_share_Settle (x0 : Turn) : Option (Turn) :=
 bif decide (x0.th.at_ < (0 : Int)) then
  some ({ x0 with th := { x0.th with phase := (0 : Int) }, done := true })
 else
  bif decide (x0.th.at_ ≥ (↑x0.th.kids.length : Int)) then
   some ({ x0 with th := { x0.th with phase := (0 : Int) }, done := true })
  else
   bif decide ((0 : Int) ≤ x0.th.at_) then
    bif decide (x0.th.at_ < (↑x0.th.kids.length : Int)) then
     some ({ x0 with th := { x0.th with phase := (15 : Int) } })
    else
     none
   else
    none
noncomputable def C_share_Settle (x : Turn) : Option (Turn) := F_share_Settle x

/- millstream/batch.Upto -/
noncomputable def F_batch_Upto (x0 : List Entry) (x1 : Int) : Option ((List Entry)) :=
 bif decide ((0 : Int) ≤ if (if (↑x0.length : Int) < x1 then (↑x0.length : Int) else x1) > (0 : Int) then if (↑x0.length : Int) < x1 then (↑x0.length : Int) else x1 else (0 : Int)) then
  bif decide ((if (if (↑x0.length : Int) < x1 then (↑x0.length : Int) else x1) > (0 : Int) then if (↑x0.length : Int) < x1 then (↑x0.length : Int) else x1 else (0 : Int)) ≤ (↑x0.length : Int)) then
   match C_slices_Clone_batch_Entry (List.drop (Int.toNat (0 : Int)) (List.take (if (if (↑x0.length : Int) < x1 then (↑x0.length : Int) else x1) > (0 : Int) then if (↑x0.length : Int) < x1 then (↑x0.length : Int) else x1 else (0 : Int)).toNat x0)) with
   | some y1 =>
    some (y1)
   | none => none
  else
   none
 else
  none
noncomputable def C_batch_Upto (x : (List Entry) × Int) : Option ((List Entry)) := F_batch_Upto x.1 x.2

/- millstream/wmem.Swap -/
noncomputable def F_wmem_Swap (x0 : Memo) (x1 : Int) (x2 : Int) : Option (Memo × Int × Int) :=
 match C_wmem_at_int (x0.words, x1) with
 | some y1 =>
  bif y1.snd != (0 : Int) then
   some ((x0, (0 : Int), y1.snd))
  else
   match C_slices_Clone_int x0.words with
   | some y2 =>
    bif decide ((0 : Int) ≤ x1) then
     bif decide (x1 < (↑(List.length y2) : Int)) then
      some (({ x0 with words := List.set y2 x1.toNat x2 }, y1))
     else
      none
    else
     none
   | none => none
 | none => none
noncomputable def C_wmem_Swap (x : Memo × Int × Int) : Option (Memo × Int × Int) := F_wmem_Swap x.1 x.2.1 x.2.2

/- millstream/arena.Slot -/
noncomputable def F_arena_Slot (x0 : Config) (x1 : Int) (x2 : Int) (x3 : Int) : Option (Int) :=
 bif decide (x1 < (0 : Int)) then
  some ((-1 : Int))
 else
  bif decide (x1 ≥ x0.items) then
   some ((-1 : Int))
  else
   bif decide (x2 < (1 : Int)) then
    some ((-1 : Int))
   else
    bif decide (x2 ≥ wrapA IntKind.i64 ((1 : Int) + x0.layers)) then
     some ((-1 : Int))
    else
     bif decide (x3 < (0 : Int)) then
      some ((-1 : Int))
     else
      bif decide (x3 ≥ x0.width) then
       some ((-1 : Int))
      else
       match C_arena_of x0 with
       | some y1 =>
        match C_arena_of x0 with
        | some y2 =>
         some (wrapA IntKind.i64 (wrapA IntKind.i64 (wrapA IntKind.i64 (wrapA IntKind.i64 (x1 * y1.block) + y2.slots) + wrapA IntKind.i64 (wrapA IntKind.i64 (x2 - (1 : Int)) * x0.width)) + x3))
        | none => none
       | none => none
noncomputable def C_arena_Slot (x : Config × Int × Int × Int) : Option (Int) := F_arena_Slot x.1 x.2.1 x.2.2.1 x.2.2.2

/- millstream/tape.Left -/
noncomputable def F_tape_Left (x0 : Tape) : Option (Int) :=
 bif decide (x0.at_ < (0 : Int)) then
  some ((0 : Int))
 else
  some (if wrapA IntKind.i64 ((↑x0.l.length : Int) - x0.at_) > (0 : Int) then wrapA IntKind.i64 ((↑x0.l.length : Int) - x0.at_) else (0 : Int))
noncomputable def C_tape_Left (x : Tape) : Option (Int) := F_tape_Left x

end Go.Proofs.Mill
