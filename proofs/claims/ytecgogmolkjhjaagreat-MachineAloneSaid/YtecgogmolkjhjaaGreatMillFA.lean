/- What the functions compute. -/
import Derived.Test.YtecgogmolkjhjaaGreatMillAll4
namespace Go.Proofs.Mill
set_option linter.all false
/- millstream/millstreamlaw16.big -/
noncomputable def S_law16_big_2 (x0 : Turn) (x1 : Int) : Option ((Turn × Int) ⊕ ((Turn) ⊕ (Bool))) :=
 bif decide (x1 < (↑x0.m.boxes.length : Int)) then
  bif decide (x1 < (20 : Int)) then
   bif decide ((0 : Int) ≤ x1) then
    bif decide (x1 < (↑x0.m.boxes.length : Int)) then
     bif decide ((↑(List.length (x0.m.boxes.getD x1.toNat ([] : List Entry))) : Int) > (20 : Int)) then
      some (Sum.inr (Sum.inr true))
     else
      some (Sum.inl (x0, wrapA IntKind.i64 (x1 + (1 : Int))))
    else
     none
   else
    none
  else
   some (Sum.inr (Sum.inl x0))
 else
  some (Sum.inr (Sum.inl x0))
noncomputable def T_law16_big_2 (x : Turn × Int) : Option ((Turn × Int) ⊕ ((Turn) ⊕ (Bool))) := S_law16_big_2 x.1 x.2
noncomputable def W_law16_big_2 (x : Turn × Int) : Option ((Turn) ⊕ (Bool)) := whileM T_law16_big_2 x
noncomputable def F_law16_big (x0 : Turn) : Option (Bool) :=
 match W_law16_big_2 (x0, (0 : Int)) with
 | some (.inl y1) =>
  bif decide ((↑y1.m.words.length : Int) > (400 : Int)) then
   some (true)
  else
   bif decide ((↑y1.m.boxes.length : Int) > (16 : Int)) then
    some (true)
   else
    bif decide ((↑y1.th.batch.length : Int) > (20 : Int)) then
     some (true)
    else
     bif decide ((↑y1.th.kids.length : Int) > (20 : Int)) then
      some (true)
     else
      bif decide ((↑y1.th.held.length : Int) > (20 : Int)) then
       some (true)
      else
       bif decide ((↑y1.tape.l.length : Int) > (100 : Int)) then
        some (true)
       else
        some (decide ((↑y1.log.length : Int) > (50 : Int)))
 | some (.inr y2) =>
  some (y2)
 | none => none
noncomputable def C_law16_big (x : Turn) : Option (Bool) := F_law16_big x

/- millstream/millstreamref05.Check -/
noncomputable def F_ref05_Check (x0 : Config) : Option (Int) :=
 bif decide (x0.threads < (1 : Int)) then
  some ((50 : Int))
 else
  bif decide (x0.threads > (16 : Int)) then
   some ((50 : Int))
  else
   bif decide (x0.items < (1 : Int)) then
    some ((51 : Int))
   else
    bif decide (x0.items > (4 : Int)) then
     some ((51 : Int))
    else
     bif decide (x0.backend < (1 : Int)) then
      some ((52 : Int))
     else
      bif decide (x0.backend > (3 : Int)) then
       some ((52 : Int))
      else
       bif decide (x0.depth < (0 : Int)) then
        some ((53 : Int))
       else
        bif decide (x0.depth > (4 : Int)) then
         some ((53 : Int))
        else
         bif decide (x0.layers < (0 : Int)) then
          some ((54 : Int))
         else
          bif decide (x0.layers > (3 : Int)) then
           some ((54 : Int))
          else
           bif decide (x0.width < (1 : Int)) then
            some ((55 : Int))
           else
            bif decide (x0.width > (8 : Int)) then
             some ((55 : Int))
            else
             bif decide (x0.spin < (0 : Int)) then
              some ((56 : Int))
             else
              bif decide (x0.spin > (20 : Int)) then
               some ((56 : Int))
              else
               bif decide (x0.wait < (0 : Int)) then
                some ((57 : Int))
               else
                bif decide (x0.wait > (1000 : Int)) then
                 some ((57 : Int))
                else
                 bif x0.bounded then
                  bif decide (x0.lo > x0.init) then
                   some ((58 : Int))
                  else
                   bif decide (x0.init > x0.hi) then
                    some ((58 : Int))
                   else
                    some ((0 : Int))
                 else
                  some ((0 : Int))
noncomputable def C_ref05_Check (x : Config) : Option (Int) := F_ref05_Check x

/- millstream/millstreamref06.Nodes -/
noncomputable def S_ref06_Nodes_3 (x0 : Config) (x1 : Int) (x2 : Int) : Option ((Config × Int × Int) ⊕ ((Int))) :=
 bif decide (x2 < x0.depth) then
  some (Sum.inl (x0, wrapA IntKind.i64 ((2 : Int) * x1), wrapA IntKind.i64 (x2 + (1 : Int))))
 else
  some (Sum.inr x1)
noncomputable def T_ref06_Nodes_3 (x : Config × Int × Int) : Option ((Config × Int × Int) ⊕ ((Int))) := S_ref06_Nodes_3 x.1 x.2.1 x.2.2
noncomputable def W_ref06_Nodes_3 (x : Config × Int × Int) : Option ((Int)) := whileM T_ref06_Nodes_3 x
noncomputable def F_ref06_Nodes (x0 : Config) : Option (Int) :=
 match W_ref06_Nodes_3 (x0, (1 : Int), (0 : Int)) with
 | some y1 =>
  some (wrapA IntKind.i64 (y1 - (1 : Int)))
 | none => none
noncomputable def C_ref06_Nodes (x : Config) : Option (Int) := F_ref06_Nodes x

/- millstream/millstreamref06.block -/
noncomputable def F_ref06_block (x0 : Config) : Option (Int) :=
 match C_ref06_Nodes x0 with
 | some y1 =>
  some (wrapA IntKind.i64 (wrapA IntKind.i64 ((1 : Int) + y1) + wrapA IntKind.i64 (x0.layers * x0.width)))
 | none => none
noncomputable def C_ref06_block (x : Config) : Option (Int) := F_ref06_block x

/- millstream/millstreamref06.Size -/
noncomputable def F_ref06_Size (x0 : Config) : Option (Int) :=
 match C_ref06_block x0 with
 | some y1 =>
  some (wrapA IntKind.i64 (wrapA IntKind.i64 (x0.items * y1) + wrapA IntKind.i64 ((2 : Int) * x0.threads)))
 | none => none
noncomputable def C_ref06_Size (x : Config) : Option (Int) := F_ref06_Size x

/- millstream/millstreamlaw16.may -/
noncomputable def F_law16_may (x0 : Turn) : Option (Bool) :=
 match C_ref05_Check x0.c with
 | some y1 =>
  bif y1 == (0 : Int) then
   bif decide (x0.t ≥ (0 : Int)) then
    bif decide (x0.t < x0.c.threads) then
     match C_ref06_Size x0.c with
     | some y2 =>
      bif (↑x0.m.words.length : Int) == y2 then
       bif (↑x0.m.boxes.length : Int) == x0.c.threads then
        bif decide (x0.th.item ≥ (0 : Int)) then
         some (decide (x0.th.item < x0.c.items))
        else
         some (false)
       else
        some (false)
      else
       some (false)
     | none => none
    else
     some (false)
   else
    some (false)
  else
   some (false)
 | none => none
noncomputable def C_law16_may (x : Turn) : Option (Bool) := F_law16_may x

/- millstream/millstreamref02.Same -/
noncomputable def S_ref02_Same_4 (x0 : List Entry) (x1 : List Entry) (x2 : Int) : Option (((List Entry) × (List Entry) × Int) ⊕ ((Unit) ⊕ (Bool))) :=
 bif decide (x2 < (↑x0.length : Int)) then
  bif decide ((0 : Int) ≤ x2) then
   bif decide (x2 < (↑x0.length : Int)) then
    bif decide ((0 : Int) ≤ x2) then
     bif decide (x2 < (↑x1.length : Int)) then
      bif !((x0.getD x2.toNat dEntry).t == (x1.getD x2.toNat dEntry).t && ((x0.getD x2.toNat dEntry).op.tag == (x1.getD x2.toNat dEntry).op.tag && ((x0.getD x2.toNat dEntry).op.v == (x1.getD x2.toNat dEntry).op.v && true) && true)) then
       some (Sum.inr (Sum.inr false))
      else
       some (Sum.inl (x0, x1, wrapA IntKind.i64 (x2 + (1 : Int))))
     else
      none
    else
     none
   else
    none
  else
   none
 else
  some (Sum.inr (Sum.inl ()))
noncomputable def T_ref02_Same_4 (x : (List Entry) × (List Entry) × Int) : Option (((List Entry) × (List Entry) × Int) ⊕ ((Unit) ⊕ (Bool))) := S_ref02_Same_4 x.1 x.2.1 x.2.2
noncomputable def W_ref02_Same_4 (x : (List Entry) × (List Entry) × Int) : Option ((Unit) ⊕ (Bool)) := whileM T_ref02_Same_4 x
noncomputable def F_ref02_Same (x0 : List Entry) (x1 : List Entry) : Option (Bool) :=
 bif (↑x0.length : Int) != (↑x1.length : Int) then
  some (false)
 else
  match W_ref02_Same_4 (x0, x1, (0 : Int)) with
  | some (.inl y1) =>
   some (true)
  | some (.inr y2) =>
   some (y2)
  | none => none
noncomputable def C_ref02_Same (x : (List Entry) × (List Entry)) : Option (Bool) := F_ref02_Same x.1 x.2

/- millstream/millstreamref02.Ints -/
noncomputable def S_ref02_Ints_4 (x0 : List Int) (x1 : List Int) (x2 : Int) : Option (((List Int) × (List Int) × Int) ⊕ ((Unit) ⊕ (Bool))) :=
 bif decide (x2 < (↑x0.length : Int)) then
  bif decide ((0 : Int) ≤ x2) then
   bif decide (x2 < (↑x0.length : Int)) then
    bif decide ((0 : Int) ≤ x2) then
     bif decide (x2 < (↑x1.length : Int)) then
      bif x0.getD x2.toNat (0 : Int) != x1.getD x2.toNat (0 : Int) then
       some (Sum.inr (Sum.inr false))
      else
       some (Sum.inl (x0, x1, wrapA IntKind.i64 (x2 + (1 : Int))))
     else
      none
    else
     none
   else
    none
  else
   none
 else
  some (Sum.inr (Sum.inl ()))
noncomputable def T_ref02_Ints_4 (x : (List Int) × (List Int) × Int) : Option (((List Int) × (List Int) × Int) ⊕ ((Unit) ⊕ (Bool))) := S_ref02_Ints_4 x.1 x.2.1 x.2.2
noncomputable def W_ref02_Ints_4 (x : (List Int) × (List Int) × Int) : Option ((Unit) ⊕ (Bool)) := whileM T_ref02_Ints_4 x
noncomputable def F_ref02_Ints (x0 : List Int) (x1 : List Int) : Option (Bool) :=
 bif (↑x0.length : Int) != (↑x1.length : Int) then
  some (false)
 else
  match W_ref02_Ints_4 (x0, x1, (0 : Int)) with
  | some (.inl y1) =>
   some (true)
  | some (.inr y2) =>
   some (y2)
  | none => none
noncomputable def C_ref02_Ints (x : (List Int) × (List Int)) : Option (Bool) := F_ref02_Ints x.1 x.2

/- millstream/millstreamref03.Same -/
noncomputable def S_ref03_Same_4 (x0 : Memo) (x1 : Memo) (x2 : Int) : Option ((Memo × Memo × Int) ⊕ ((Unit) ⊕ (Bool))) :=
 bif decide (x2 < (↑x0.boxes.length : Int)) then
  bif decide ((0 : Int) ≤ x2) then
   bif decide (x2 < (↑x0.boxes.length : Int)) then
    bif decide ((0 : Int) ≤ x2) then
     bif decide (x2 < (↑x1.boxes.length : Int)) then
      match C_ref02_Same (x0.boxes.getD x2.toNat ([] : List Entry), x1.boxes.getD x2.toNat ([] : List Entry)) with
      | some y1 =>
       bif !y1 then
        some (Sum.inr (Sum.inr false))
       else
        some (Sum.inl (x0, x1, wrapA IntKind.i64 (x2 + (1 : Int))))
      | none => none
     else
      none
    else
     none
   else
    none
  else
   none
 else
  some (Sum.inr (Sum.inl ()))
noncomputable def T_ref03_Same_4 (x : Memo × Memo × Int) : Option ((Memo × Memo × Int) ⊕ ((Unit) ⊕ (Bool))) := S_ref03_Same_4 x.1 x.2.1 x.2.2
noncomputable def W_ref03_Same_4 (x : Memo × Memo × Int) : Option ((Unit) ⊕ (Bool)) := whileM T_ref03_Same_4 x
noncomputable def F_ref03_Same (x0 : Memo) (x1 : Memo) : Option (Bool) :=
 match C_ref02_Ints (x0.words, x1.words) with
 | some y1 =>
  bif !y1 then
   some (false)
  else
   bif (↑x0.boxes.length : Int) != (↑x1.boxes.length : Int) then
    some (false)
   else
    match W_ref03_Same_4 (x0, x1, (0 : Int)) with
    | some (.inl y2) =>
     some (true)
    | some (.inr y3) =>
     some (y3)
    | none => none
 | none => none
noncomputable def C_ref03_Same (x : Memo × Memo) : Option (Bool) := F_ref03_Same x.1 x.2

/- millstream/millstreamref10.Same -/
noncomputable def S_ref10_Same_4 (x0 : Thread) (x1 : Thread) (x2 : Int) : Option ((Thread × Thread × Int) ⊕ ((Thread × Thread) ⊕ (Bool))) :=
 bif decide (x2 < (↑x0.kids.length : Int)) then
  bif decide ((0 : Int) ≤ x2) then
   bif decide (x2 < (↑x0.kids.length : Int)) then
    bif decide ((0 : Int) ≤ x2) then
     bif decide (x2 < (↑x1.kids.length : Int)) then
      bif !((x0.kids.getD x2.toNat dKid).t == (x1.kids.getD x2.toNat dKid).t && ((x0.kids.getD x2.toNat dKid).ahead == (x1.kids.getD x2.toNat dKid).ahead && true)) then
       some (Sum.inr (Sum.inr false))
      else
       some (Sum.inl (x0, x1, wrapA IntKind.i64 (x2 + (1 : Int))))
     else
      none
    else
     none
   else
    none
  else
   none
 else
  some (Sum.inr (Sum.inl (x0, x1)))
noncomputable def T_ref10_Same_4 (x : Thread × Thread × Int) : Option ((Thread × Thread × Int) ⊕ ((Thread × Thread) ⊕ (Bool))) := S_ref10_Same_4 x.1 x.2.1 x.2.2
noncomputable def W_ref10_Same_4 (x : Thread × Thread × Int) : Option ((Thread × Thread) ⊕ (Bool)) := whileM T_ref10_Same_4 x
noncomputable def F_ref10_Same (x0 : Thread) (x1 : Thread) : Option (Bool) :=
 match C_ref02_Same (x0.batch, x1.batch) with
 | some y1 =>
  bif !y1 then
   some (false)
  else
   match C_ref02_Ints (x0.held, x1.held) with
   | some y2 =>
    bif !y2 then
     some (false)
    else
     bif (↑x0.kids.length : Int) != (↑x1.kids.length : Int) then
      some (false)
     else
      match W_ref10_Same_4 (x0, x1, (0 : Int)) with
      | some (.inl y3) =>
       bif y3.fst.phase == y3.snd.phase then
        bif y3.fst.item == y3.snd.item then
         bif y3.fst.op.tag == y3.snd.op.tag && (y3.fst.op.v == y3.snd.op.v && true) then
          bif y3.fst.stop == y3.snd.stop then
           bif y3.fst.node == y3.snd.node then
            bif y3.fst.at_ == y3.snd.at_ then
             bif y3.fst.layer == y3.snd.layer then
              bif y3.fst.left == y3.snd.left then
               bif y3.fst.width == y3.snd.width then
                bif y3.fst.who == y3.snd.who then
                 bif y3.fst.x == y3.snd.x then
                  bif y3.fst.y == y3.snd.y then
                   some (y3.fst.until_ == y3.snd.until_)
                  else
                   some (false)
                 else
                  some (false)
                else
                 some (false)
               else
                some (false)
              else
               some (false)
             else
              some (false)
            else
             some (false)
           else
            some (false)
          else
           some (false)
         else
          some (false)
        else
         some (false)
       else
        some (false)
      | some (.inr y4) =>
       some (y4)
      | none => none
   | none => none
 | none => none
noncomputable def C_ref10_Same (x : Thread × Thread) : Option (Bool) := F_ref10_Same x.1 x.2

/- millstream/millstreamref04.Same -/
noncomputable def S_ref04_Same_4 (x0 : Tape) (x1 : Tape) (x2 : Int) : Option ((Tape × Tape × Int) ⊕ ((Unit) ⊕ (Bool))) :=
 bif decide (x2 < (↑x0.l.length : Int)) then
  bif decide ((0 : Int) ≤ x2) then
   bif decide (x2 < (↑x0.l.length : Int)) then
    bif decide ((0 : Int) ≤ x2) then
     bif decide (x2 < (↑x1.l.length : Int)) then
      bif x0.l.getD x2.toNat (0 : Int) != x1.l.getD x2.toNat (0 : Int) then
       some (Sum.inr (Sum.inr false))
      else
       some (Sum.inl (x0, x1, wrapA IntKind.i64 (x2 + (1 : Int))))
     else
      none
    else
     none
   else
    none
  else
   none
 else
  some (Sum.inr (Sum.inl ()))
noncomputable def T_ref04_Same_4 (x : Tape × Tape × Int) : Option ((Tape × Tape × Int) ⊕ ((Unit) ⊕ (Bool))) := S_ref04_Same_4 x.1 x.2.1 x.2.2
noncomputable def W_ref04_Same_4 (x : Tape × Tape × Int) : Option ((Unit) ⊕ (Bool)) := whileM T_ref04_Same_4 x
noncomputable def F_ref04_Same (x0 : Tape) (x1 : Tape) : Option (Bool) :=
 bif x0.at_ != x1.at_ then
  some (false)
 else
  bif (↑x0.l.length : Int) != (↑x1.l.length : Int) then
   some (false)
  else
   match W_ref04_Same_4 (x0, x1, (0 : Int)) with
   | some (.inl y1) =>
    some (true)
   | some (.inr y2) =>
    some (y2)
   | none => none
noncomputable def C_ref04_Same (x : Tape × Tape) : Option (Bool) := F_ref04_Same x.1 x.2

/- millstream/millstreamref10.Marks -/
noncomputable def S_ref10_Marks_4 (x0 : List Mark) (x1 : List Mark) (x2 : Int) : Option (((List Mark) × (List Mark) × Int) ⊕ ((Unit) ⊕ (Bool))) :=
 bif decide (x2 < (↑x0.length : Int)) then
  bif decide ((0 : Int) ≤ x2) then
   bif decide (x2 < (↑x0.length : Int)) then
    bif decide ((0 : Int) ≤ x2) then
     bif decide (x2 < (↑x1.length : Int)) then
      bif !((x0.getD x2.toNat dMark).t == (x1.getD x2.toNat dMark).t && ((x0.getD x2.toNat dMark).item == (x1.getD x2.toNat dMark).item && ((x0.getD x2.toNat dMark).op.tag == (x1.getD x2.toNat dMark).op.tag && ((x0.getD x2.toNat dMark).op.v == (x1.getD x2.toNat dMark).op.v && true) && ((x0.getD x2.toNat dMark).prior == (x1.getD x2.toNat dMark).prior && ((x0.getD x2.toNat dMark).step == (x1.getD x2.toNat dMark).step && true))))) then
       some (Sum.inr (Sum.inr false))
      else
       some (Sum.inl (x0, x1, wrapA IntKind.i64 (x2 + (1 : Int))))
     else
      none
    else
     none
   else
    none
  else
   none
 else
  some (Sum.inr (Sum.inl ()))
noncomputable def T_ref10_Marks_4 (x : (List Mark) × (List Mark) × Int) : Option (((List Mark) × (List Mark) × Int) ⊕ ((Unit) ⊕ (Bool))) := S_ref10_Marks_4 x.1 x.2.1 x.2.2
noncomputable def W_ref10_Marks_4 (x : (List Mark) × (List Mark) × Int) : Option ((Unit) ⊕ (Bool)) := whileM T_ref10_Marks_4 x
noncomputable def F_ref10_Marks (x0 : List Mark) (x1 : List Mark) : Option (Bool) :=
 bif (↑x0.length : Int) != (↑x1.length : Int) then
  some (false)
 else
  match W_ref10_Marks_4 (x0, x1, (0 : Int)) with
  | some (.inl y1) =>
   some (true)
  | some (.inr y2) =>
   some (y2)
  | none => none
noncomputable def C_ref10_Marks (x : (List Mark) × (List Mark)) : Option (Bool) := F_ref10_Marks x.1 x.2

/- millstream/millstreamref10.Alike -/
noncomputable def F_ref10_Alike (x0 : Turn) (x1 : Turn) : Option (Bool) :=
 bif x0.c.threads == x1.c.threads && (x0.c.items == x1.c.items && (x0.c.backend == x1.c.backend && (x0.c.depth == x1.c.depth && (x0.c.layers == x1.c.layers && (x0.c.width == x1.c.width && (x0.c.spin == x1.c.spin && (x0.c.wait == x1.c.wait && (x0.c.bounded == x1.c.bounded && (x0.c.lo == x1.c.lo && (x0.c.hi == x1.c.hi && (x0.c.init == x1.c.init && true))))))))))) then
  bif x0.t == x1.t then
   bif x0.now == x1.now then
    match C_ref03_Same (x0.m, x1.m) with
    | some y1 =>
     bif y1 then
      match C_ref10_Same (x0.th, x1.th) with
      | some y2 =>
       bif y2 then
        match C_ref04_Same (x0.tape, x1.tape) with
        | some y3 =>
         bif y3 then
          match C_ref10_Marks (x0.log, x1.log) with
          | some y4 =>
           bif y4 then
            some (x0.done == x1.done)
           else
            some (false)
          | none => none
         else
          some (false)
        | none => none
       else
        some (false)
      | none => none
     else
      some (false)
    | none => none
   else
    some (false)
  else
   some (false)
 else
  some (false)
noncomputable def C_ref10_Alike (x : Turn × Turn) : Option (Bool) := F_ref10_Alike x.1 x.2

/- millstream/millstreamlaw16.entries -/
noncomputable def S_law16_entries_3 (x0 : List Entry) (x1 : List Entry) (x2 : Int) : Option (((List Entry) × (List Entry) × Int) ⊕ (((List Entry)))) :=
 bif decide (x2 < (↑x0.length : Int)) then
  bif decide ((0 : Int) ≤ x2) then
   bif decide (x2 < (↑x0.length : Int)) then
    bif decide ((0 : Int) ≤ x2) then
     bif decide (x2 < (↑x0.length : Int)) then
      bif fewB (x1.length + (x0.getD x2.toNat dEntry :: ([] : List Entry)).length) then
       some (Sum.inl (x0, x1 ++ x0.getD x2.toNat dEntry :: ([] : List Entry), wrapA IntKind.i64 (x2 + (1 : Int))))
      else
       none
     else
      none
    else
     none
   else
    none
  else
   none
 else
  some (Sum.inr x1)
noncomputable def T_law16_entries_3 (x : (List Entry) × (List Entry) × Int) : Option (((List Entry) × (List Entry) × Int) ⊕ (((List Entry)))) := S_law16_entries_3 x.1 x.2.1 x.2.2
noncomputable def W_law16_entries_3 (x : (List Entry) × (List Entry) × Int) : Option (((List Entry))) := whileM T_law16_entries_3 x
noncomputable def F_law16_entries (x0 : List Entry) : Option ((List Entry)) :=
 match W_law16_entries_3 (x0, ([] : List Entry), (0 : Int)) with
 | some y1 =>
  some (y1)
 | none => none
noncomputable def C_law16_entries (x : (List Entry)) : Option ((List Entry)) := F_law16_entries x

/- millstream/millstreamlaw16.memory -/
noncomputable def S_law16_memory_3 (x0 : Memo) (x1 : Memo) (x2 : Memo) (x3 : Int) : Option ((Memo × Memo × Memo × Int) ⊕ ((Memo × Memo))) :=
 bif decide (x3 < (↑x0.boxes.length : Int)) then
  bif decide ((0 : Int) ≤ x3) then
   bif decide (x3 < (↑x0.boxes.length : Int)) then
    match C_law16_entries (x0.boxes.getD x3.toNat ([] : List Entry)) with
    | some y1 =>
     bif fewB (x2.boxes.length + (y1 :: ([] : List (List Entry))).length) then
      some (Sum.inl (x0, x1, { x2 with boxes := x2.boxes ++ y1 :: ([] : List (List Entry)) }, wrapA IntKind.i64 (x3 + (1 : Int))))
     else
      none
    | none => none
   else
    none
  else
   none
 else
  some (Sum.inr (x1, x2))
noncomputable def T_law16_memory_3 (x : Memo × Memo × Memo × Int) : Option ((Memo × Memo × Memo × Int) ⊕ ((Memo × Memo))) := S_law16_memory_3 x.1 x.2.1 x.2.2.1 x.2.2.2
noncomputable def W_law16_memory_3 (x : Memo × Memo × Memo × Int) : Option ((Memo × Memo)) := whileM T_law16_memory_3 x
noncomputable def F_law16_memory (x0 : Memo) : Option (Memo) :=
 match W_law16_memory_3 (x0, Memo.mk ([] : List Int) ([] : List (List Entry)), { x0 with boxes := ([] : List (List Entry)) }, (0 : Int)) with
 | some y1 =>
  some (y1.snd)
 | none => none
noncomputable def C_law16_memory (x : Memo) : Option (Memo) := F_law16_memory x

/- millstream/millstreamlaw16.fiber -/
noncomputable def S_law16_fiber_3 (x0 : Thread) (x1 : Thread) (x2 : Thread) (x3 : Int) : Option ((Thread × Thread × Thread × Int) ⊕ ((Thread × Thread))) :=
 bif decide (x3 < (↑x0.kids.length : Int)) then
  bif decide ((0 : Int) ≤ x3) then
   bif decide (x3 < (↑x0.kids.length : Int)) then
    bif fewB (x2.kids.length + (x0.kids.getD x3.toNat dKid :: ([] : List Kid)).length) then
     some (Sum.inl (x0, x1, { x2 with kids := x2.kids ++ x0.kids.getD x3.toNat dKid :: ([] : List Kid) }, wrapA IntKind.i64 (x3 + (1 : Int))))
    else
     none
   else
    none
  else
   none
 else
  some (Sum.inr (x1, x2))
noncomputable def T_law16_fiber_3 (x : Thread × Thread × Thread × Int) : Option ((Thread × Thread × Thread × Int) ⊕ ((Thread × Thread))) := S_law16_fiber_3 x.1 x.2.1 x.2.2.1 x.2.2.2
noncomputable def W_law16_fiber_3 (x : Thread × Thread × Thread × Int) : Option ((Thread × Thread)) := whileM T_law16_fiber_3 x
noncomputable def F_law16_fiber (x0 : Thread) : Option (Thread) :=
 match C_law16_entries x0.batch with
 | some y1 =>
  match W_law16_fiber_3 (x0, Thread.mk (0 : Int) (0 : Int) (Op.mk (0 : Int) (0 : Int)) ([] : List Entry) ([] : List Kid) ([] : List Int) (0 : Int) (0 : Int) (0 : Int) (0 : Int) (0 : Int) (0 : Int) (0 : Int) (0 : Int) (0 : Int) (0 : Int), { x0 with batch := y1, kids := ([] : List Kid) }, (0 : Int)) with
  | some y2 =>
   some (y2.snd)
  | none => none
 | none => none
noncomputable def C_law16_fiber (x : Thread) : Option (Thread) := F_law16_fiber x

/- millstream/millstreamlaw16.marks -/
noncomputable def S_law16_marks_3 (x0 : List Mark) (x1 : List Mark) (x2 : Int) : Option (((List Mark) × (List Mark) × Int) ⊕ (((List Mark)))) :=
 bif decide (x2 < (↑x0.length : Int)) then
  bif decide ((0 : Int) ≤ x2) then
   bif decide (x2 < (↑x0.length : Int)) then
    bif decide ((0 : Int) ≤ x2) then
     bif decide (x2 < (↑x0.length : Int)) then
      bif decide ((0 : Int) ≤ x2) then
       bif decide (x2 < (↑x0.length : Int)) then
        bif decide ((0 : Int) ≤ x2) then
         bif decide (x2 < (↑x0.length : Int)) then
          bif decide ((0 : Int) ≤ x2) then
           bif decide (x2 < (↑x0.length : Int)) then
            bif fewB (x1.length + (x0.getD x2.toNat dMark :: ([] : List Mark)).length) then
             some (Sum.inl (x0, x1 ++ x0.getD x2.toNat dMark :: ([] : List Mark), wrapA IntKind.i64 (x2 + (1 : Int))))
            else
             none
           else
            none
          else
           none
         else
          none
        else
         none
       else
        none
      else
       none
     else
      none
    else
     none
   else
    none
  else
   none
 else
  some (Sum.inr x1)
noncomputable def T_law16_marks_3 (x : (List Mark) × (List Mark) × Int) : Option (((List Mark) × (List Mark) × Int) ⊕ (((List Mark)))) := S_law16_marks_3 x.1 x.2.1 x.2.2
noncomputable def W_law16_marks_3 (x : (List Mark) × (List Mark) × Int) : Option (((List Mark))) := whileM T_law16_marks_3 x
noncomputable def F_law16_marks (x0 : List Mark) : Option ((List Mark)) :=
 match W_law16_marks_3 (x0, ([] : List Mark), (0 : Int)) with
 | some y1 =>
  some (y1)
 | none => none
noncomputable def C_law16_marks (x : (List Mark)) : Option ((List Mark)) := F_law16_marks x

/- millstream/millstreamlaw16.its -/
noncomputable def F_law16_its (x0 : Turn) : Option (Turn) :=
 match C_law16_memory x0.m with
 | some y1 =>
  match C_law16_fiber x0.th with
  | some y2 =>
   match C_law16_marks x0.log with
   | some y3 =>
    some ({ x0 with m := y1, th := y2, log := y3 })
   | none => none
  | none => none
 | none => none
noncomputable def C_law16_its (x : Turn) : Option (Turn) := F_law16_its x

/- millstream/millstreamref01.sum -/
noncomputable def F_ref01_sum (x0 : Int) (x1 : Int) : Option (Int × Bool) :=
 some ((wrapA IntKind.i64 (x0 + x1), decide (x1 ≥ (0 : Int)) == decide (wrapA IntKind.i64 (x0 + x1) ≥ x0)))
noncomputable def C_ref01_sum (x : Int × Int) : Option (Int × Bool) := F_ref01_sum x.1 x.2

/- millstream/millstreamref01.Apply -/
noncomputable def F_ref01_Apply (x0 : Op) (x1 : Int) (x2 : Int) (x3 : Int) : Option (Int × Bool) :=
 bif x0.tag == (1 : Int) then
  some ((wrapA IntKind.i64 (x1 + x0.v), true))
 else
  bif x0.tag == (2 : Int) then
   some ((wrapA IntKind.i64 (x1 - x0.v), true))
  else
   bif x0.tag == (3 : Int) then
    some ((wrapA IntKind.i64 (↑(BitVec.ofInt IntKind.i64.bits x1 ||| BitVec.ofInt IntKind.i64.bits x0.v).toNat : Int), true))
   else
    bif x0.tag == (4 : Int) then
     some ((wrapA IntKind.i64 (↑(BitVec.ofInt IntKind.i64.bits x1 &&& BitVec.ofInt IntKind.i64.bits x0.v).toNat : Int), true))
    else
     bif x0.tag == (5 : Int) then
      some ((if x0.v > x1 then x0.v else x1, true))
     else
      bif x0.tag == (6 : Int) then
       some ((if x0.v < x1 then x0.v else x1, true))
      else
       bif x0.tag == (7 : Int) then
        some ((x0.v, true))
       else
        bif x0.tag == (8 : Int) then
         match C_ref01_sum (x1, x0.v) with
         | some y1 =>
          bif !y1.snd then
           some ((x1, false))
          else
           bif decide (y1.fst < x2) then
            some ((x1, false))
           else
            bif decide (y1.fst > x3) then
             some ((x1, false))
            else
             some ((y1.fst, true))
         | none => none
        else
         bif x0.tag == (9 : Int) then
          bif decide (x0.v < (0 : Int)) then
           some ((x1, false))
          else
           bif decide (x1 < x2) then
            some ((x1, false))
           else
            bif decide (IntKind.u64.wrap x0.v ≥ wrapA IntKind.u64 (IntKind.u64.wrap x1 - IntKind.u64.wrap x2)) then
             some ((x2, true))
            else
             some ((wrapA IntKind.i64 (x1 - x0.v), true))
         else
          some ((x1, false))
noncomputable def C_ref01_Apply (x : Op × Int × Int × Int) : Option (Int × Bool) := F_ref01_Apply x.1 x.2.1 x.2.2.1 x.2.2.2

/- millstream/wmem.made[int] -/
noncomputable def F_wmem_made_int (x0 : Int) : Option ((List Int)) :=
 bif decide (x0 < (1 : Int)) then
  some (([] : List Int))
 else
  bif decide (x0 > (10000 : Int)) then
   some (([] : List Int))
  else
   bif x0 == x0 then
    bif decide ((0 : Int) ≤ x0) then
     bif decide (x0 ≤ maxElems) then
      some (List.replicate x0.toNat (0 : Int))
     else
      none
    else
     none
   else
    none
noncomputable def C_wmem_made_int (x : Int) : Option ((List Int)) := F_wmem_made_int x

/- millstream/wmem.made[[]millstream/batch.Entry] -/
noncomputable def F_wmem_made_lbatch_Entry (x0 : Int) : Option ((List (List Entry))) :=
 bif decide (x0 < (1 : Int)) then
  some (([] : List (List Entry)))
 else
  bif decide (x0 > (10000 : Int)) then
   some (([] : List (List Entry)))
  else
   bif x0 == x0 then
    bif decide ((0 : Int) ≤ x0) then
     bif decide (x0 ≤ maxElems) then
      some (List.replicate x0.toNat ([] : List Entry))
     else
      none
    else
     none
   else
    none
noncomputable def C_wmem_made_lbatch_Entry (x : Int) : Option ((List (List Entry))) := F_wmem_made_lbatch_Entry x

/- millstream/wmem.New -/
noncomputable def F_wmem_New (x0 : Int) (x1 : Int) : Option (Memo) :=
 match C_wmem_made_int x0 with
 | some y1 =>
  match C_wmem_made_lbatch_Entry x1 with
  | some y2 =>
   some (Memo.mk y1 y2)
  | none => none
 | none => none
noncomputable def C_wmem_New (x : Int × Int) : Option (Memo) := F_wmem_New x.1 x.2

/- millstream/arena.Nodes -/
noncomputable def F_arena_Nodes (x0 : Config) : Option (Int) :=
 bif decide (x0.depth < (0 : Int)) then
  none
 else
  some (wrapA IntKind.i64 (wrapA IntKind.i64 ((1 : Int) * (2 : Int) ^ min x0.depth.toNat IntKind.i64.bits) - (1 : Int)))
noncomputable def C_arena_Nodes (x : Config) : Option (Int) := F_arena_Nodes x

/- millstream/arena.of -/
noncomputable def F_arena_of (x0 : Config) : Option (Plan) :=
 match C_arena_Nodes x0 with
 | some y1 =>
  some (Plan.mk (1 : Int) (wrapA IntKind.i64 ((1 : Int) + y1)) (wrapA IntKind.i64 (wrapA IntKind.i64 ((1 : Int) + y1) + wrapA IntKind.i64 (x0.layers * x0.width))) (wrapA IntKind.i64 (x0.items * wrapA IntKind.i64 (wrapA IntKind.i64 ((1 : Int) + y1) + wrapA IntKind.i64 (x0.layers * x0.width)))))
 | none => none
noncomputable def C_arena_of (x : Config) : Option (Plan) := F_arena_of x

/- millstream/arena.Size -/
noncomputable def F_arena_Size (x0 : Config) : Option (Int) :=
 match C_arena_of x0 with
 | some y1 =>
  some (wrapA IntKind.i64 (y1.lines + wrapA IntKind.i64 ((2 : Int) * x0.threads)))
 | none => none
noncomputable def C_arena_Size (x : Config) : Option (Int) := F_arena_Size x

/- millstream/arena.Cell -/
noncomputable def F_arena_Cell (x0 : Config) (x1 : Int) : Option (Int) :=
 bif decide (x1 < (0 : Int)) then
  some ((-1 : Int))
 else
  bif decide (x1 ≥ x0.items) then
   some ((-1 : Int))
  else
   match C_arena_of x0 with
   | some y1 =>
    some (wrapA IntKind.i64 (x1 * y1.block))
   | none => none
noncomputable def C_arena_Cell (x : Config × Int) : Option (Int) := F_arena_Cell x.1 x.2

/- millstream/arena.Build -/
noncomputable def S_arena_Build_3 (x0 : Config) (x1 : Memo) (x2 : Memo) (x3 : Int) (x4 : Int) : Option ((Config × Memo × Memo × Int × Int) ⊕ ((Memo × Memo))) :=
 bif decide (x4 < x3) then
  match C_arena_Cell (x0, x4) with
  | some y1 =>
   bif decide ((0 : Int) ≤ y1) then
    bif decide (y1 < (↑x2.words.length : Int)) then
     some (Sum.inl (x0, x1, { x2 with words := x2.words.set (Int.toNat y1) x0.init }, x3, wrapA IntKind.i64 (x4 + (1 : Int))))
    else
     none
   else
    none
  | none => none
 else
  some (Sum.inr (x1, x2))
noncomputable def T_arena_Build_3 (x : Config × Memo × Memo × Int × Int) : Option ((Config × Memo × Memo × Int × Int) ⊕ ((Memo × Memo))) := S_arena_Build_3 x.1 x.2.1 x.2.2.1 x.2.2.2.1 x.2.2.2.2
noncomputable def W_arena_Build_3 (x : Config × Memo × Memo × Int × Int) : Option ((Memo × Memo)) := whileM T_arena_Build_3 x
noncomputable def F_arena_Build (x0 : Config) : Option (Memo) :=
 match C_arena_Size x0 with
 | some y1 =>
  match C_wmem_New (y1, x0.threads) with
  | some y2 =>
   match W_arena_Build_3 (x0, Memo.mk ([] : List Int) ([] : List (List Entry)), y2, x0.items, (0 : Int)) with
   | some y3 =>
    some (y3.snd)
   | none => none
  | none => none
 | none => none
noncomputable def C_arena_Build (x : Config) : Option (Memo) := F_arena_Build x

/- millstream/shape.Leaf -/
noncomputable def F_shape_Leaf (x0 : Int) (x1 : Int) : Option (Int) :=
 bif decide (x0 < (1 : Int)) then
  some ((0 : Int))
 else
  bif decide (wrapA IntKind.i64 (x0 - (1 : Int)) < (0 : Int)) then
   none
  else
   some (wrapA IntKind.i64 (↑(BitVec.ofInt IntKind.i64.bits (wrapA IntKind.i64 ((1 : Int) * (2 : Int) ^ min (wrapA IntKind.i64 (x0 - (1 : Int))).toNat IntKind.i64.bits)) ||| BitVec.ofInt IntKind.i64.bits (wrapA IntKind.i64 (↑(BitVec.ofInt IntKind.i64.bits (x1.fdiv ((2 : Int) ^ min (Int.toNat (1 : Int)) IntKind.i64.bits)) &&& BitVec.ofInt IntKind.i64.bits (wrapA IntKind.i64 (wrapA IntKind.i64 ((1 : Int) * (2 : Int) ^ min (wrapA IntKind.i64 (x0 - (1 : Int))).toNat IntKind.i64.bits) - (1 : Int)))).toNat : Int))).toNat : Int))
noncomputable def C_shape_Leaf (x : Int × Int) : Option (Int) := F_shape_Leaf x.1 x.2

/- millstream/thread.Begin -/
noncomputable def F_thread_Begin (x0 : Config) (x1 : Int) (x2 : Thread) (x3 : Int) (x4 : Op) (x5 : Int) : Option (Thread) :=
 match C_shape_Leaf (x0.depth, x1) with
 | some y1 =>
  bif decide (x0.wait > (0 : Int)) then
   some (Thread.mk (1 : Int) x3 x4 (Entry.mk x1 x4 :: ([] : List Entry)) ([] : List Kid) ([] : List Int) (0 : Int) y1 (0 : Int) (0 : Int) (0 : Int) x2.width (0 : Int) (0 : Int) (0 : Int) (wrapA IntKind.i64 (x5 + x0.wait)))
  else
   some (Thread.mk (1 : Int) x3 x4 (Entry.mk x1 x4 :: ([] : List Entry)) ([] : List Kid) ([] : List Int) (0 : Int) y1 (0 : Int) (0 : Int) (0 : Int) x2.width (0 : Int) (0 : Int) (0 : Int) (0 : Int))
 | none => none
noncomputable def C_thread_Begin (x : Config × Int × Thread × Int × Op × Int) : Option (Thread) := F_thread_Begin x.1 x.2.1 x.2.2.1 x.2.2.2.1 x.2.2.2.2.1 x.2.2.2.2.2

/- millstream/thread.New -/
noncomputable def F_thread_New : Option (Thread) :=
 some (Thread.mk (0 : Int) (0 : Int) (Op.mk (0 : Int) (0 : Int)) ([] : List Entry) ([] : List Kid) ([] : List Int) (0 : Int) (0 : Int) (0 : Int) (0 : Int) (0 : Int) (1 : Int) (0 : Int) (0 : Int) (0 : Int) (0 : Int))
noncomputable def C_thread_New (x : Unit) : Option (Thread) := F_thread_New

/- millstream/millstreamlaw16.layered -/
noncomputable def F_law16_layered (x0 : Turn) : Option (Bool) :=
 match C_law16_may x0 with
 | some y1 =>
  bif y1 then
   bif decide (x0.th.phase < (17 : Int)) then
    some (true)
   else
    bif decide (x0.th.layer ≥ (1 : Int)) then
     some (decide (x0.th.layer ≤ (3 : Int)))
    else
     some (false)
  else
   some (false)
 | none => none
noncomputable def C_law16_layered (x : Turn) : Option (Bool) := F_law16_layered x

/- millstream/millstreamref01.May -/
noncomputable def F_ref01_May (x0 : Op) (x1 : Bool) : Option (Bool) :=
 bif x1 then
  bif x0.tag == (8 : Int) then
   some (true)
  else
   bif x0.tag == (9 : Int) then
    some (decide (x0.v ≥ (0 : Int)))
   else
    some (false)
 else
  bif decide (x0.tag ≥ (1 : Int)) then
   some (decide (x0.tag ≤ (7 : Int)))
  else
   some (false)
noncomputable def C_ref01_May (x : Op × Bool) : Option (Bool) := F_ref01_May x.1 x.2

/- millstream/config.Steps -/
noncomputable def F_config_Steps (x0 : Config) : Option (Int) :=
 some (wrapA IntKind.i64 (wrapA IntKind.i64 ((20 : Int) + wrapA IntKind.i64 ((8 : Int) * x0.depth)) + wrapA IntKind.i64 (x0.layers * wrapA IntKind.i64 ((20 : Int) + wrapA IntKind.i64 ((2 : Int) * x0.spin)))))
noncomputable def C_config_Steps (x : Config) : Option (Int) := F_config_Steps x

/- millstream/thread.Busy -/
noncomputable def F_thread_Busy (x0 : Thread) : Option (Bool) :=
 some (x0.phase != (0 : Int))
noncomputable def C_thread_Busy (x : Thread) : Option (Bool) := F_thread_Busy x

/- millstream/millstreamref06.Cell -/
noncomputable def F_ref06_Cell (x0 : Config) (x1 : Int) : Option (Int) :=
 bif decide (x1 < (0 : Int)) then
  some ((-1 : Int))
 else
  bif decide (x1 ≥ x0.items) then
   some ((-1 : Int))
  else
   match C_ref06_block x0 with
   | some y1 =>
    some (wrapA IntKind.i64 (x1 * y1))
   | none => none
noncomputable def C_ref06_Cell (x : Config × Int) : Option (Int) := F_ref06_Cell x.1 x.2

/- millstream/millstreamref06.Node -/
noncomputable def F_ref06_Node (x0 : Config) (x1 : Int) (x2 : Int) : Option (Int) :=
 bif decide (x1 < (0 : Int)) then
  some ((-1 : Int))
 else
  bif decide (x1 ≥ x0.items) then
   some ((-1 : Int))
  else
   bif decide (x2 < (1 : Int)) then
    some ((-1 : Int))
   else
    match C_ref06_Nodes x0 with
    | some y1 =>
     bif decide (x2 > y1) then
      some ((-1 : Int))
     else
      match C_ref06_block x0 with
      | some y2 =>
       some (wrapA IntKind.i64 (wrapA IntKind.i64 (x1 * y2) + x2))
      | none => none
    | none => none
noncomputable def C_ref06_Node (x : Config × Int × Int) : Option (Int) := F_ref06_Node x.1 x.2.1 x.2.2

/- millstream/millstreamref06.Line -/
noncomputable def F_ref06_Line (x0 : Config) (x1 : Int) : Option (Int) :=
 bif decide (x1 < (0 : Int)) then
  some ((-1 : Int))
 else
  bif decide (x1 ≥ x0.threads) then
   some ((-1 : Int))
  else
   match C_ref06_block x0 with
   | some y1 =>
    some (wrapA IntKind.i64 (wrapA IntKind.i64 (x0.items * y1) + wrapA IntKind.i64 ((2 : Int) * x1)))
   | none => none
noncomputable def C_ref06_Line (x : Config × Int) : Option (Int) := F_ref06_Line x.1 x.2

/- millstream/millstreamlaw17.long -/
noncomputable def F_law17_long (x0 : List SEntry) (x1 : List Int) : Option (Bool) :=
 bif decide ((↑x0.length : Int) > (400 : Int)) then
  some (true)
 else
  some (decide ((↑x1.length : Int) > (200 : Int)))
noncomputable def C_law17_long (x : (List SEntry) × (List Int)) : Option (Bool) := F_law17_long x.1 x.2

/- millstream/millstreamref03.New -/
noncomputable def S_ref03_New_7 (x0 : Int) (x1 : Memo) (x2 : Memo) (x3 : Int) : Option ((Int × Memo × Memo × Int) ⊕ ((Memo × Memo))) :=
 bif decide (x3 < x0) then
  bif decide (x0 ≤ (10000 : Int)) then
   bif fewB (x2.boxes.length + (([] : List Entry) :: ([] : List (List Entry))).length) then
    some (Sum.inl (x0, x1, { x2 with boxes := x2.boxes ++ ([] : List Entry) :: ([] : List (List Entry)) }, wrapA IntKind.i64 (x3 + (1 : Int))))
   else
    none
  else
   some (Sum.inr (x1, x2))
 else
  some (Sum.inr (x1, x2))
noncomputable def T_ref03_New_7 (x : Int × Memo × Memo × Int) : Option ((Int × Memo × Memo × Int) ⊕ ((Memo × Memo))) := S_ref03_New_7 x.1 x.2.1 x.2.2.1 x.2.2.2
noncomputable def W_ref03_New_7 (x : Int × Memo × Memo × Int) : Option ((Memo × Memo)) := whileM T_ref03_New_7 x
noncomputable def S_ref03_New_3 (x0 : Int) (x1 : Int) (x2 : Memo) (x3 : Memo) (x4 : Int) : Option ((Int × Int × Memo × Memo × Int) ⊕ ((Int × Memo × Memo))) :=
 bif decide (x4 < x0) then
  bif decide (x0 ≤ (10000 : Int)) then
   bif fewB (x3.words.length + ((0 : Int) :: ([] : List Int)).length) then
    some (Sum.inl (x0, x1, x2, { x3 with words := x3.words ++ (0 : Int) :: ([] : List Int) }, wrapA IntKind.i64 (x4 + (1 : Int))))
   else
    none
  else
   some (Sum.inr (x1, x2, x3))
 else
  some (Sum.inr (x1, x2, x3))
noncomputable def T_ref03_New_3 (x : Int × Int × Memo × Memo × Int) : Option ((Int × Int × Memo × Memo × Int) ⊕ ((Int × Memo × Memo))) := S_ref03_New_3 x.1 x.2.1 x.2.2.1 x.2.2.2.1 x.2.2.2.2
noncomputable def W_ref03_New_3 (x : Int × Int × Memo × Memo × Int) : Option ((Int × Memo × Memo)) := whileM T_ref03_New_3 x
noncomputable def F_ref03_New (x0 : Int) (x1 : Int) : Option (Memo) :=
 match W_ref03_New_3 (x0, x1, Memo.mk ([] : List Int) ([] : List (List Entry)), Memo.mk ([] : List Int) ([] : List (List Entry)), (0 : Int)) with
 | some y1 =>
  match W_ref03_New_7 (y1.fst, y1.snd.fst, y1.snd.snd, (0 : Int)) with
  | some y2 =>
   some (y2.snd)
  | none => none
 | none => none
noncomputable def C_ref03_New (x : Int × Int) : Option (Memo) := F_ref03_New x.1 x.2

/- millstream/millstreamref03.Store -/
noncomputable def F_ref03_Store (x0 : Memo) (x1 : Int) (x2 : Int) : Option (Memo × Int) :=
 bif decide (x1 < (0 : Int)) then
  some ((x0, (30 : Int)))
 else
  bif decide (x1 ≥ (↑x0.words.length : Int)) then
   some ((x0, (30 : Int)))
  else
   bif fewB ((0 : Nat) + x0.words.length) then
    bif decide ((0 : Int) ≤ x1) then
     bif decide (x1 < (↑x0.words.length : Int)) then
      some (({ x0 with words := x0.words.set x1.toNat x2 }, (0 : Int)))
     else
      none
    else
     none
   else
    none
noncomputable def C_ref03_Store (x : Memo × Int × Int) : Option (Memo × Int) := F_ref03_Store x.1 x.2.1 x.2.2

/- millstream/millstreamref06.Build -/
noncomputable def S_ref06_Build_3 (x0 : Config) (x1 : Memo) (x2 : Memo) (x3 : Int) : Option ((Config × Memo × Memo × Int) ⊕ ((Memo × Memo))) :=
 bif decide (x3 < x0.items) then
  match C_ref06_Cell (x0, x3) with
  | some y1 =>
   match C_ref03_Store (x2, y1, x0.init) with
   | some y2 =>
    some (Sum.inl (x0, x1, y2.fst, wrapA IntKind.i64 (x3 + (1 : Int))))
   | none => none
  | none => none
 else
  some (Sum.inr (x1, x2))
noncomputable def T_ref06_Build_3 (x : Config × Memo × Memo × Int) : Option ((Config × Memo × Memo × Int) ⊕ ((Memo × Memo))) := S_ref06_Build_3 x.1 x.2.1 x.2.2.1 x.2.2.2
noncomputable def W_ref06_Build_3 (x : Config × Memo × Memo × Int) : Option ((Memo × Memo)) := whileM T_ref06_Build_3 x
noncomputable def F_ref06_Build (x0 : Config) : Option (Memo) :=
 match C_ref06_Size x0 with
 | some y1 =>
  match C_ref03_New (y1, x0.threads) with
  | some y2 =>
   match W_ref06_Build_3 (x0, Memo.mk ([] : List Int) ([] : List (List Entry)), y2, (0 : Int)) with
   | some y3 =>
    some (y3.snd)
   | none => none
  | none => none
 | none => none
noncomputable def C_ref06_Build (x : Config) : Option (Memo) := F_ref06_Build x

/- millstream/millstreamref10.New -/
noncomputable def F_ref10_New : Option (Thread) :=
 some (Thread.mk (0 : Int) (0 : Int) (Op.mk (0 : Int) (0 : Int)) ([] : List Entry) ([] : List Kid) ([] : List Int) (0 : Int) (0 : Int) (0 : Int) (0 : Int) (0 : Int) (1 : Int) (0 : Int) (0 : Int) (0 : Int) (0 : Int))
noncomputable def C_ref10_New (x : Unit) : Option (Thread) := F_ref10_New

/- millstream/millstreamref17.New -/
noncomputable def S_ref17_New_6 (x0 : Config) (x1 : Wld) (x2 : Wld) (x3 : Int) : Option ((Config × Wld × Wld × Int) ⊕ ((Wld × Wld))) :=
 bif decide (x3 < x0.threads) then
  match C_ref10_New () with
  | some y1 =>
   bif fewB (x2.t.length + (y1 :: ([] : List Thread)).length) then
    some (Sum.inl (x0, x1, { x2 with t := x2.t ++ y1 :: ([] : List Thread) }, wrapA IntKind.i64 (x3 + (1 : Int))))
   else
    none
  | none => none
 else
  some (Sum.inr (x1, x2))
noncomputable def T_ref17_New_6 (x : Config × Wld × Wld × Int) : Option ((Config × Wld × Wld × Int) ⊕ ((Wld × Wld))) := S_ref17_New_6 x.1 x.2.1 x.2.2.1 x.2.2.2
noncomputable def W_ref17_New_6 (x : Config × Wld × Wld × Int) : Option ((Wld × Wld)) := whileM T_ref17_New_6 x
noncomputable def F_ref17_New (x0 : Config) (x1 : List Int) : Option (Wld × Int) :=
 match C_ref05_Check x0 with
 | some y1 =>
  bif y1 != (0 : Int) then
   some ((Wld.mk (Config.mk (0 : Int) (0 : Int) (0 : Int) (0 : Int) (0 : Int) (0 : Int) (0 : Int) (0 : Int) false (0 : Int) (0 : Int) (0 : Int)) (Memo.mk ([] : List Int) ([] : List (List Entry))) ([] : List Thread) (0 : Int) (0 : Int) (Tape.mk ([] : List Int) (0 : Int)) ([] : List Mark) ([] : List Event), y1))
  else
   match C_ref06_Build x0 with
   | some y2 =>
    bif fewB ((0 : Nat) + x1.length) then
     match W_ref17_New_6 (x0, Wld.mk (Config.mk (0 : Int) (0 : Int) (0 : Int) (0 : Int) (0 : Int) (0 : Int) (0 : Int) (0 : Int) false (0 : Int) (0 : Int) (0 : Int)) (Memo.mk ([] : List Int) ([] : List (List Entry))) ([] : List Thread) (0 : Int) (0 : Int) (Tape.mk ([] : List Int) (0 : Int)) ([] : List Mark) ([] : List Event), Wld.mk x0 y2 ([] : List Thread) (0 : Int) (0 : Int) (Tape.mk x1 (0 : Int)) ([] : List Mark) ([] : List Event), (0 : Int)) with
     | some y3 =>
      some ((y3.snd, (0 : Int)))
     | none => none
    else
     none
   | none => none
 | none => none
noncomputable def C_ref17_New (x : Config × (List Int)) : Option (Wld × Int) := F_ref17_New x.1 x.2

/- millstream/millstreamref09.Check -/
noncomputable def F_ref09_Check (x0 : Config) (x1 : SEntry) : Option (Int) :=
 bif decide (x1.kind < (1 : Int)) then
  some ((90 : Int))
 else
  bif decide (x1.kind > (3 : Int)) then
   some ((90 : Int))
  else
   bif x1.kind == (3 : Int) then
    some ((0 : Int))
   else
    bif decide (x1.t < (0 : Int)) then
     some ((91 : Int))
    else
     bif decide (x1.t ≥ x0.threads) then
      some ((91 : Int))
     else
      bif x1.kind == (2 : Int) then
       some ((0 : Int))
      else
       bif decide (x1.item < (0 : Int)) then
        some ((92 : Int))
       else
        bif decide (x1.item ≥ x0.items) then
         some ((92 : Int))
        else
         match C_ref01_May (x1.op, x0.bounded) with
         | some y1 =>
          bif !y1 then
           some ((93 : Int))
          else
           some ((0 : Int))
         | none => none
noncomputable def C_ref09_Check (x : Config × SEntry) : Option (Int) := F_ref09_Check x.1 x.2

/- millstream/millstreamref10.Busy -/
noncomputable def F_ref10_Busy (x0 : Thread) : Option (Bool) :=
 some (x0.phase != (0 : Int))
noncomputable def C_ref10_Busy (x : Thread) : Option (Bool) := F_ref10_Busy x

/- millstream/millstreamref17.with -/
noncomputable def F_ref17_with (x0 : Wld) (x1 : Event) : Option (Wld) :=
 bif fewB ((0 : Nat) + x0.hist.length) then
  bif fewB (x0.hist.length + ({ x1 with step := x0.steps } :: ([] : List Event)).length) then
   some ({ x0 with hist := x0.hist ++ { x1 with step := x0.steps } :: ([] : List Event) })
  else
   none
 else
  none
noncomputable def C_ref17_with (x : Wld × Event) : Option (Wld) := F_ref17_with x.1 x.2

/- millstream/millstreamref17.turned -/
noncomputable def F_ref17_turned (x0 : Wld) (x1 : Int) (x2 : Thread) : Option (Wld) :=
 bif fewB ((0 : Nat) + x0.t.length) then
  bif decide ((0 : Int) ≤ x1) then
   bif decide (x1 < (↑x0.t.length : Int)) then
    some ({ x0 with t := x0.t.set x1.toNat x2 })
   else
    none
  else
   none
 else
  none
noncomputable def C_ref17_turned (x : Wld × Int × Thread) : Option (Wld) := F_ref17_turned x.1 x.2.1 x.2.2

/- millstream/millstreamref07.Leaf -/
noncomputable def S_ref07_Leaf_5 (x0 : Int) (x1 : Int) (x2 : Int) (x3 : Int) : Option ((Int × Int × Int × Int) ⊕ ((Int × Int))) :=
 bif decide (x3 < x0) then
  some (Sum.inl (x0, x1, wrapA IntKind.i64 ((2 : Int) * x2), wrapA IntKind.i64 (x3 + (1 : Int))))
 else
  some (Sum.inr (x1, x2))
noncomputable def T_ref07_Leaf_5 (x : Int × Int × Int × Int) : Option ((Int × Int × Int × Int) ⊕ ((Int × Int))) := S_ref07_Leaf_5 x.1 x.2.1 x.2.2.1 x.2.2.2
noncomputable def W_ref07_Leaf_5 (x : Int × Int × Int × Int) : Option ((Int × Int)) := whileM T_ref07_Leaf_5 x
noncomputable def F_ref07_Leaf (x0 : Int) (x1 : Int) : Option (Int) :=
 bif decide (x0 < (1 : Int)) then
  some ((0 : Int))
 else
  match W_ref07_Leaf_5 (x0, x1, (1 : Int), (1 : Int)) with
  | some y1 =>
   bif decide (y1.snd = (0 : Int)) then
    none
   else
    some (wrapA IntKind.i64 (y1.snd + (wrapA IntKind.i64 (Int.tdiv y1.fst (2 : Int))).tmod y1.snd))
  | none => none
noncomputable def C_ref07_Leaf (x : Int × Int) : Option (Int) := F_ref07_Leaf x.1 x.2

/- millstream/millstreamref10.Begin -/
noncomputable def F_ref10_Begin (x0 : Config) (x1 : Int) (x2 : Thread) (x3 : Int) (x4 : Op) (x5 : Int) : Option (Thread) :=
 match C_ref07_Leaf (x0.depth, x1) with
 | some y1 =>
  bif decide (x0.wait > (0 : Int)) then
   some (Thread.mk (1 : Int) x3 x4 (Entry.mk x1 x4 :: ([] : List Entry)) ([] : List Kid) ([] : List Int) (0 : Int) y1 (0 : Int) (0 : Int) (0 : Int) x2.width (0 : Int) (0 : Int) (0 : Int) (wrapA IntKind.i64 (x5 + x0.wait)))
  else
   some (Thread.mk (1 : Int) x3 x4 (Entry.mk x1 x4 :: ([] : List Entry)) ([] : List Kid) ([] : List Int) (0 : Int) y1 (0 : Int) (0 : Int) (0 : Int) x2.width (0 : Int) (0 : Int) (0 : Int) (0 : Int))
 | none => none
noncomputable def C_ref10_Begin (x : Config × Int × Thread × Int × Op × Int) : Option (Thread) := F_ref10_Begin x.1 x.2.1 x.2.2.1 x.2.2.2.1 x.2.2.2.2.1 x.2.2.2.2.2

/- millstream/millstreamref16.Start -/
noncomputable def F_ref16_Start (x0 : Turn) : Option (Turn) :=
 bif x0.c.backend == (2 : Int) then
  bif decide (x0.c.depth > (0 : Int)) then
   bif x0.c.backend == (3 : Int) then
    bif decide (x0.c.layers > (0 : Int)) then
     some ({ x0 with th := { x0.th with phase := (17 : Int), layer := (1 : Int) } })
    else
     some ({ x0 with th := { x0.th with phase := (4 : Int) } })
   else
    some ({ x0 with th := { x0.th with phase := (4 : Int) } })
  else
   bif x0.c.backend == (3 : Int) then
    bif decide (x0.c.layers > (0 : Int)) then
     some ({ x0 with th := { x0.th with phase := (17 : Int), layer := (1 : Int) } })
    else
     some ({ x0 with th := { x0.th with phase := (2 : Int) } })
   else
    some ({ x0 with th := { x0.th with phase := (2 : Int) } })
 else
  bif x0.c.backend == (3 : Int) then
   bif decide (x0.c.layers > (0 : Int)) then
    some ({ x0 with th := { x0.th with phase := (17 : Int), layer := (1 : Int) } })
   else
    some ({ x0 with th := { x0.th with phase := (2 : Int) } })
  else
   some ({ x0 with th := { x0.th with phase := (2 : Int) } })
noncomputable def C_ref16_Start (x : Turn) : Option (Turn) := F_ref16_Start x

/- millstream/millstreamref03.Load -/
noncomputable def F_ref03_Load (x0 : Memo) (x1 : Int) : Option (Int × Int) :=
 bif decide (x1 < (0 : Int)) then
  some (((0 : Int), (30 : Int)))
 else
  bif decide (x1 ≥ (↑x0.words.length : Int)) then
   some (((0 : Int), (30 : Int)))
  else
   bif decide ((0 : Int) ≤ x1) then
    bif decide (x1 < (↑x0.words.length : Int)) then
     some ((x0.words.getD x1.toNat (0 : Int), (0 : Int)))
    else
     none
   else
    none
noncomputable def C_ref03_Load (x : Memo × Int) : Option (Int × Int) := F_ref03_Load x.1 x.2

/- millstream/millstreamref08.Told -/
noncomputable def F_ref08_Told : Option (Int) :=
 some ((5 : Int))
noncomputable def C_ref08_Told (x : Unit) : Option (Int) := F_ref08_Told

/- millstream/millstreamref06.Result -/
noncomputable def F_ref06_Result (x0 : Config) (x1 : Int) : Option (Int) :=
 bif decide (x1 < (0 : Int)) then
  some ((-1 : Int))
 else
  bif decide (x1 ≥ x0.threads) then
   some ((-1 : Int))
  else
   match C_ref06_block x0 with
   | some y1 =>
    some (wrapA IntKind.i64 (wrapA IntKind.i64 (wrapA IntKind.i64 (x0.items * y1) + wrapA IntKind.i64 ((2 : Int) * x1)) + (1 : Int)))
   | none => none
noncomputable def C_ref06_Result (x : Config × Int) : Option (Int) := F_ref06_Result x.1 x.2

/- millstream/millstreamref11.Settle -/
noncomputable def F_ref11_Settle (x0 : Turn) : Option (Turn) :=
 bif decide (x0.th.at_ ≥ (0 : Int)) then
  bif decide (x0.th.at_ < (↑x0.th.kids.length : Int)) then
   some ({ x0 with th := { x0.th with phase := (15 : Int) } })
  else
   some ({ x0 with th := { x0.th with phase := (0 : Int) }, done := true })
 else
  some ({ x0 with th := { x0.th with phase := (0 : Int) }, done := true })
noncomputable def C_ref11_Settle (x : Turn) : Option (Turn) := F_ref11_Settle x

/- millstream/millstreamref02.All -/
noncomputable def S_ref02_All_2 (x0 : List Entry) (x1 : Int) (x2 : Int) (x3 : Int) (x4 : Int) : Option (((List Entry) × Int × Int × Int × Int) ⊕ ((Int))) :=
 bif decide (x4 < (↑x0.length : Int)) then
  bif decide ((0 : Int) ≤ x4) then
   bif decide (x4 < (↑x0.length : Int)) then
    match C_ref01_Apply ((x0.getD x4.toNat dEntry).op, x1, x2, x3) with
    | some y1 =>
     some (Sum.inl (x0, y1.fst, x2, x3, wrapA IntKind.i64 (x4 + (1 : Int))))
    | none => none
   else
    none
  else
   none
 else
  some (Sum.inr x1)
noncomputable def T_ref02_All_2 (x : (List Entry) × Int × Int × Int × Int) : Option (((List Entry) × Int × Int × Int × Int) ⊕ ((Int))) := S_ref02_All_2 x.1 x.2.1 x.2.2.1 x.2.2.2.1 x.2.2.2.2
noncomputable def W_ref02_All_2 (x : (List Entry) × Int × Int × Int × Int) : Option ((Int)) := whileM T_ref02_All_2 x
noncomputable def F_ref02_All (x0 : List Entry) (x1 : Int) (x2 : Int) (x3 : Int) : Option (Int) :=
 match W_ref02_All_2 (x0, x1, x2, x3, (0 : Int)) with
 | some y1 =>
  some (y1)
 | none => none
noncomputable def C_ref02_All (x : (List Entry) × Int × Int × Int) : Option (Int) := F_ref02_All x.1 x.2.1 x.2.2.1 x.2.2.2

/- millstream/millstreamref02.Upto -/
noncomputable def S_ref02_Upto_3 (x0 : List Entry) (x1 : Int) (x2 : List Entry) (x3 : Int) : Option (((List Entry) × Int × (List Entry) × Int) ⊕ (((List Entry)))) :=
 bif decide (x3 < (↑x0.length : Int)) then
  bif decide (x3 < x1) then
   bif decide ((0 : Int) ≤ x3) then
    bif decide (x3 < (↑x0.length : Int)) then
     bif fewB (x2.length + (x0.getD x3.toNat dEntry :: ([] : List Entry)).length) then
      some (Sum.inl (x0, x1, x2 ++ x0.getD x3.toNat dEntry :: ([] : List Entry), wrapA IntKind.i64 (x3 + (1 : Int))))
     else
      none
    else
     none
   else
    none
  else
   some (Sum.inr x2)
 else
  some (Sum.inr x2)
noncomputable def T_ref02_Upto_3 (x : (List Entry) × Int × (List Entry) × Int) : Option (((List Entry) × Int × (List Entry) × Int) ⊕ (((List Entry)))) := S_ref02_Upto_3 x.1 x.2.1 x.2.2.1 x.2.2.2
noncomputable def W_ref02_Upto_3 (x : (List Entry) × Int × (List Entry) × Int) : Option (((List Entry))) := whileM T_ref02_Upto_3 x
noncomputable def F_ref02_Upto (x0 : List Entry) (x1 : Int) : Option ((List Entry)) :=
 match W_ref02_Upto_3 (x0, x1, ([] : List Entry), (0 : Int)) with
 | some y1 =>
  some (y1)
 | none => none
noncomputable def C_ref02_Upto (x : (List Entry) × Int) : Option ((List Entry)) := F_ref02_Upto x.1 x.2

/- millstream/millstreamref11.told -/
noncomputable def F_ref11_told (x0 : Turn) : Option (Turn) :=
 bif decide ((0 : Int) ≤ x0.th.at_) then
  bif decide (x0.th.at_ < (↑x0.th.kids.length : Int)) then
   bif x0.th.phase == (15 : Int) then
    match C_ref06_Result (x0.c, (x0.th.kids.getD x0.th.at_.toNat dKid).t) with
    | some y1 =>
     match C_ref02_Upto (x0.th.batch, (x0.th.kids.getD x0.th.at_.toNat dKid).ahead) with
     | some y2 =>
      match C_ref02_All (y2, x0.th.x, x0.c.lo, x0.c.hi) with
      | some y3 =>
       match C_ref03_Store (x0.m, y1, y3) with
       | some y4 =>
        bif y4.snd == (0 : Int) then
         some ({ x0 with m := y4.fst, th := { x0.th with phase := (16 : Int) } })
        else
         some (x0)
       | none => none
      | none => none
     | none => none
    | none => none
   else
    match C_ref06_Line (x0.c, (x0.th.kids.getD x0.th.at_.toNat dKid).t) with
    | some y1 =>
     match C_ref08_Told () with
     | some y2 =>
      match C_ref03_Store (x0.m, y1, y2) with
      | some y3 =>
       bif y3.snd != (0 : Int) then
        some (x0)
       else
        match C_ref11_Settle { x0 with m := y3.fst, th := { x0.th with at_ := wrapA IntKind.i64 (x0.th.at_ + (1 : Int)) } } with
        | some y4 =>
         some (y4)
        | none => none
      | none => none
     | none => none
    | none => none
  else
   none
 else
  none
noncomputable def C_ref11_told (x : Turn) : Option (Turn) := F_ref11_told x

/- millstream/millstreamref11.Step -/
noncomputable def F_ref11_Step (x0 : Turn) : Option (Turn × Bool) :=
 bif x0.th.phase == (13 : Int) then
  match C_ref06_Line (x0.c, x0.t) with
  | some y1 =>
   match C_ref03_Load (x0.m, y1) with
   | some y2 =>
    bif y2.snd == (0 : Int) then
     match C_ref08_Told () with
     | some y3 =>
      bif y2.fst == y3 then
       some (({ x0 with th := { x0.th with phase := (14 : Int) } }, true))
      else
       some ((x0, true))
     | none => none
    else
     some ((x0, true))
   | none => none
  | none => none
 else
  bif x0.th.phase == (14 : Int) then
   match C_ref06_Result (x0.c, x0.t) with
   | some y1 =>
    match C_ref03_Load (x0.m, y1) with
    | some y2 =>
     bif y2.snd != (0 : Int) then
      some ((x0, true))
     else
      match C_ref11_Settle { x0 with th := { x0.th with at_ := (0 : Int), x := y2.fst } } with
      | some y3 =>
       some ((y3, true))
      | none => none
    | none => none
   | none => none
  else
   bif x0.th.phase == (15 : Int) then
    bif x0.th.phase == (15 : Int) then
     bif decide (x0.th.at_ < (0 : Int)) then
      some ((x0, true))
     else
      bif decide (x0.th.at_ ≥ (↑x0.th.kids.length : Int)) then
       some ((x0, true))
      else
       match C_ref11_told x0 with
       | some y1 =>
        some ((y1, true))
       | none => none
    else
     some ((x0, false))
   else
    bif x0.th.phase == (16 : Int) then
     bif decide (x0.th.at_ < (0 : Int)) then
      some ((x0, true))
     else
      bif decide (x0.th.at_ ≥ (↑x0.th.kids.length : Int)) then
       some ((x0, true))
      else
       match C_ref11_told x0 with
       | some y1 =>
        some ((y1, true))
       | none => none
    else
     some ((x0, false))
noncomputable def C_ref11_Step (x : Turn) : Option (Turn × Bool) := F_ref11_Step x

/- millstream/millstreamref02.Priors -/
noncomputable def S_ref02_Priors_3 (x0 : List Entry) (x1 : Int) (x2 : Int) (x3 : Int) (x4 : List Int) (x5 : Int) : Option (((List Entry) × Int × Int × Int × (List Int) × Int) ⊕ (((List Int)))) :=
 bif decide (x5 < (↑x0.length : Int)) then
  match C_ref02_Upto (x0, x5) with
  | some y1 =>
   match C_ref02_All (y1, x1, x2, x3) with
   | some y2 =>
    bif fewB (x4.length + (y2 :: ([] : List Int)).length) then
     some (Sum.inl (x0, x1, x2, x3, x4 ++ y2 :: ([] : List Int), wrapA IntKind.i64 (x5 + (1 : Int))))
    else
     none
   | none => none
  | none => none
 else
  some (Sum.inr x4)
noncomputable def T_ref02_Priors_3 (x : (List Entry) × Int × Int × Int × (List Int) × Int) : Option (((List Entry) × Int × Int × Int × (List Int) × Int) ⊕ (((List Int)))) := S_ref02_Priors_3 x.1 x.2.1 x.2.2.1 x.2.2.2.1 x.2.2.2.2.1 x.2.2.2.2.2
noncomputable def W_ref02_Priors_3 (x : (List Entry) × Int × Int × Int × (List Int) × Int) : Option (((List Int))) := whileM T_ref02_Priors_3 x
noncomputable def F_ref02_Priors (x0 : List Entry) (x1 : Int) (x2 : Int) (x3 : Int) : Option ((List Int)) :=
 match W_ref02_Priors_3 (x0, x1, x2, x3, ([] : List Int), (0 : Int)) with
 | some y1 =>
  some (y1)
 | none => none
noncomputable def C_ref02_Priors (x : (List Entry) × Int × Int × Int) : Option ((List Int)) := F_ref02_Priors x.1 x.2.1 x.2.2.1 x.2.2.2

/- millstream/millstreamref12.commit -/
noncomputable def S_ref12_commit_4 (x0 : Int) (x1 : Turn) (x2 : Turn) (x3 : List Int) (x4 : List Mark) (x5 : Int) : Option ((Int × Turn × Turn × (List Int) × (List Mark) × Int) ⊕ ((Int × Turn × Turn × (List Mark)))) :=
 bif decide (x5 < (↑x1.th.batch.length : Int)) then
  bif decide ((0 : Int) ≤ x5) then
   bif decide (x5 < (↑x1.th.batch.length : Int)) then
    bif decide ((0 : Int) ≤ x5) then
     bif decide (x5 < (↑x1.th.batch.length : Int)) then
      bif decide ((0 : Int) ≤ x5) then
       bif decide (x5 < (↑x3.length : Int)) then
        bif fewB (x4.length + (Mark.mk (x1.th.batch.getD x5.toNat dEntry).t x1.th.item (x1.th.batch.getD x5.toNat dEntry).op (x3.getD x5.toNat (0 : Int)) (0 : Int) :: ([] : List Mark)).length) then
         some (Sum.inl (x0, x1, x2, x3, x4 ++ Mark.mk (x1.th.batch.getD x5.toNat dEntry).t x1.th.item (x1.th.batch.getD x5.toNat dEntry).op (x3.getD x5.toNat (0 : Int)) (0 : Int) :: ([] : List Mark), wrapA IntKind.i64 (x5 + (1 : Int))))
        else
         none
       else
        none
      else
       none
     else
      none
    else
     none
   else
    none
  else
   none
 else
  some (Sum.inr (x0, x1, x2, x4))
noncomputable def T_ref12_commit_4 (x : Int × Turn × Turn × (List Int) × (List Mark) × Int) : Option ((Int × Turn × Turn × (List Int) × (List Mark) × Int) ⊕ ((Int × Turn × Turn × (List Mark)))) := S_ref12_commit_4 x.1 x.2.1 x.2.2.1 x.2.2.2.1 x.2.2.2.2.1 x.2.2.2.2.2
noncomputable def W_ref12_commit_4 (x : Int × Turn × Turn × (List Int) × (List Mark) × Int) : Option ((Int × Turn × Turn × (List Mark))) := whileM T_ref12_commit_4 x
noncomputable def F_ref12_commit (x0 : Turn) (x1 : Int) : Option (Turn) :=
 match C_ref02_Priors (x0.th.batch, x1, x0.c.lo, x0.c.hi) with
 | some y1 =>
  bif fewB ((0 : Nat) + x0.log.length) then
   match W_ref12_commit_4 (x1, x0, Turn.mk (Config.mk (0 : Int) (0 : Int) (0 : Int) (0 : Int) (0 : Int) (0 : Int) (0 : Int) (0 : Int) false (0 : Int) (0 : Int) (0 : Int)) (0 : Int) (0 : Int) (Memo.mk ([] : List Int) ([] : List (List Entry))) (Thread.mk (0 : Int) (0 : Int) (Op.mk (0 : Int) (0 : Int)) ([] : List Entry) ([] : List Kid) ([] : List Int) (0 : Int) (0 : Int) (0 : Int) (0 : Int) (0 : Int) (0 : Int) (0 : Int) (0 : Int) (0 : Int) (0 : Int)) (Tape.mk ([] : List Int) (0 : Int)) ([] : List Mark) false, y1, x0.log, (0 : Int)) with
   | some y2 =>
    match C_ref11_Settle { y2.snd.fst with th := { y2.snd.fst.th with at_ := (0 : Int), x := y2.fst }, log := y2.snd.snd.snd } with
    | some y3 =>
     some (y3)
    | none => none
   | none => none
  else
   none
 | none => none
noncomputable def C_ref12_commit (x : Turn × Int) : Option (Turn) := F_ref12_commit x.1 x.2

/- millstream/millstreamref10.Late -/
noncomputable def F_ref10_Late (x0 : Turn) : Option (Bool) :=
 bif decide (x0.th.until_ > (0 : Int)) then
  some (decide (x0.now ≥ x0.th.until_))
 else
  some (false)
noncomputable def C_ref10_Late (x : Turn) : Option (Bool) := F_ref10_Late x

/- millstream/millstreamref12.Onward -/
noncomputable def F_ref12_Onward (x0 : Turn) : Option (Turn) :=
 bif decide (x0.th.layer < x0.c.layers) then
  match C_ref10_Late x0 with
  | some y1 =>
   bif !y1 then
    some ({ x0 with th := { x0.th with phase := (17 : Int), layer := wrapA IntKind.i64 (x0.th.layer + (1 : Int)) } })
   else
    some ({ x0 with th := { x0.th with phase := (2 : Int) } })
  | none => none
 else
  some ({ x0 with th := { x0.th with phase := (2 : Int) } })
noncomputable def C_ref12_Onward (x : Turn) : Option (Turn) := F_ref12_Onward x

/- millstream/millstreamref03.Cas -/
noncomputable def F_ref03_Cas (x0 : Memo) (x1 : Int) (x2 : Int) (x3 : Int) : Option (Memo × Bool × Int) :=
 match C_ref03_Load (x0, x1) with
 | some y1 =>
  bif y1.snd != (0 : Int) then
   some ((x0, false, y1.snd))
  else
   bif y1.fst != x2 then
    some ((x0, false, y1.snd))
   else
    match C_ref03_Store (x0, x1, x3) with
    | some y2 =>
     some ((y2.fst, true, (0 : Int)))
    | none => none
 | none => none
noncomputable def C_ref03_Cas (x : Memo × Int × Int × Int) : Option (Memo × Bool × Int) := F_ref03_Cas x.1 x.2.1 x.2.2.1 x.2.2.2

/- millstream/millstreamref12.wider -/
noncomputable def F_ref12_wider (x0 : Int) (x1 : Int) : Option (Int) :=
 bif decide (x0 > x1) then
  some (x1)
 else
  some (if x1 < wrapA IntKind.i64 ((2 : Int) * x0) then x1 else wrapA IntKind.i64 ((2 : Int) * x0))
noncomputable def C_ref12_wider (x : Int × Int) : Option (Int) := F_ref12_wider x.1 x.2

/- millstream/millstreamref12.Step -/
noncomputable def F_ref12_Step (x0 : Turn) : Option (Turn × Bool) :=
 match C_ref06_Cell (x0.c, x0.th.item) with
 | some y1 =>
  bif x0.th.phase == (2 : Int) then
   bif x0.th.phase == (2 : Int) then
    match C_ref03_Load (x0.m, y1) with
    | some y2 =>
     bif y2.snd != (0 : Int) then
      some ((x0, true))
     else
      match C_ref02_All (x0.th.batch, y2.fst, x0.c.lo, x0.c.hi) with
      | some y3 =>
       bif y3 == y2.fst then
        match C_ref12_commit (x0, y2.fst) with
        | some y4 =>
         some ((y4, true))
        | none => none
       else
        bif x0.th.phase == (25 : Int) then
         match C_ref12_Onward x0 with
         | some y4 =>
          some ((y4, true))
         | none => none
        else
         some (({ x0 with th := { x0.th with phase := (3 : Int), x := y2.fst, y := y3 } }, true))
      | none => none
    | none => none
   else
    bif x0.th.phase == (3 : Int) then
     match C_ref03_Cas (x0.m, y1, x0.th.x, x0.th.y) with
     | some y2 =>
      bif y2.snd.snd != (0 : Int) then
       some ((x0, true))
      else
       bif y2.snd.fst then
        match C_ref12_commit ({ x0 with m := y2.fst }, x0.th.x) with
        | some y3 =>
         some ((y3, true))
        | none => none
       else
        match C_ref12_wider (x0.th.width, x0.c.width) with
        | some y3 =>
         some (({ x0 with m := y2.fst, th := { x0.th with phase := (2 : Int), width := y3 } }, true))
        | none => none
     | none => none
    else
     some ((x0, false))
  else
   bif x0.th.phase == (25 : Int) then
    match C_ref03_Load (x0.m, y1) with
    | some y2 =>
     bif y2.snd != (0 : Int) then
      some ((x0, true))
     else
      match C_ref02_All (x0.th.batch, y2.fst, x0.c.lo, x0.c.hi) with
      | some y3 =>
       bif y3 == y2.fst then
        match C_ref12_commit (x0, y2.fst) with
        | some y4 =>
         some ((y4, true))
        | none => none
       else
        bif x0.th.phase == (25 : Int) then
         match C_ref12_Onward x0 with
         | some y4 =>
          some ((y4, true))
         | none => none
        else
         some (({ x0 with th := { x0.th with phase := (3 : Int), x := y2.fst, y := y3 } }, true))
      | none => none
    | none => none
   else
    bif x0.th.phase == (3 : Int) then
     match C_ref03_Cas (x0.m, y1, x0.th.x, x0.th.y) with
     | some y2 =>
      bif y2.snd.snd != (0 : Int) then
       some ((x0, true))
      else
       bif y2.snd.fst then
        match C_ref12_commit ({ x0 with m := y2.fst }, x0.th.x) with
        | some y3 =>
         some ((y3, true))
        | none => none
       else
        match C_ref12_wider (x0.th.width, x0.c.width) with
        | some y3 =>
         some (({ x0 with m := y2.fst, th := { x0.th with phase := (2 : Int), width := y3 } }, true))
        | none => none
     | none => none
    else
     some ((x0, false))
 | none => none
noncomputable def C_ref12_Step (x : Turn) : Option (Turn × Bool) := F_ref12_Step x

/- millstream/millstreamref08.First -/
noncomputable def F_ref08_First (x0 : Int) : Option (Int) :=
 some (wrapA IntKind.i64 (wrapA IntKind.i64 ((8 : Int) * wrapA IntKind.i64 (x0 + (1 : Int))) + (1 : Int)))
noncomputable def C_ref08_First (x : Int) : Option (Int) := F_ref08_First x

/- millstream/millstreamref08.Joined -/
noncomputable def F_ref08_Joined (x0 : Int) : Option (Int) :=
 some (wrapA IntKind.i64 (wrapA IntKind.i64 ((8 : Int) * wrapA IntKind.i64 (x0 + (1 : Int))) + (2 : Int)))
noncomputable def C_ref08_Joined (x : Int) : Option (Int) := F_ref08_Joined x

/- millstream/millstreamref08.Deposited -/
noncomputable def F_ref08_Deposited (x0 : Int) : Option (Int) :=
 some (wrapA IntKind.i64 (wrapA IntKind.i64 ((8 : Int) * wrapA IntKind.i64 (x0 + (1 : Int))) + (3 : Int)))
noncomputable def C_ref08_Deposited (x : Int) : Option (Int) := F_ref08_Deposited x

/- millstream/millstreamref08.Open -/
noncomputable def F_ref08_Open (x0 : Int) (x1 : Int) : Option (Int) :=
 some (wrapA IntKind.i64 (wrapA IntKind.i64 ((8 : Int) * wrapA IntKind.i64 (wrapA IntKind.i64 (wrapA IntKind.i64 ((16 : Int) * x0) + x1) + (1 : Int))) + (4 : Int)))
noncomputable def C_ref08_Open (x : Int × Int) : Option (Int) := F_ref08_Open x.1 x.2

/- millstream/millstreamref08.Kind -/
noncomputable def S_ref08_Kind_18 (x0 : Int) (x1 : Int) (x2 : Int) : Option ((Int × Int × Int) ⊕ ((Int × Int) ⊕ (Int))) :=
 bif decide (x2 ≤ (3 : Int)) then
  match C_ref08_Open (x1, x2) with
  | some y1 =>
   bif x0 == y1 then
    some (Sum.inr (Sum.inr (4 : Int)))
   else
    some (Sum.inl (x0, x1, wrapA IntKind.i64 (x2 + (1 : Int))))
  | none => none
 else
  some (Sum.inr (Sum.inl (x0, x1)))
noncomputable def T_ref08_Kind_18 (x : Int × Int × Int) : Option ((Int × Int × Int) ⊕ ((Int × Int) ⊕ (Int))) := S_ref08_Kind_18 x.1 x.2.1 x.2.2
noncomputable def W_ref08_Kind_18 (x : Int × Int × Int) : Option ((Int × Int) ⊕ (Int)) := whileM T_ref08_Kind_18 x
noncomputable def S_ref08_Kind_15 (x0 : Int) (x1 : Int) : Option ((Int × Int) ⊕ ((Unit) ⊕ (Int))) :=
 bif decide (x1 < (4 : Int)) then
  match W_ref08_Kind_18 (x0, x1, (1 : Int)) with
  | some (.inl y1) =>
   some (Sum.inl (y1.fst, wrapA IntKind.i64 (y1.snd + (1 : Int))))
  | some (.inr y2) =>
   some (Sum.inr (Sum.inr y2))
  | none => none
 else
  some (Sum.inr (Sum.inl ()))
noncomputable def T_ref08_Kind_15 (x : Int × Int) : Option ((Int × Int) ⊕ ((Unit) ⊕ (Int))) := S_ref08_Kind_15 x.1 x.2
noncomputable def W_ref08_Kind_15 (x : Int × Int) : Option ((Unit) ⊕ (Int)) := whileM T_ref08_Kind_15 x
noncomputable def S_ref08_Kind_6 (x0 : Int) (x1 : Int) : Option ((Int × Int) ⊕ ((Int) ⊕ (Int))) :=
 bif decide (x1 < (16 : Int)) then
  match C_ref08_First x1 with
  | some y1 =>
   bif x0 == y1 then
    some (Sum.inr (Sum.inr (1 : Int)))
   else
    match C_ref08_Joined x1 with
    | some y2 =>
     bif x0 == y2 then
      some (Sum.inr (Sum.inr (2 : Int)))
     else
      match C_ref08_Deposited x1 with
      | some y3 =>
       bif x0 == y3 then
        some (Sum.inr (Sum.inr (3 : Int)))
       else
        some (Sum.inl (x0, wrapA IntKind.i64 (x1 + (1 : Int))))
      | none => none
    | none => none
  | none => none
 else
  some (Sum.inr (Sum.inl x0))
noncomputable def T_ref08_Kind_6 (x : Int × Int) : Option ((Int × Int) ⊕ ((Int) ⊕ (Int))) := S_ref08_Kind_6 x.1 x.2
noncomputable def W_ref08_Kind_6 (x : Int × Int) : Option ((Int) ⊕ (Int)) := whileM T_ref08_Kind_6 x
noncomputable def F_ref08_Kind (x0 : Int) : Option (Int) :=
 bif x0 == (0 : Int) then
  some ((0 : Int))
 else
  match C_ref08_Told () with
  | some y1 =>
   bif x0 == y1 then
    some ((5 : Int))
   else
    match W_ref08_Kind_6 (x0, (0 : Int)) with
    | some (.inl y2) =>
     match W_ref08_Kind_15 (y2, (0 : Int)) with
     | some (.inl y3) =>
      some ((-1 : Int))
     | some (.inr y4) =>
      some (y4)
     | none => none
    | some (.inr y3) =>
     some (y3)
    | none => none
  | none => none
noncomputable def C_ref08_Kind (x : Int) : Option (Int) := F_ref08_Kind x

/- millstream/millstreamref13.Down -/
noncomputable def F_ref13_Down (x0 : Turn) : Option (Turn) :=
 bif decide (x0.th.at_ ≥ (0 : Int)) then
  bif decide (x0.th.at_ < (↑x0.th.held.length : Int)) then
   some ({ x0 with th := { x0.th with phase := (7 : Int) } })
  else
   bif decide (x0.th.stop > (0 : Int)) then
    some ({ x0 with th := { x0.th with phase := (11 : Int) } })
   else
    some ({ x0 with th := { x0.th with phase := (2 : Int) } })
 else
  bif decide (x0.th.stop > (0 : Int)) then
   some ({ x0 with th := { x0.th with phase := (11 : Int) } })
  else
   some ({ x0 with th := { x0.th with phase := (2 : Int) } })
noncomputable def C_ref13_Down (x : Turn) : Option (Turn) := F_ref13_Down x

/- millstream/millstreamref13.over -/
noncomputable def F_ref13_over (x0 : Turn) : Option (Turn) :=
 match C_ref13_Down { x0 with th := { x0.th with at_ := (0 : Int) } } with
 | some y1 =>
  some (y1)
 | none => none
noncomputable def C_ref13_over (x : Turn) : Option (Turn) := F_ref13_over x

/- millstream/millstreamref07.Parent -/
noncomputable def F_ref07_Parent (x0 : Int) : Option (Int) :=
 bif decide (x0 < (2 : Int)) then
  some ((0 : Int))
 else
  some (wrapA IntKind.i64 (x0.tdiv (2 : Int)))
noncomputable def C_ref07_Parent (x : Int) : Option (Int) := F_ref07_Parent x

/- millstream/millstreamref13.Step -/
noncomputable def F_ref13_Step (x0 : Turn) : Option (Turn × Bool) :=
 match C_ref06_Node (x0.c, x0.th.item, x0.th.node) with
 | some y1 =>
  bif x0.th.phase == (4 : Int) then
   match C_ref03_Load (x0.m, y1) with
   | some y2 =>
    bif y2.snd != (0 : Int) then
     some ((x0, true))
    else
     match C_ref08_Kind y2.fst with
     | some y3 =>
      bif y3 == (0 : Int) then
       some (({ x0 with th := { x0.th with phase := (5 : Int) } }, true))
      else
       match C_ref08_Kind y2.fst with
       | some y4 =>
        bif y4 == (1 : Int) then
         some (({ x0 with th := { x0.th with phase := (6 : Int), x := y2.fst } }, true))
        else
         match C_ref10_Late x0 with
         | some y5 =>
          bif y5 then
           match C_ref13_over x0 with
           | some y6 =>
            some ((y6, true))
           | none => none
          else
           some ((x0, true))
         | none => none
       | none => none
     | none => none
   | none => none
  else
   bif x0.th.phase == (5 : Int) then
    match C_ref08_First x0.t with
    | some y2 =>
     match C_ref03_Cas (x0.m, y1, (0 : Int), y2) with
     | some y3 =>
      bif y3.snd.snd != (0 : Int) then
       some ((x0, true))
      else
       bif !y3.snd.fst then
        some (({ x0 with th := { x0.th with phase := (4 : Int) } }, true))
       else
        bif fewB ((0 : Nat) + x0.th.held.length) then
         bif fewB (x0.th.held.length + (x0.th.node :: ([] : List Int)).length) then
          match C_ref07_Parent x0.th.node with
          | some y4 =>
           bif y4 == (0 : Int) then
            match C_ref13_over { x0 with m := y3.fst, th := { x0.th with phase := (4 : Int), held := x0.th.held ++ x0.th.node :: ([] : List Int), node := y4 } } with
            | some y5 =>
             some ((y5, true))
            | none => none
           else
            some (({ x0 with m := y3.fst, th := { x0.th with phase := (4 : Int), held := x0.th.held ++ x0.th.node :: ([] : List Int), node := y4 } }, true))
          | none => none
         else
          none
        else
         none
     | none => none
    | none => none
   else
    bif x0.th.phase == (6 : Int) then
     match C_ref08_Joined x0.t with
     | some y2 =>
      match C_ref03_Cas (x0.m, y1, x0.th.x, y2) with
      | some y3 =>
       bif y3.snd.snd != (0 : Int) then
        some ((x0, true))
       else
        bif !y3.snd.fst then
         some (({ x0 with th := { x0.th with phase := (4 : Int) } }, true))
        else
         match C_ref13_over { x0 with m := y3.fst, th := { x0.th with phase := (4 : Int), stop := x0.th.node } } with
         | some y4 =>
          some ((y4, true))
         | none => none
      | none => none
     | none => none
    else
     some ((x0, false))
 | none => none
noncomputable def C_ref13_Step (x : Turn) : Option (Turn × Bool) := F_ref13_Step x

/- millstream/millstreamref14.held -/
noncomputable def F_ref14_held (x0 : Turn) : Option (Int) :=
 bif decide (x0.th.at_ < (0 : Int)) then
  some ((-1 : Int))
 else
  bif decide (x0.th.at_ ≥ (↑x0.th.held.length : Int)) then
   some ((-1 : Int))
  else
   bif decide ((0 : Int) ≤ x0.th.at_) then
    bif decide (x0.th.at_ < (↑x0.th.held.length : Int)) then
     match C_ref06_Node (x0.c, x0.th.item, x0.th.held.getD x0.th.at_.toNat (0 : Int)) with
     | some y1 =>
      some (y1)
     | none => none
    else
     none
   else
    none
noncomputable def C_ref14_held (x : Turn) : Option (Int) := F_ref14_held x

/- millstream/millstreamref08.Who -/
noncomputable def F_ref08_Who (x0 : Int) : Option (Int) :=
 match C_ref08_Kind x0 with
 | some y1 =>
  bif decide (y1 < (1 : Int)) then
   some ((-1 : Int))
  else
   bif decide (y1 > (3 : Int)) then
    some ((-1 : Int))
   else
    some (wrapA IntKind.i64 (wrapA IntKind.i64 (x0.tdiv (8 : Int)) - (1 : Int)))
 | none => none
noncomputable def C_ref08_Who (x : Int) : Option (Int) := F_ref08_Who x

/- millstream/millstreamref14.next -/
noncomputable def F_ref14_next (x0 : Turn) : Option (Turn) :=
 match C_ref13_Down { x0 with th := { x0.th with at_ := wrapA IntKind.i64 (x0.th.at_ + (1 : Int)) } } with
 | some y1 =>
  some (y1)
 | none => none
noncomputable def C_ref14_next (x : Turn) : Option (Turn) := F_ref14_next x

/- millstream/millstreamref03.Box -/
noncomputable def F_ref03_Box (x0 : Memo) (x1 : Int) : Option ((List Entry) × Int) :=
 bif decide (x1 < (0 : Int)) then
  some ((([] : List Entry), (30 : Int)))
 else
  bif decide (x1 ≥ (↑x0.boxes.length : Int)) then
   some ((([] : List Entry), (30 : Int)))
  else
   bif decide ((0 : Int) ≤ x1) then
    bif decide (x1 < (↑x0.boxes.length : Int)) then
     bif fewB ((0 : Nat) + List.length (x0.boxes.getD x1.toNat ([] : List Entry))) then
      some ((x0.boxes.getD x1.toNat ([] : List Entry), (0 : Int)))
     else
      none
    else
     none
   else
    none
noncomputable def C_ref03_Box (x : Memo × Int) : Option ((List Entry) × Int) := F_ref03_Box x.1 x.2

/- millstream/millstreamref02.Join -/
noncomputable def S_ref02_Join_3 (x0 : List (List Entry)) (x1 : List Entry) (x2 : Int) : Option (((List (List Entry)) × (List Entry) × Int) ⊕ (((List Entry)))) :=
 bif decide (x2 < (↑x0.length : Int)) then
  bif decide ((0 : Int) ≤ x2) then
   bif decide (x2 < (↑x0.length : Int)) then
    bif fewB (x1.length + List.length (x0.getD x2.toNat ([] : List Entry))) then
     some (Sum.inl (x0, x1 ++ x0.getD x2.toNat ([] : List Entry), wrapA IntKind.i64 (x2 + (1 : Int))))
    else
     none
   else
    none
  else
   none
 else
  some (Sum.inr x1)
noncomputable def T_ref02_Join_3 (x : (List (List Entry)) × (List Entry) × Int) : Option (((List (List Entry)) × (List Entry) × Int) ⊕ (((List Entry)))) := S_ref02_Join_3 x.1 x.2.1 x.2.2
noncomputable def W_ref02_Join_3 (x : (List (List Entry)) × (List Entry) × Int) : Option (((List Entry))) := whileM T_ref02_Join_3 x
noncomputable def F_ref02_Join (x0 : List (List Entry)) : Option ((List Entry)) :=
 match W_ref02_Join_3 (x0, ([] : List Entry), (0 : Int)) with
 | some y1 =>
  some (y1)
 | none => none
noncomputable def C_ref02_Join (x : (List (List Entry))) : Option ((List Entry)) := F_ref02_Join x

/- millstream/millstreamref14.Take -/
noncomputable def F_ref14_Take (x0 : Turn) (x1 : Int) (x2 : List Entry) : Option (Turn) :=
 bif fewB ((0 : Nat) + x0.th.kids.length) then
  bif fewB (x0.th.kids.length + (Kid.mk x1 (↑x0.th.batch.length : Int) :: ([] : List Kid)).length) then
   match C_ref02_Join (x0.th.batch :: x2 :: ([] : List (List Entry))) with
   | some y1 =>
    some ({ x0 with th := { x0.th with batch := y1, kids := x0.th.kids ++ Kid.mk x1 (↑x0.th.batch.length : Int) :: ([] : List Kid) } })
   | none => none
  else
   none
 else
  none
noncomputable def C_ref14_Take (x : Turn × Int × (List Entry)) : Option (Turn) := F_ref14_Take x.1 x.2.1 x.2.2

/- millstream/millstreamref03.Put -/
noncomputable def F_ref03_Put (x0 : Memo) (x1 : Int) (x2 : List Entry) : Option (Memo × Int) :=
 bif decide (x1 < (0 : Int)) then
  some ((x0, (30 : Int)))
 else
  bif decide (x1 ≥ (↑x0.boxes.length : Int)) then
   some ((x0, (30 : Int)))
  else
   bif fewB ((0 : Nat) + x0.boxes.length) then
    bif fewB ((0 : Nat) + x2.length) then
     bif decide ((0 : Int) ≤ x1) then
      bif decide (x1 < (↑x0.boxes.length : Int)) then
       some (({ x0 with boxes := x0.boxes.set x1.toNat x2 }, (0 : Int)))
      else
       none
     else
      none
    else
     none
   else
    none
noncomputable def C_ref03_Put (x : Memo × Int × (List Entry)) : Option (Memo × Int) := F_ref03_Put x.1 x.2.1 x.2.2

/- millstream/millstreamref14.Step -/
noncomputable def F_ref14_Step (x0 : Turn) : Option (Turn × Bool) :=
 match C_ref14_held x0 with
 | some y1 =>
  bif x0.th.phase == (7 : Int) then
   match C_ref03_Load (x0.m, y1) with
   | some y2 =>
    bif y2.snd != (0 : Int) then
     some ((x0, true))
    else
     match C_ref08_First x0.t with
     | some y3 =>
      bif y2.fst == y3 then
       some (({ x0 with th := { x0.th with phase := (8 : Int) } }, true))
      else
       match C_ref08_Kind y2.fst with
       | some y4 =>
        bif y4 == (3 : Int) then
         match C_ref08_Who y2.fst with
         | some y5 =>
          some (({ x0 with th := { x0.th with phase := (9 : Int), who := y5 } }, true))
         | none => none
        else
         some ((x0, true))
       | none => none
     | none => none
   | none => none
  else
   bif x0.th.phase == (8 : Int) then
    match C_ref08_First x0.t with
    | some y2 =>
     match C_ref03_Cas (x0.m, y1, y2, (0 : Int)) with
     | some y3 =>
      bif y3.snd.snd != (0 : Int) then
       some ((x0, true))
      else
       bif y3.snd.fst then
        match C_ref14_next { x0 with m := y3.fst } with
        | some y4 =>
         some ((y4, true))
        | none => none
       else
        some (({ x0 with m := y3.fst, th := { x0.th with phase := (7 : Int) } }, true))
     | none => none
    | none => none
   else
    bif x0.th.phase == (9 : Int) then
     match C_ref03_Box (x0.m, x0.th.who) with
     | some y2 =>
      bif y2.snd != (0 : Int) then
       some ((x0, true))
      else
       match C_ref14_Take (x0, x0.th.who, y2.fst) with
       | some y3 =>
        some (({ y3 with th := { y3.th with phase := (10 : Int) } }, true))
       | none => none
     | none => none
    else
     bif x0.th.phase == (10 : Int) then
      match C_ref03_Store (x0.m, y1, (0 : Int)) with
      | some y2 =>
       bif y2.snd != (0 : Int) then
        some ((x0, true))
       else
        match C_ref14_next { x0 with m := y2.fst } with
        | some y3 =>
         some ((y3, true))
        | none => none
      | none => none
     else
      bif x0.th.phase == (11 : Int) then
       match C_ref03_Put (x0.m, x0.t, x0.th.batch) with
       | some y2 =>
        bif y2.snd != (0 : Int) then
         some ((x0, true))
        else
         some (({ x0 with m := y2.fst, th := { x0.th with phase := (12 : Int) } }, true))
       | none => none
      else
       bif x0.th.phase == (12 : Int) then
        match C_ref06_Node (x0.c, x0.th.item, x0.th.stop) with
        | some y2 =>
         match C_ref08_Deposited x0.t with
         | some y3 =>
          match C_ref03_Store (x0.m, y2, y3) with
          | some y4 =>
           bif y4.snd != (0 : Int) then
            some ((x0, true))
           else
            some (({ x0 with m := y4.fst, th := { x0.th with phase := (13 : Int) } }, true))
          | none => none
         | none => none
        | none => none
       else
        some ((x0, false))
 | none => none
noncomputable def C_ref14_Step (x : Turn) : Option (Turn × Bool) := F_ref14_Step x

/- millstream/millstreamref15.stored -/
noncomputable def F_ref15_stored (x0 : Turn) (x1 : Int) : Option (Turn) :=
 match C_ref06_Line (x0.c, x0.t) with
 | some y1 =>
  match C_ref08_Open (x0.th.item, x0.th.layer) with
  | some y2 =>
   match C_ref03_Store (x0.m, y1, y2) with
   | some y3 =>
    bif y3.snd != (0 : Int) then
     some (x0)
    else
     bif x1 == (23 : Int) then
      some ({ x0 with m := y3.fst, th := { x0.th with phase := x1, left := x0.c.spin } })
     else
      some ({ x0 with m := y3.fst, th := { x0.th with phase := x1 } })
   | none => none
  | none => none
 | none => none
noncomputable def C_ref15_stored (x : Turn × Int) : Option (Turn) := F_ref15_stored x.1 x.2

/- millstream/millstreamref04.Next -/
noncomputable def F_ref04_Next (x0 : Tape) : Option (Int × Tape) :=
 bif decide (x0.at_ < (0 : Int)) then
  some (((0 : Int), x0))
 else
  bif decide (x0.at_ ≥ (↑x0.l.length : Int)) then
   some (((0 : Int), x0))
  else
   bif decide ((0 : Int) ≤ x0.at_) then
    bif decide (x0.at_ < (↑x0.l.length : Int)) then
     some ((x0.l.getD x0.at_.toNat (0 : Int), { x0 with at_ := wrapA IntKind.i64 (x0.at_ + (1 : Int)) }))
    else
     none
   else
    none
noncomputable def C_ref04_Next (x : Tape) : Option (Int × Tape) := F_ref04_Next x

/- millstream/millstreamref04.Below -/
noncomputable def F_ref04_Below (x0 : Tape) (x1 : Int) : Option (Int × Tape) :=
 bif decide (x1 < (1 : Int)) then
  some (((0 : Int), x0))
 else
  match C_ref04_Next x0 with
  | some y1 =>
   bif decide (x1 = (0 : Int)) then
    none
   else
    bif decide (Int.tmod y1.fst x1 < (0 : Int)) then
     some ((wrapA IntKind.i64 (Int.tmod y1.fst x1 + x1), y1.snd))
    else
     some ((Int.tmod y1.fst x1, y1.snd))
  | none => none
noncomputable def C_ref04_Below (x : Tape × Int) : Option (Int × Tape) := F_ref04_Below x.1 x.2

/- millstream/millstreamref03.Swap -/
noncomputable def F_ref03_Swap (x0 : Memo) (x1 : Int) (x2 : Int) : Option (Memo × Int × Int) :=
 match C_ref03_Load (x0, x1) with
 | some y1 =>
  match C_ref03_Store (x0, x1, x2) with
  | some y2 =>
   some ((y2.fst, y1))
  | none => none
 | none => none
noncomputable def C_ref03_Swap (x : Memo × Int × Int) : Option (Memo × Int × Int) := F_ref03_Swap x.1 x.2.1 x.2.2

/- millstream/millstreamref06.Slot -/
noncomputable def F_ref06_Slot (x0 : Config) (x1 : Int) (x2 : Int) (x3 : Int) : Option (Int) :=
 bif decide (x1 < (0 : Int)) then
  some ((-1 : Int))
 else
  bif decide (x1 ≥ x0.items) then
   some ((-1 : Int))
  else
   bif decide (x2 < (1 : Int)) then
    some ((-1 : Int))
   else
    bif decide (x2 > x0.layers) then
     some ((-1 : Int))
    else
     bif decide (x3 < (0 : Int)) then
      some ((-1 : Int))
     else
      bif decide (x3 ≥ x0.width) then
       some ((-1 : Int))
      else
       match C_ref06_block x0 with
       | some y1 =>
        match C_ref06_Nodes x0 with
        | some y2 =>
         some (wrapA IntKind.i64 (wrapA IntKind.i64 (wrapA IntKind.i64 (wrapA IntKind.i64 (wrapA IntKind.i64 (x1 * y1) + (1 : Int)) + y2) + wrapA IntKind.i64 (wrapA IntKind.i64 (x2 - (1 : Int)) * x0.width)) + x3))
        | none => none
       | none => none
noncomputable def C_ref06_Slot (x : Config × Int × Int × Int) : Option (Int) := F_ref06_Slot x.1 x.2.1 x.2.2.1 x.2.2.2

/- millstream/millstreamref15.swap -/
noncomputable def F_ref15_swap (x0 : Turn) : Option (Turn) :=
 match C_ref04_Below (x0.tape, x0.th.width) with
 | some y1 =>
  match C_ref06_Slot (x0.c, x0.th.item, x0.th.layer, y1.fst) with
  | some y2 =>
   match C_ref03_Swap (x0.m, y2, wrapA IntKind.i64 (x0.t + (1 : Int))) with
   | some y3 =>
    bif y3.snd.snd != (0 : Int) then
     some (x0)
    else
     bif decide (y3.snd.fst ≥ (1 : Int)) then
      bif decide (y3.snd.fst ≤ x0.c.threads) then
       bif y3.snd.fst != wrapA IntKind.i64 (x0.t + (1 : Int)) then
        some ({ x0 with m := y3.fst, th := { x0.th with phase := (20 : Int), who := wrapA IntKind.i64 (y3.snd.fst - (1 : Int)) }, tape := y1.snd })
       else
        some ({ x0 with m := y3.fst, th := { x0.th with phase := (23 : Int), left := x0.c.spin }, tape := y1.snd })
      else
       some ({ x0 with m := y3.fst, th := { x0.th with phase := (23 : Int), left := x0.c.spin }, tape := y1.snd })
     else
      some ({ x0 with m := y3.fst, th := { x0.th with phase := (23 : Int), left := x0.c.spin }, tape := y1.snd })
   | none => none
  | none => none
 | none => none
noncomputable def C_ref15_swap (x : Turn) : Option (Turn) := F_ref15_swap x

/- millstream/millstreamref15.compared -/
noncomputable def F_ref15_compared (x0 : Turn) (x1 : Int) (x2 : Int) (x3 : Int) : Option (Turn) :=
 match C_ref06_Line (x0.c, x1) with
 | some y1 =>
  match C_ref08_Open (x0.th.item, x0.th.layer) with
  | some y2 =>
   match C_ref03_Cas (x0.m, y1, y2, (0 : Int)) with
   | some y3 =>
    bif y3.snd.snd != (0 : Int) then
     some (x0)
    else
     bif y3.snd.fst then
      some ({ x0 with m := y3.fst, th := { x0.th with phase := x2 } })
     else
      some ({ x0 with m := y3.fst, th := { x0.th with phase := x3 } })
   | none => none
  | none => none
 | none => none
noncomputable def C_ref15_compared (x : Turn × Int × Int × Int) : Option (Turn) := F_ref15_compared x.1 x.2.1 x.2.2.1 x.2.2.2

/- millstream/millstreamref15.spin -/
noncomputable def F_ref15_spin (x0 : Turn) : Option (Turn) :=
 match C_ref06_Line (x0.c, x0.t) with
 | some y1 =>
  match C_ref03_Load (x0.m, y1) with
  | some y2 =>
   bif y2.snd != (0 : Int) then
    some (x0)
   else
    match C_ref08_Open (x0.th.item, x0.th.layer) with
    | some y3 =>
     bif y2.fst != y3 then
      some ({ x0 with th := { x0.th with phase := (13 : Int) } })
     else
      bif decide (x0.th.left < (1 : Int)) then
       some ({ x0 with th := { x0.th with phase := (26 : Int) } })
      else
       match C_ref10_Late x0 with
       | some y4 =>
        bif y4 then
         some ({ x0 with th := { x0.th with phase := (26 : Int) } })
        else
         some ({ x0 with th := { x0.th with left := wrapA IntKind.i64 (x0.th.left - (1 : Int)) } })
       | none => none
    | none => none
  | none => none
 | none => none
noncomputable def C_ref15_spin (x : Turn) : Option (Turn) := F_ref15_spin x

/- millstream/millstreamref15.half -/
noncomputable def F_ref15_half (x0 : Int) : Option (Int) :=
 bif decide (x0 < (0 : Int)) then
  some ((-1 : Int))
 else
  some (wrapA IntKind.i64 (x0.tdiv (2 : Int)))
noncomputable def C_ref15_half (x : Int) : Option (Int) := F_ref15_half x

/- millstream/millstreamref15.Step -/
noncomputable def F_ref15_Step (x0 : Turn) : Option (Turn × Bool) :=
 bif x0.th.phase == (17 : Int) then
  match C_ref03_Put (x0.m, x0.t, x0.th.batch) with
  | some y1 =>
   bif y1.snd == (0 : Int) then
    some (({ x0 with m := y1.fst, th := { x0.th with phase := (18 : Int) } }, true))
   else
    some ((x0, true))
  | none => none
 else
  bif x0.th.phase == (18 : Int) then
   match C_ref15_stored (x0, (19 : Int)) with
   | some y1 =>
    some ((y1, true))
   | none => none
  else
   bif x0.th.phase == (19 : Int) then
    match C_ref15_swap x0 with
    | some y1 =>
     some ((y1, true))
    | none => none
   else
    bif x0.th.phase == (20 : Int) then
     match C_ref15_compared (x0, x0.t, (21 : Int), (13 : Int)) with
     | some y1 =>
      some ((y1, true))
     | none => none
    else
     bif x0.th.phase == (21 : Int) then
      match C_ref15_compared (x0, x0.th.who, (22 : Int), (24 : Int)) with
      | some y1 =>
       some ((y1, true))
      | none => none
     else
      bif x0.th.phase == (22 : Int) then
       match C_ref03_Box (x0.m, x0.th.who) with
       | some y1 =>
        bif y1.snd == (0 : Int) then
         match C_ref14_Take (x0, x0.th.who, y1.fst) with
         | some y2 =>
          some (({ y2 with th := { y2.th with phase := (25 : Int) } }, true))
         | none => none
        else
         some ((x0, true))
       | none => none
      else
       bif x0.th.phase == (23 : Int) then
        match C_ref15_spin x0 with
        | some y1 =>
         some ((y1, true))
        | none => none
       else
        bif x0.th.phase == (24 : Int) then
         match C_ref15_stored (x0, (23 : Int)) with
         | some y1 =>
          some ((y1, true))
         | none => none
        else
         bif x0.th.phase == (26 : Int) then
          match C_ref15_compared (x0, x0.t, (2 : Int), (13 : Int)) with
          | some y1 =>
           bif y1.th.phase == (2 : Int) then
            match C_ref15_half y1.th.width with
            | some y2 =>
             match C_ref12_Onward { y1 with th := { y1.th with width := if y2 > (1 : Int) then y2 else (1 : Int) } } with
             | some y3 =>
              some ((y3, true))
             | none => none
            | none => none
           else
            some ((y1, true))
          | none => none
         else
          some ((x0, false))
noncomputable def C_ref15_Step (x : Turn) : Option (Turn × Bool) := F_ref15_Step x

/- millstream/millstreamref16.Step -/
noncomputable def F_ref16_Step (x0 : Turn) : Option (Turn) :=
 bif x0.th.phase == (0 : Int) then
  some (x0)
 else
  bif x0.th.phase == (1 : Int) then
   match C_ref06_Line (x0.c, x0.t) with
   | some y1 =>
    match C_ref03_Store (x0.m, y1, (0 : Int)) with
    | some y2 =>
     bif y2.snd != (0 : Int) then
      some ({ x0 with log := ([] : List Mark), done := false })
     else
      match C_ref16_Start { x0 with m := y2.fst, log := ([] : List Mark), done := false } with
      | some y3 =>
       some (y3)
      | none => none
    | none => none
   | none => none
  else
   match C_ref11_Step { x0 with log := ([] : List Mark), done := false } with
   | some y1 =>
    bif !y1.snd then
     match C_ref12_Step { x0 with log := ([] : List Mark), done := false } with
     | some y2 =>
      bif !y2.snd then
       match C_ref13_Step { x0 with log := ([] : List Mark), done := false } with
       | some y3 =>
        bif !y3.snd then
         match C_ref14_Step { x0 with log := ([] : List Mark), done := false } with
         | some y4 =>
          bif !y4.snd then
           match C_ref15_Step { x0 with log := ([] : List Mark), done := false } with
           | some y5 =>
            some (y5.fst)
           | none => none
          else
           some (y4.fst)
         | none => none
        else
         bif !y3.snd then
          match C_ref15_Step { x0 with log := ([] : List Mark), done := false } with
          | some y4 =>
           some (y4.fst)
          | none => none
         else
          some (y3.fst)
       | none => none
      else
       bif !y2.snd then
        match C_ref14_Step { x0 with log := ([] : List Mark), done := false } with
        | some y3 =>
         bif !y3.snd then
          match C_ref15_Step { x0 with log := ([] : List Mark), done := false } with
          | some y4 =>
           some (y4.fst)
          | none => none
         else
          some (y3.fst)
        | none => none
       else
        bif !y2.snd then
         match C_ref15_Step { x0 with log := ([] : List Mark), done := false } with
         | some y3 =>
          some (y3.fst)
         | none => none
        else
         some (y2.fst)
     | none => none
    else
     bif !y1.snd then
      match C_ref13_Step { x0 with log := ([] : List Mark), done := false } with
      | some y2 =>
       bif !y2.snd then
        match C_ref14_Step { x0 with log := ([] : List Mark), done := false } with
        | some y3 =>
         bif !y3.snd then
          match C_ref15_Step { x0 with log := ([] : List Mark), done := false } with
          | some y4 =>
           some (y4.fst)
          | none => none
         else
          some (y3.fst)
        | none => none
       else
        bif !y2.snd then
         match C_ref15_Step { x0 with log := ([] : List Mark), done := false } with
         | some y3 =>
          some (y3.fst)
         | none => none
        else
         some (y2.fst)
      | none => none
     else
      bif !y1.snd then
       match C_ref14_Step { x0 with log := ([] : List Mark), done := false } with
       | some y2 =>
        bif !y2.snd then
         match C_ref15_Step { x0 with log := ([] : List Mark), done := false } with
         | some y3 =>
          some (y3.fst)
         | none => none
        else
         some (y2.fst)
       | none => none
      else
       bif !y1.snd then
        match C_ref15_Step { x0 with log := ([] : List Mark), done := false } with
        | some y2 =>
         some (y2.fst)
        | none => none
       else
        some (y1.fst)
   | none => none
noncomputable def C_ref16_Step (x : Turn) : Option (Turn) := F_ref16_Step x

/- millstream/millstreamref17.pick -/
noncomputable def S_ref17_pick_8 (x0 : Int) (x1 : Wld) (x2 : Wld) (x3 : Turn) (x4 : List Mark) (x5 : Int) : Option ((Int × Wld × Wld × Turn × (List Mark) × Int) ⊕ ((Int × Wld × Wld × Turn × (List Mark)))) :=
 bif decide (x5 < (↑x3.log.length : Int)) then
  bif decide ((0 : Int) ≤ x5) then
   bif decide (x5 < (↑x3.log.length : Int)) then
    bif fewB (x4.length + ({ x3.log.getD x5.toNat dMark with step := x1.steps } :: ([] : List Mark)).length) then
     some (Sum.inl (x0, x1, x2, x3, x4 ++ { x3.log.getD x5.toNat dMark with step := x1.steps } :: ([] : List Mark), wrapA IntKind.i64 (x5 + (1 : Int))))
    else
     none
   else
    none
  else
   none
 else
  some (Sum.inr (x0, x1, x2, x3, x4))
noncomputable def T_ref17_pick_8 (x : Int × Wld × Wld × Turn × (List Mark) × Int) : Option ((Int × Wld × Wld × Turn × (List Mark) × Int) ⊕ ((Int × Wld × Wld × Turn × (List Mark)))) := S_ref17_pick_8 x.1 x.2.1 x.2.2.1 x.2.2.2.1 x.2.2.2.2.1 x.2.2.2.2.2
noncomputable def W_ref17_pick_8 (x : Int × Wld × Wld × Turn × (List Mark) × Int) : Option ((Int × Wld × Wld × Turn × (List Mark))) := whileM T_ref17_pick_8 x
noncomputable def F_ref17_pick (x0 : Wld) (x1 : Int) : Option (Wld) :=
 bif decide ((0 : Int) ≤ x1) then
  bif decide (x1 < (↑x0.t.length : Int)) then
   match C_ref16_Step (Turn.mk x0.c x1 x0.now x0.m (x0.t.getD x1.toNat dThread) x0.tape ([] : List Mark) false) with
   | some y1 =>
    match C_ref17_turned ({ x0 with steps := wrapA IntKind.i64 (x0.steps + (1 : Int)) }, x1, y1.th) with
    | some y2 =>
     bif fewB ((0 : Nat) + y2.log.length) then
      match W_ref17_pick_8 (x1, { y2 with m := y1.m, tape := y1.tape }, Wld.mk (Config.mk (0 : Int) (0 : Int) (0 : Int) (0 : Int) (0 : Int) (0 : Int) (0 : Int) (0 : Int) false (0 : Int) (0 : Int) (0 : Int)) (Memo.mk ([] : List Int) ([] : List (List Entry))) ([] : List Thread) (0 : Int) (0 : Int) (Tape.mk ([] : List Int) (0 : Int)) ([] : List Mark) ([] : List Event), y1, y2.log, (0 : Int)) with
      | some y3 =>
       bif !y3.snd.snd.snd.fst.done then
        some ({ y3.snd.fst with log := y3.snd.snd.snd.snd })
       else
        match C_ref01_Apply (y3.snd.snd.snd.fst.th.op, y3.snd.snd.snd.fst.th.x, y3.snd.fst.c.lo, y3.snd.fst.c.hi) with
        | some y4 =>
         match C_ref17_with ({ y3.snd.fst with log := y3.snd.snd.snd.snd }, Event.mk (2 : Int) y3.fst y3.snd.snd.snd.fst.th.item y3.snd.snd.snd.fst.th.op y3.snd.snd.snd.fst.th.x y4.snd (0 : Int)) with
         | some y5 =>
          some (y5)
         | none => none
        | none => none
      | none => none
     else
      none
    | none => none
   | none => none
  else
   none
 else
  none
noncomputable def C_ref17_pick (x : Wld × Int) : Option (Wld) := F_ref17_pick x.1 x.2

/- millstream/millstreamref17.Step -/
noncomputable def F_ref17_Step (x0 : Wld) (x1 : SEntry) : Option (Wld × Int) :=
 match C_ref09_Check (x0.c, x1) with
 | some y1 =>
  bif y1 != (0 : Int) then
   some ((x0, y1))
  else
   bif x1.kind == (3 : Int) then
    some (({ x0 with now := wrapA IntKind.i64 (x0.now + (1 : Int)) }, (0 : Int)))
   else
    bif decide ((0 : Int) ≤ x1.t) then
     bif decide (x1.t < (↑x0.t.length : Int)) then
      bif x1.kind == (1 : Int) then
       match C_ref10_Busy (x0.t.getD x1.t.toNat dThread) with
       | some y2 =>
        bif y2 then
         match C_ref17_with (x0, Event.mk (3 : Int) x1.t x1.item x1.op (0 : Int) false (0 : Int)) with
         | some y3 =>
          some ((y3, (170 : Int)))
         | none => none
        else
         match C_ref10_Begin (x0.c, x1.t, x0.t.getD x1.t.toNat dThread, x1.item, x1.op, x0.now) with
         | some y3 =>
          match C_ref17_turned (x0, x1.t, y3) with
          | some y4 =>
           match C_ref17_with (y4, Event.mk (1 : Int) x1.t x1.item x1.op (0 : Int) false (0 : Int)) with
           | some y5 =>
            some ((y5, (0 : Int)))
           | none => none
          | none => none
         | none => none
       | none => none
      else
       match C_ref10_Busy (x0.t.getD x1.t.toNat dThread) with
       | some y2 =>
        bif !y2 then
         some ((x0, (0 : Int)))
        else
         match C_ref17_pick (x0, x1.t) with
         | some y3 =>
          some ((y3, (0 : Int)))
         | none => none
       | none => none
     else
      none
    else
     none
 | none => none
noncomputable def C_ref17_Step (x : Wld × SEntry) : Option (Wld × Int) := F_ref17_Step x.1 x.2

/- millstream/millstreamref09.All -/
noncomputable def S_ref09_All_7 (x0 : List SEntry) (x1 : Config) (x2 : Int) : Option (((List SEntry) × Config × Int) ⊕ ((Unit) ⊕ (Int × Int))) :=
 bif decide (x2 < (↑x0.length : Int)) then
  bif decide ((0 : Int) ≤ x2) then
   bif decide (x2 < (↑x0.length : Int)) then
    match C_ref09_Check (x1, x0.getD x2.toNat dSEntry) with
    | some y1 =>
     bif y1 != (0 : Int) then
      some (Sum.inr (Sum.inr (x2, y1)))
     else
      some (Sum.inl (x0, x1, wrapA IntKind.i64 (x2 + (1 : Int))))
    | none => none
   else
    none
  else
   none
 else
  some (Sum.inr (Sum.inl ()))
noncomputable def T_ref09_All_7 (x : (List SEntry) × Config × Int) : Option (((List SEntry) × Config × Int) ⊕ ((Unit) ⊕ (Int × Int))) := S_ref09_All_7 x.1 x.2.1 x.2.2
noncomputable def W_ref09_All_7 (x : (List SEntry) × Config × Int) : Option ((Unit) ⊕ (Int × Int)) := whileM T_ref09_All_7 x
noncomputable def F_ref09_All (x0 : Config) (x1 : List SEntry) : Option (Int × Int) :=
 match C_ref05_Check x0 with
 | some y1 =>
  bif y1 != (0 : Int) then
   some (((0 : Int), y1))
  else
   bif decide ((↑x1.length : Int) > (65536 : Int)) then
    some (((0 : Int), (2 : Int)))
   else
    match W_ref09_All_7 (x1, x0, (0 : Int)) with
    | some (.inl y2) =>
     some (((0 : Int), (0 : Int)))
    | some (.inr y3) =>
     some (y3)
    | none => none
 | none => none
noncomputable def C_ref09_All (x : Config × (List SEntry)) : Option (Int × Int) := F_ref09_All x.1 x.2

/- millstream/millstreamref17.Run -/
noncomputable def S_ref17_Run_6 (x0 : List SEntry) (x1 : Wld) (x2 : Wld) (x3 : Int) : Option (((List SEntry) × Wld × Wld × Int) ⊕ ((Wld × Wld))) :=
 bif decide (x3 < (↑x0.length : Int)) then
  bif decide ((0 : Int) ≤ x3) then
   bif decide (x3 < (↑x0.length : Int)) then
    match C_ref17_Step (x2, x0.getD x3.toNat dSEntry) with
    | some y1 =>
     some (Sum.inl (x0, x1, y1.fst, wrapA IntKind.i64 (x3 + (1 : Int))))
    | none => none
   else
    none
  else
   none
 else
  some (Sum.inr (x1, x2))
noncomputable def T_ref17_Run_6 (x : (List SEntry) × Wld × Wld × Int) : Option (((List SEntry) × Wld × Wld × Int) ⊕ ((Wld × Wld))) := S_ref17_Run_6 x.1 x.2.1 x.2.2.1 x.2.2.2
noncomputable def W_ref17_Run_6 (x : (List SEntry) × Wld × Wld × Int) : Option ((Wld × Wld)) := whileM T_ref17_Run_6 x
noncomputable def F_ref17_Run (x0 : Config) (x1 : List SEntry) (x2 : List Int) : Option (Wld × Int × Int) :=
 match C_ref09_All (x0, x1) with
 | some y1 =>
  bif y1.snd != (0 : Int) then
   some ((Wld.mk (Config.mk (0 : Int) (0 : Int) (0 : Int) (0 : Int) (0 : Int) (0 : Int) (0 : Int) (0 : Int) false (0 : Int) (0 : Int) (0 : Int)) (Memo.mk ([] : List Int) ([] : List (List Entry))) ([] : List Thread) (0 : Int) (0 : Int) (Tape.mk ([] : List Int) (0 : Int)) ([] : List Mark) ([] : List Event), y1))
  else
   match C_ref17_New (x0, x2) with
   | some y2 =>
    match W_ref17_Run_6 (x1, Wld.mk (Config.mk (0 : Int) (0 : Int) (0 : Int) (0 : Int) (0 : Int) (0 : Int) (0 : Int) (0 : Int) false (0 : Int) (0 : Int) (0 : Int)) (Memo.mk ([] : List Int) ([] : List (List Entry))) ([] : List Thread) (0 : Int) (0 : Int) (Tape.mk ([] : List Int) (0 : Int)) ([] : List Mark) ([] : List Event), y2.fst, (0 : Int)) with
    | some y3 =>
     some ((y3.snd, (0 : Int), (0 : Int)))
    | none => none
   | none => none
 | none => none
noncomputable def C_ref17_Run (x : Config × (List SEntry) × (List Int)) : Option (Wld × Int × Int) := F_ref17_Run x.1 x.2.1 x.2.2

/- millstream/millstreamlaw17.lines -/
noncomputable def S_law17_lines_3 (x0 : List SEntry) (x1 : List SEntry) (x2 : Int) : Option (((List SEntry) × (List SEntry) × Int) ⊕ (((List SEntry)))) :=
 bif decide (x2 < (↑x0.length : Int)) then
  bif decide ((0 : Int) ≤ x2) then
   bif decide (x2 < (↑x0.length : Int)) then
    bif decide ((0 : Int) ≤ x2) then
     bif decide (x2 < (↑x0.length : Int)) then
      bif decide ((0 : Int) ≤ x2) then
       bif decide (x2 < (↑x0.length : Int)) then
        bif decide ((0 : Int) ≤ x2) then
         bif decide (x2 < (↑x0.length : Int)) then
          bif fewB (x1.length + (x0.getD x2.toNat dSEntry :: ([] : List SEntry)).length) then
           some (Sum.inl (x0, x1 ++ x0.getD x2.toNat dSEntry :: ([] : List SEntry), wrapA IntKind.i64 (x2 + (1 : Int))))
          else
           none
         else
          none
        else
         none
       else
        none
      else
       none
     else
      none
    else
     none
   else
    none
  else
   none
 else
  some (Sum.inr x1)
noncomputable def T_law17_lines_3 (x : (List SEntry) × (List SEntry) × Int) : Option (((List SEntry) × (List SEntry) × Int) ⊕ (((List SEntry)))) := S_law17_lines_3 x.1 x.2.1 x.2.2
noncomputable def W_law17_lines_3 (x : (List SEntry) × (List SEntry) × Int) : Option (((List SEntry))) := whileM T_law17_lines_3 x
noncomputable def F_law17_lines (x0 : List SEntry) : Option ((List SEntry)) :=
 match W_law17_lines_3 (x0, ([] : List SEntry), (0 : Int)) with
 | some y1 =>
  some (y1)
 | none => none
noncomputable def C_law17_lines (x : (List SEntry)) : Option ((List SEntry)) := F_law17_lines x

/- millstream/millstreamref17.Events -/
noncomputable def S_ref17_Events_4 (x0 : List Event) (x1 : List Event) (x2 : Int) : Option (((List Event) × (List Event) × Int) ⊕ ((Unit) ⊕ (Bool))) :=
 bif decide (x2 < (↑x0.length : Int)) then
  bif decide ((0 : Int) ≤ x2) then
   bif decide (x2 < (↑x0.length : Int)) then
    bif decide ((0 : Int) ≤ x2) then
     bif decide (x2 < (↑x1.length : Int)) then
      bif !((x0.getD x2.toNat dEvent).kind == (x1.getD x2.toNat dEvent).kind && ((x0.getD x2.toNat dEvent).t == (x1.getD x2.toNat dEvent).t && ((x0.getD x2.toNat dEvent).item == (x1.getD x2.toNat dEvent).item && ((x0.getD x2.toNat dEvent).op.tag == (x1.getD x2.toNat dEvent).op.tag && ((x0.getD x2.toNat dEvent).op.v == (x1.getD x2.toNat dEvent).op.v && true) && ((x0.getD x2.toNat dEvent).prior == (x1.getD x2.toNat dEvent).prior && ((x0.getD x2.toNat dEvent).did == (x1.getD x2.toNat dEvent).did && ((x0.getD x2.toNat dEvent).step == (x1.getD x2.toNat dEvent).step && true))))))) then
       some (Sum.inr (Sum.inr false))
      else
       some (Sum.inl (x0, x1, wrapA IntKind.i64 (x2 + (1 : Int))))
     else
      none
    else
     none
   else
    none
  else
   none
 else
  some (Sum.inr (Sum.inl ()))
noncomputable def T_ref17_Events_4 (x : (List Event) × (List Event) × Int) : Option (((List Event) × (List Event) × Int) ⊕ ((Unit) ⊕ (Bool))) := S_ref17_Events_4 x.1 x.2.1 x.2.2
noncomputable def W_ref17_Events_4 (x : (List Event) × (List Event) × Int) : Option ((Unit) ⊕ (Bool)) := whileM T_ref17_Events_4 x
noncomputable def F_ref17_Events (x0 : List Event) (x1 : List Event) : Option (Bool) :=
 bif (↑x0.length : Int) != (↑x1.length : Int) then
  some (false)
 else
  match W_ref17_Events_4 (x0, x1, (0 : Int)) with
  | some (.inl y1) =>
   some (true)
  | some (.inr y2) =>
   some (y2)
  | none => none
noncomputable def C_ref17_Events (x : (List Event) × (List Event)) : Option (Bool) := F_ref17_Events x.1 x.2

/- millstream/millstreamref17.Same -/
noncomputable def S_ref17_Same_4 (x0 : Wld) (x1 : Wld) (x2 : Int) : Option ((Wld × Wld × Int) ⊕ ((Unit) ⊕ (Bool))) :=
 bif decide (x2 < (↑x0.t.length : Int)) then
  bif decide ((0 : Int) ≤ x2) then
   bif decide (x2 < (↑x0.t.length : Int)) then
    bif decide ((0 : Int) ≤ x2) then
     bif decide (x2 < (↑x1.t.length : Int)) then
      match C_ref10_Same (x0.t.getD x2.toNat dThread, x1.t.getD x2.toNat dThread) with
      | some y1 =>
       bif !y1 then
        some (Sum.inr (Sum.inr false))
       else
        some (Sum.inl (x0, x1, wrapA IntKind.i64 (x2 + (1 : Int))))
      | none => none
     else
      none
    else
     none
   else
    none
  else
   none
 else
  some (Sum.inr (Sum.inl ()))
noncomputable def T_ref17_Same_4 (x : Wld × Wld × Int) : Option ((Wld × Wld × Int) ⊕ ((Unit) ⊕ (Bool))) := S_ref17_Same_4 x.1 x.2.1 x.2.2
noncomputable def W_ref17_Same_4 (x : Wld × Wld × Int) : Option ((Unit) ⊕ (Bool)) := whileM T_ref17_Same_4 x
noncomputable def F_ref17_Same (x0 : Wld) (x1 : Wld) : Option (Bool) :=
 bif !(x0.c.threads == x1.c.threads && (x0.c.items == x1.c.items && (x0.c.backend == x1.c.backend && (x0.c.depth == x1.c.depth && (x0.c.layers == x1.c.layers && (x0.c.width == x1.c.width && (x0.c.spin == x1.c.spin && (x0.c.wait == x1.c.wait && (x0.c.bounded == x1.c.bounded && (x0.c.lo == x1.c.lo && (x0.c.hi == x1.c.hi && (x0.c.init == x1.c.init && true)))))))))))) then
  some (false)
 else
  bif x0.now != x1.now then
   some (false)
  else
   bif x0.steps != x1.steps then
    some (false)
   else
    bif (↑x0.t.length : Int) != (↑x1.t.length : Int) then
     some (false)
    else
     match C_ref03_Same (x0.m, x1.m) with
     | some y1 =>
      bif !y1 then
       some (false)
      else
       match C_ref04_Same (x0.tape, x1.tape) with
       | some y2 =>
        bif !y2 then
         some (false)
        else
         match C_ref10_Marks (x0.log, x1.log) with
         | some y3 =>
          bif !y3 then
           some (false)
          else
           match C_ref17_Events (x0.hist, x1.hist) with
           | some y4 =>
            bif !y4 then
             some (false)
            else
             match W_ref17_Same_4 (x0, x1, (0 : Int)) with
             | some (.inl y5) =>
              some (true)
             | some (.inr y6) =>
              some (y6)
             | none => none
           | none => none
         | none => none
       | none => none
     | none => none
noncomputable def C_ref17_Same (x : Wld × Wld) : Option (Bool) := F_ref17_Same x.1 x.2

/- millstream/millstreamlaw17.entries -/
noncomputable def S_law17_entries_3 (x0 : List Entry) (x1 : List Entry) (x2 : Int) : Option (((List Entry) × (List Entry) × Int) ⊕ (((List Entry)))) :=
 bif decide (x2 < (↑x0.length : Int)) then
  bif decide ((0 : Int) ≤ x2) then
   bif decide (x2 < (↑x0.length : Int)) then
    bif decide ((0 : Int) ≤ x2) then
     bif decide (x2 < (↑x0.length : Int)) then
      bif fewB (x1.length + (x0.getD x2.toNat dEntry :: ([] : List Entry)).length) then
       some (Sum.inl (x0, x1 ++ x0.getD x2.toNat dEntry :: ([] : List Entry), wrapA IntKind.i64 (x2 + (1 : Int))))
      else
       none
     else
      none
    else
     none
   else
    none
  else
   none
 else
  some (Sum.inr x1)
noncomputable def T_law17_entries_3 (x : (List Entry) × (List Entry) × Int) : Option (((List Entry) × (List Entry) × Int) ⊕ (((List Entry)))) := S_law17_entries_3 x.1 x.2.1 x.2.2
noncomputable def W_law17_entries_3 (x : (List Entry) × (List Entry) × Int) : Option (((List Entry))) := whileM T_law17_entries_3 x
noncomputable def F_law17_entries (x0 : List Entry) : Option ((List Entry)) :=
 match W_law17_entries_3 (x0, ([] : List Entry), (0 : Int)) with
 | some y1 =>
  some (y1)
 | none => none
noncomputable def C_law17_entries (x : (List Entry)) : Option ((List Entry)) := F_law17_entries x

/- millstream/millstreamlaw17.memory -/
noncomputable def S_law17_memory_3 (x0 : Memo) (x1 : Memo) (x2 : Memo) (x3 : Int) : Option ((Memo × Memo × Memo × Int) ⊕ ((Memo × Memo))) :=
 bif decide (x3 < (↑x0.boxes.length : Int)) then
  bif decide ((0 : Int) ≤ x3) then
   bif decide (x3 < (↑x0.boxes.length : Int)) then
    match C_law17_entries (x0.boxes.getD x3.toNat ([] : List Entry)) with
    | some y1 =>
     bif fewB (x2.boxes.length + (y1 :: ([] : List (List Entry))).length) then
      some (Sum.inl (x0, x1, { x2 with boxes := x2.boxes ++ y1 :: ([] : List (List Entry)) }, wrapA IntKind.i64 (x3 + (1 : Int))))
     else
      none
    | none => none
   else
    none
  else
   none
 else
  some (Sum.inr (x1, x2))
noncomputable def T_law17_memory_3 (x : Memo × Memo × Memo × Int) : Option ((Memo × Memo × Memo × Int) ⊕ ((Memo × Memo))) := S_law17_memory_3 x.1 x.2.1 x.2.2.1 x.2.2.2
noncomputable def W_law17_memory_3 (x : Memo × Memo × Memo × Int) : Option ((Memo × Memo)) := whileM T_law17_memory_3 x
noncomputable def F_law17_memory (x0 : Memo) : Option (Memo) :=
 match W_law17_memory_3 (x0, Memo.mk ([] : List Int) ([] : List (List Entry)), { x0 with boxes := ([] : List (List Entry)) }, (0 : Int)) with
 | some y1 =>
  some (y1.snd)
 | none => none
noncomputable def C_law17_memory (x : Memo) : Option (Memo) := F_law17_memory x

/- millstream/millstreamlaw17.marks -/
noncomputable def S_law17_marks_3 (x0 : List Mark) (x1 : List Mark) (x2 : Int) : Option (((List Mark) × (List Mark) × Int) ⊕ (((List Mark)))) :=
 bif decide (x2 < (↑x0.length : Int)) then
  bif decide ((0 : Int) ≤ x2) then
   bif decide (x2 < (↑x0.length : Int)) then
    bif decide ((0 : Int) ≤ x2) then
     bif decide (x2 < (↑x0.length : Int)) then
      bif decide ((0 : Int) ≤ x2) then
       bif decide (x2 < (↑x0.length : Int)) then
        bif decide ((0 : Int) ≤ x2) then
         bif decide (x2 < (↑x0.length : Int)) then
          bif decide ((0 : Int) ≤ x2) then
           bif decide (x2 < (↑x0.length : Int)) then
            bif fewB (x1.length + (x0.getD x2.toNat dMark :: ([] : List Mark)).length) then
             some (Sum.inl (x0, x1 ++ x0.getD x2.toNat dMark :: ([] : List Mark), wrapA IntKind.i64 (x2 + (1 : Int))))
            else
             none
           else
            none
          else
           none
         else
          none
        else
         none
       else
        none
      else
       none
     else
      none
    else
     none
   else
    none
  else
   none
 else
  some (Sum.inr x1)
noncomputable def T_law17_marks_3 (x : (List Mark) × (List Mark) × Int) : Option (((List Mark) × (List Mark) × Int) ⊕ (((List Mark)))) := S_law17_marks_3 x.1 x.2.1 x.2.2
noncomputable def W_law17_marks_3 (x : (List Mark) × (List Mark) × Int) : Option (((List Mark))) := whileM T_law17_marks_3 x
noncomputable def F_law17_marks (x0 : List Mark) : Option ((List Mark)) :=
 match W_law17_marks_3 (x0, ([] : List Mark), (0 : Int)) with
 | some y1 =>
  some (y1)
 | none => none
noncomputable def C_law17_marks (x : (List Mark)) : Option ((List Mark)) := F_law17_marks x

/- millstream/millstreamlaw17.fiber -/
noncomputable def S_law17_fiber_3 (x0 : Thread) (x1 : Thread) (x2 : Thread) (x3 : Int) : Option ((Thread × Thread × Thread × Int) ⊕ ((Thread × Thread))) :=
 bif decide (x3 < (↑x0.kids.length : Int)) then
  bif decide ((0 : Int) ≤ x3) then
   bif decide (x3 < (↑x0.kids.length : Int)) then
    bif fewB (x2.kids.length + (x0.kids.getD x3.toNat dKid :: ([] : List Kid)).length) then
     some (Sum.inl (x0, x1, { x2 with kids := x2.kids ++ x0.kids.getD x3.toNat dKid :: ([] : List Kid) }, wrapA IntKind.i64 (x3 + (1 : Int))))
    else
     none
   else
    none
  else
   none
 else
  some (Sum.inr (x1, x2))
noncomputable def T_law17_fiber_3 (x : Thread × Thread × Thread × Int) : Option ((Thread × Thread × Thread × Int) ⊕ ((Thread × Thread))) := S_law17_fiber_3 x.1 x.2.1 x.2.2.1 x.2.2.2
noncomputable def W_law17_fiber_3 (x : Thread × Thread × Thread × Int) : Option ((Thread × Thread)) := whileM T_law17_fiber_3 x
noncomputable def F_law17_fiber (x0 : Thread) : Option (Thread) :=
 match C_law17_entries x0.batch with
 | some y1 =>
  match W_law17_fiber_3 (x0, Thread.mk (0 : Int) (0 : Int) (Op.mk (0 : Int) (0 : Int)) ([] : List Entry) ([] : List Kid) ([] : List Int) (0 : Int) (0 : Int) (0 : Int) (0 : Int) (0 : Int) (0 : Int) (0 : Int) (0 : Int) (0 : Int) (0 : Int), { x0 with batch := y1, kids := ([] : List Kid) }, (0 : Int)) with
  | some y2 =>
   some (y2.snd)
  | none => none
 | none => none
noncomputable def C_law17_fiber (x : Thread) : Option (Thread) := F_law17_fiber x

/- millstream/millstreamlaw17.theirs -/
noncomputable def S_law17_theirs_7 (x0 : Wld) (x1 : Wld) (x2 : Wld) (x3 : Int) : Option ((Wld × Wld × Wld × Int) ⊕ ((Wld × Wld))) :=
 bif decide (x3 < (↑x0.hist.length : Int)) then
  bif decide ((0 : Int) ≤ x3) then
   bif decide (x3 < (↑x0.hist.length : Int)) then
    bif fewB (x2.hist.length + (x0.hist.getD x3.toNat dEvent :: ([] : List Event)).length) then
     some (Sum.inl (x0, x1, { x2 with hist := x2.hist ++ x0.hist.getD x3.toNat dEvent :: ([] : List Event) }, wrapA IntKind.i64 (x3 + (1 : Int))))
    else
     none
   else
    none
  else
   none
 else
  some (Sum.inr (x1, x2))
noncomputable def T_law17_theirs_7 (x : Wld × Wld × Wld × Int) : Option ((Wld × Wld × Wld × Int) ⊕ ((Wld × Wld))) := S_law17_theirs_7 x.1 x.2.1 x.2.2.1 x.2.2.2
noncomputable def W_law17_theirs_7 (x : Wld × Wld × Wld × Int) : Option ((Wld × Wld)) := whileM T_law17_theirs_7 x
noncomputable def S_law17_theirs_3 (x0 : Wld) (x1 : Wld) (x2 : Wld) (x3 : Int) : Option ((Wld × Wld × Wld × Int) ⊕ ((Wld × Wld × Wld))) :=
 bif decide (x3 < (↑x0.t.length : Int)) then
  bif decide ((0 : Int) ≤ x3) then
   bif decide (x3 < (↑x0.t.length : Int)) then
    match C_law17_fiber (x0.t.getD x3.toNat dThread) with
    | some y1 =>
     bif fewB (x2.t.length + (y1 :: ([] : List Thread)).length) then
      some (Sum.inl (x0, x1, { x2 with t := x2.t ++ y1 :: ([] : List Thread) }, wrapA IntKind.i64 (x3 + (1 : Int))))
     else
      none
    | none => none
   else
    none
  else
   none
 else
  some (Sum.inr (x0, x1, x2))
noncomputable def T_law17_theirs_3 (x : Wld × Wld × Wld × Int) : Option ((Wld × Wld × Wld × Int) ⊕ ((Wld × Wld × Wld))) := S_law17_theirs_3 x.1 x.2.1 x.2.2.1 x.2.2.2
noncomputable def W_law17_theirs_3 (x : Wld × Wld × Wld × Int) : Option ((Wld × Wld × Wld)) := whileM T_law17_theirs_3 x
noncomputable def F_law17_theirs (x0 : Wld) : Option (Wld) :=
 match C_law17_memory x0.m with
 | some y1 =>
  match C_law17_marks x0.log with
  | some y2 =>
   match W_law17_theirs_3 (x0, Wld.mk (Config.mk (0 : Int) (0 : Int) (0 : Int) (0 : Int) (0 : Int) (0 : Int) (0 : Int) (0 : Int) false (0 : Int) (0 : Int) (0 : Int)) (Memo.mk ([] : List Int) ([] : List (List Entry))) ([] : List Thread) (0 : Int) (0 : Int) (Tape.mk ([] : List Int) (0 : Int)) ([] : List Mark) ([] : List Event), { x0 with m := y1, t := ([] : List Thread), log := y2, hist := ([] : List Event) }, (0 : Int)) with
   | some y3 =>
    match W_law17_theirs_7 (y3.fst, y3.snd.fst, y3.snd.snd, (0 : Int)) with
    | some y4 =>
     some (y4.snd)
    | none => none
   | none => none
  | none => none
 | none => none
noncomputable def C_law17_theirs (x : Wld) : Option (Wld) := F_law17_theirs x

/- millstream/world.Busy -/
noncomputable def S_world_Busy_2 (x0 : Int) (x1 : List Thread) (x2 : Int) (x3 : Int) : Option ((Int × (List Thread) × Int × Int) ⊕ ((Int))) :=
 bif decide (x3 < x2) then
  bif decide ((0 : Int) ≤ x3) then
   bif decide (x3 < (↑x1.length : Int)) then
    match C_thread_Busy (x1.getD x3.toNat dThread) with
    | some y1 =>
     bif y1 then
      some (Sum.inl (wrapA IntKind.i64 (x0 + (1 : Int)), x1, x2, wrapA IntKind.i64 (x3 + (1 : Int))))
     else
      some (Sum.inl (x0, x1, x2, wrapA IntKind.i64 (x3 + (1 : Int))))
    | none => none
   else
    none
  else
   none
 else
  some (Sum.inr x0)
noncomputable def T_world_Busy_2 (x : Int × (List Thread) × Int × Int) : Option ((Int × (List Thread) × Int × Int) ⊕ ((Int))) := S_world_Busy_2 x.1 x.2.1 x.2.2.1 x.2.2.2
noncomputable def W_world_Busy_2 (x : Int × (List Thread) × Int × Int) : Option ((Int)) := whileM T_world_Busy_2 x
noncomputable def F_world_Busy (x0 : Wld) : Option (Int) :=
 match W_world_Busy_2 ((0 : Int), x0.t, (↑x0.t.length : Int), (0 : Int)) with
 | some y1 =>
  some (y1)
 | none => none
noncomputable def C_world_Busy (x : Wld) : Option (Int) := F_world_Busy x

/- millstream/millstreamref17.Busy -/
noncomputable def S_ref17_Busy_3 (x0 : Wld) (x1 : Int) (x2 : Int) : Option ((Wld × Int × Int) ⊕ ((Int))) :=
 bif decide (x2 < (↑x0.t.length : Int)) then
  bif decide ((0 : Int) ≤ x2) then
   bif decide (x2 < (↑x0.t.length : Int)) then
    match C_ref10_Busy (x0.t.getD x2.toNat dThread) with
    | some y1 =>
     bif y1 then
      some (Sum.inl (x0, wrapA IntKind.i64 (x1 + (1 : Int)), wrapA IntKind.i64 (x2 + (1 : Int))))
     else
      some (Sum.inl (x0, x1, wrapA IntKind.i64 (x2 + (1 : Int))))
    | none => none
   else
    none
  else
   none
 else
  some (Sum.inr x1)
noncomputable def T_ref17_Busy_3 (x : Wld × Int × Int) : Option ((Wld × Int × Int) ⊕ ((Int))) := S_ref17_Busy_3 x.1 x.2.1 x.2.2
noncomputable def W_ref17_Busy_3 (x : Wld × Int × Int) : Option ((Int)) := whileM T_ref17_Busy_3 x
noncomputable def F_ref17_Busy (x0 : Wld) : Option (Int) :=
 match W_ref17_Busy_3 (x0, (0 : Int), (0 : Int)) with
 | some y1 =>
  some (y1)
 | none => none
noncomputable def C_ref17_Busy (x : Wld) : Option (Int) := F_ref17_Busy x

/- millstream/millstreamlaw17.cells -/
noncomputable def S_law17_cells_9 (x0 : Config) (x1 : Wld) (x2 : Config) (x3 : Int) (x4 : Int) (x5 : Int) : Option ((Config × Wld × Config × Int × Int × Int) ⊕ ((Config × Wld × Config × Int × Int) ⊕ (Bool))) :=
 bif decide (x5 < (↑x1.log.length : Int)) then
  bif decide ((0 : Int) ≤ x5) then
   bif decide (x5 < (↑x1.log.length : Int)) then
    bif (x1.log.getD x5.toNat dMark).item != x3 then
     some (Sum.inl (x0, x1, x2, x3, x4, wrapA IntKind.i64 (x5 + (1 : Int))))
    else
     bif (x1.log.getD x5.toNat dMark).prior != x4 then
      some (Sum.inr (Sum.inr false))
     else
      bif decide (x5 > (0 : Int)) then
       bif decide ((0 : Int) ≤ wrapA IntKind.i64 (x5 - (1 : Int))) then
        bif decide (wrapA IntKind.i64 (x5 - (1 : Int)) < (↑x1.log.length : Int)) then
         bif decide ((x1.log.getD x5.toNat dMark).step < (x1.log.getD (wrapA IntKind.i64 (x5 - (1 : Int))).toNat dMark).step) then
          some (Sum.inr (Sum.inr false))
         else
          match C_ref01_Apply ((x1.log.getD x5.toNat dMark).op, x4, x0.lo, x0.hi) with
          | some y1 =>
           bif x0.bounded then
            bif decide (y1.fst < x0.lo) then
             some (Sum.inr (Sum.inr false))
            else
             bif decide (y1.fst > x0.hi) then
              some (Sum.inr (Sum.inr false))
             else
              some (Sum.inl (x0, x1, x2, x3, y1.fst, wrapA IntKind.i64 (x5 + (1 : Int))))
           else
            some (Sum.inl (x0, x1, x2, x3, y1.fst, wrapA IntKind.i64 (x5 + (1 : Int))))
          | none => none
        else
         none
       else
        none
      else
       match C_ref01_Apply ((x1.log.getD x5.toNat dMark).op, x4, x0.lo, x0.hi) with
       | some y1 =>
        bif x0.bounded then
         bif decide (y1.fst < x0.lo) then
          some (Sum.inr (Sum.inr false))
         else
          bif decide (y1.fst > x0.hi) then
           some (Sum.inr (Sum.inr false))
          else
           some (Sum.inl (x0, x1, x2, x3, y1.fst, wrapA IntKind.i64 (x5 + (1 : Int))))
        else
         some (Sum.inl (x0, x1, x2, x3, y1.fst, wrapA IntKind.i64 (x5 + (1 : Int))))
       | none => none
   else
    none
  else
   none
 else
  some (Sum.inr (Sum.inl (x0, x1, x2, x3, x4)))
noncomputable def T_law17_cells_9 (x : Config × Wld × Config × Int × Int × Int) : Option ((Config × Wld × Config × Int × Int × Int) ⊕ ((Config × Wld × Config × Int × Int) ⊕ (Bool))) := S_law17_cells_9 x.1 x.2.1 x.2.2.1 x.2.2.2.1 x.2.2.2.2.1 x.2.2.2.2.2
noncomputable def W_law17_cells_9 (x : Config × Wld × Config × Int × Int × Int) : Option ((Config × Wld × Config × Int × Int) ⊕ (Bool)) := whileM T_law17_cells_9 x
noncomputable def S_law17_cells_5 (x0 : Config) (x1 : Wld) (x2 : Config) (x3 : Int) : Option ((Config × Wld × Config × Int) ⊕ ((Unit) ⊕ (Bool))) :=
 bif decide (x3 < x0.items) then
  match W_law17_cells_9 (x0, x1, x2, x3, x0.init, (0 : Int)) with
  | some (.inl y1) =>
   match C_ref06_Cell (y1.snd.snd.fst, y1.snd.snd.snd.fst) with
   | some y2 =>
    bif decide ((0 : Int) ≤ y2) then
     bif decide (y2 < (↑y1.snd.fst.m.words.length : Int)) then
      bif y1.snd.fst.m.words.getD (Int.toNat y2) (0 : Int) != y1.snd.snd.snd.snd then
       some (Sum.inr (Sum.inr false))
      else
       some (Sum.inl (y1.fst, y1.snd.fst, y1.snd.snd.fst, wrapA IntKind.i64 (y1.snd.snd.snd.fst + (1 : Int))))
     else
      none
    else
     none
   | none => none
  | some (.inr y2) =>
   some (Sum.inr (Sum.inr y2))
  | none => none
 else
  some (Sum.inr (Sum.inl ()))
noncomputable def T_law17_cells_5 (x : Config × Wld × Config × Int) : Option ((Config × Wld × Config × Int) ⊕ ((Unit) ⊕ (Bool))) := S_law17_cells_5 x.1 x.2.1 x.2.2.1 x.2.2.2
noncomputable def W_law17_cells_5 (x : Config × Wld × Config × Int) : Option ((Unit) ⊕ (Bool)) := whileM T_law17_cells_5 x
noncomputable def F_law17_cells (x0 : Config) (x1 : Wld) : Option (Bool) :=
 match C_ref06_Size x0 with
 | some y1 =>
  bif (↑x1.m.words.length : Int) != y1 then
   some (false)
  else
   bif decide ((↑x1.log.length : Int) > (1000 : Int)) then
    some (false)
   else
    match W_law17_cells_5 (x0, x1, x0, (0 : Int)) with
    | some (.inl y2) =>
     some (true)
    | some (.inr y3) =>
     some (y3)
    | none => none
 | none => none
noncomputable def C_law17_cells (x : Config × Wld) : Option (Bool) := F_law17_cells x.1 x.2

/- millstream/millstreamlaw17.answers -/
noncomputable def S_law17_answers_16 (x0 : Config) (x1 : Wld) (x2 : Int) (x3 : List Mark) (x4 : Int) (x5 : Bool) (x6 : Event) (x7 : Int) : Option ((Config × Wld × Int × (List Mark) × Int × Bool × Event × Int) ⊕ ((Config × Wld × Int × (List Mark) × Int × Bool × Event) ⊕ (Bool))) :=
 bif decide (x7 < (↑x1.hist.length : Int)) then
  bif decide ((0 : Int) ≤ x7) then
   bif decide (x7 < (↑x1.hist.length : Int)) then
    bif (x1.hist.getD x7.toNat dEvent).t != x2 then
     some (Sum.inl (x0, x1, x2, x3, x4, x5, x6, wrapA IntKind.i64 (x7 + (1 : Int))))
    else
     bif (x1.hist.getD x7.toNat dEvent).kind == (3 : Int) then
      some (Sum.inl (x0, x1, x2, x3, x4, x5, x6, wrapA IntKind.i64 (x7 + (1 : Int))))
     else
      bif ((x1.hist.getD x7.toNat dEvent).kind == (1 : Int)) == x5 then
       some (Sum.inr (Sum.inr false))
      else
       bif (x1.hist.getD x7.toNat dEvent).kind == (1 : Int) then
        some (Sum.inl (x0, x1, x2, x3, x4, true, x1.hist.getD x7.toNat dEvent, wrapA IntKind.i64 (x7 + (1 : Int))))
       else
        match C_ref01_Apply ((x1.hist.getD x7.toNat dEvent).op, (x1.hist.getD x7.toNat dEvent).prior, x0.lo, x0.hi) with
        | some y1 =>
         bif decide (x4 ≥ (↑x3.length : Int)) then
          some (Sum.inr (Sum.inr false))
         else
          bif decide ((0 : Int) ≤ x4) then
           bif decide (x4 < (↑x3.length : Int)) then
            bif !((x3.getD x4.toNat dMark).op.tag == (x1.hist.getD x7.toNat dEvent).op.tag && ((x3.getD x4.toNat dMark).op.v == (x1.hist.getD x7.toNat dEvent).op.v && true)) then
             some (Sum.inr (Sum.inr false))
            else
             bif decide ((0 : Int) ≤ x4) then
              bif decide (x4 < (↑x3.length : Int)) then
               bif (x3.getD x4.toNat dMark).item != (x1.hist.getD x7.toNat dEvent).item then
                some (Sum.inr (Sum.inr false))
               else
                bif decide ((0 : Int) ≤ x4) then
                 bif decide (x4 < (↑x3.length : Int)) then
                  bif (x3.getD x4.toNat dMark).prior != (x1.hist.getD x7.toNat dEvent).prior then
                   some (Sum.inr (Sum.inr false))
                  else
                   bif !(x1.hist.getD x7.toNat dEvent).did == y1.snd then
                    some (Sum.inr (Sum.inr false))
                   else
                    bif !(x6.op.tag == (x1.hist.getD x7.toNat dEvent).op.tag && (x6.op.v == (x1.hist.getD x7.toNat dEvent).op.v && true)) then
                     some (Sum.inr (Sum.inr false))
                    else
                     bif x6.item != (x1.hist.getD x7.toNat dEvent).item then
                      some (Sum.inr (Sum.inr false))
                     else
                      bif decide ((0 : Int) ≤ x4) then
                       bif decide (x4 < (↑x3.length : Int)) then
                        bif decide ((x3.getD x4.toNat dMark).step ≤ x6.step) then
                         some (Sum.inr (Sum.inr false))
                        else
                         bif decide ((0 : Int) ≤ x4) then
                          bif decide (x4 < (↑x3.length : Int)) then
                           bif decide ((x3.getD x4.toNat dMark).step > (x1.hist.getD x7.toNat dEvent).step) then
                            some (Sum.inr (Sum.inr false))
                           else
                            some (Sum.inl (x0, x1, x2, x3, wrapA IntKind.i64 (x4 + (1 : Int)), false, x6, wrapA IntKind.i64 (x7 + (1 : Int))))
                          else
                           none
                         else
                          none
                       else
                        none
                      else
                       none
                 else
                  none
                else
                 none
              else
               none
             else
              none
           else
            none
          else
           none
        | none => none
   else
    none
  else
   none
 else
  some (Sum.inr (Sum.inl (x0, x1, x2, x3, x4, x5, x6)))
noncomputable def T_law17_answers_16 (x : Config × Wld × Int × (List Mark) × Int × Bool × Event × Int) : Option ((Config × Wld × Int × (List Mark) × Int × Bool × Event × Int) ⊕ ((Config × Wld × Int × (List Mark) × Int × Bool × Event) ⊕ (Bool))) := S_law17_answers_16 x.1 x.2.1 x.2.2.1 x.2.2.2.1 x.2.2.2.2.1 x.2.2.2.2.2.1 x.2.2.2.2.2.2.1 x.2.2.2.2.2.2.2
noncomputable def W_law17_answers_16 (x : Config × Wld × Int × (List Mark) × Int × Bool × Event × Int) : Option ((Config × Wld × Int × (List Mark) × Int × Bool × Event) ⊕ (Bool)) := whileM T_law17_answers_16 x
noncomputable def S_law17_answers_8 (x0 : Config) (x1 : Wld) (x2 : Int) (x3 : List Mark) (x4 : Int) : Option ((Config × Wld × Int × (List Mark) × Int) ⊕ ((Config × Wld × Int × (List Mark)))) :=
 bif decide (x4 < (↑x1.log.length : Int)) then
  bif decide ((0 : Int) ≤ x4) then
   bif decide (x4 < (↑x1.log.length : Int)) then
    bif (x1.log.getD x4.toNat dMark).t == x2 then
     bif decide ((0 : Int) ≤ x4) then
      bif decide (x4 < (↑x1.log.length : Int)) then
       bif fewB (x3.length + (x1.log.getD x4.toNat dMark :: ([] : List Mark)).length) then
        some (Sum.inl (x0, x1, x2, x3 ++ x1.log.getD x4.toNat dMark :: ([] : List Mark), wrapA IntKind.i64 (x4 + (1 : Int))))
       else
        none
      else
       none
     else
      none
    else
     some (Sum.inl (x0, x1, x2, x3, wrapA IntKind.i64 (x4 + (1 : Int))))
   else
    none
  else
   none
 else
  some (Sum.inr (x0, x1, x2, x3))
noncomputable def T_law17_answers_8 (x : Config × Wld × Int × (List Mark) × Int) : Option ((Config × Wld × Int × (List Mark) × Int) ⊕ ((Config × Wld × Int × (List Mark)))) := S_law17_answers_8 x.1 x.2.1 x.2.2.1 x.2.2.2.1 x.2.2.2.2
noncomputable def W_law17_answers_8 (x : Config × Wld × Int × (List Mark) × Int) : Option ((Config × Wld × Int × (List Mark))) := whileM T_law17_answers_8 x
noncomputable def S_law17_answers_4 (x0 : Config) (x1 : Wld) (x2 : Int) : Option ((Config × Wld × Int) ⊕ ((Unit) ⊕ (Bool))) :=
 bif decide (x2 < x0.threads) then
  match W_law17_answers_8 (x0, x1, x2, ([] : List Mark), (0 : Int)) with
  | some y1 =>
   match W_law17_answers_16 (y1.fst, y1.snd.fst, y1.snd.snd.fst, y1.snd.snd.snd, (0 : Int), false, Event.mk (0 : Int) (0 : Int) (0 : Int) (Op.mk (0 : Int) (0 : Int)) (0 : Int) false (0 : Int), (0 : Int)) with
   | some (.inl y2) =>
    bif (↑(List.length y2.snd.snd.snd.fst) : Int) != y2.snd.snd.snd.snd.fst then
     bif !y2.snd.snd.snd.snd.snd.fst then
      some (Sum.inr (Sum.inr false))
     else
      bif (↑(List.length y2.snd.snd.snd.fst) : Int) != wrapA IntKind.i64 (y2.snd.snd.snd.snd.fst + (1 : Int)) then
       some (Sum.inr (Sum.inr false))
      else
       bif decide ((0 : Int) ≤ y2.snd.snd.snd.snd.fst) then
        bif decide (y2.snd.snd.snd.snd.fst < (↑(List.length y2.snd.snd.snd.fst) : Int)) then
         bif !((List.getD y2.snd.snd.snd.fst (Int.toNat y2.snd.snd.snd.snd.fst) dMark).op.tag == y2.snd.snd.snd.snd.snd.snd.op.tag && ((List.getD y2.snd.snd.snd.fst (Int.toNat y2.snd.snd.snd.snd.fst) dMark).op.v == y2.snd.snd.snd.snd.snd.snd.op.v && true)) then
          some (Sum.inr (Sum.inr false))
         else
          bif decide ((0 : Int) ≤ y2.snd.snd.snd.snd.fst) then
           bif decide (y2.snd.snd.snd.snd.fst < (↑(List.length y2.snd.snd.snd.fst) : Int)) then
            bif (List.getD y2.snd.snd.snd.fst (Int.toNat y2.snd.snd.snd.snd.fst) dMark).item != y2.snd.snd.snd.snd.snd.snd.item then
             some (Sum.inr (Sum.inr false))
            else
             bif decide ((0 : Int) ≤ y2.snd.snd.snd.snd.fst) then
              bif decide (y2.snd.snd.snd.snd.fst < (↑(List.length y2.snd.snd.snd.fst) : Int)) then
               bif decide ((List.getD y2.snd.snd.snd.fst (Int.toNat y2.snd.snd.snd.snd.fst) dMark).step ≤ y2.snd.snd.snd.snd.snd.snd.step) then
                some (Sum.inr (Sum.inr false))
               else
                some (Sum.inl (y2.fst, y2.snd.fst, wrapA IntKind.i64 (y2.snd.snd.fst + (1 : Int))))
              else
               none
             else
              none
           else
            none
          else
           none
        else
         none
       else
        none
    else
     some (Sum.inl (y2.fst, y2.snd.fst, wrapA IntKind.i64 (y2.snd.snd.fst + (1 : Int))))
   | some (.inr y3) =>
    some (Sum.inr (Sum.inr y3))
   | none => none
  | none => none
 else
  some (Sum.inr (Sum.inl ()))
noncomputable def T_law17_answers_4 (x : Config × Wld × Int) : Option ((Config × Wld × Int) ⊕ ((Unit) ⊕ (Bool))) := S_law17_answers_4 x.1 x.2.1 x.2.2
noncomputable def W_law17_answers_4 (x : Config × Wld × Int) : Option ((Unit) ⊕ (Bool)) := whileM T_law17_answers_4 x
noncomputable def F_law17_answers (x0 : Config) (x1 : Wld) : Option (Bool) :=
 bif decide ((↑x1.hist.length : Int) > (1000 : Int)) then
  some (false)
 else
  match W_law17_answers_4 (x0, x1, (0 : Int)) with
  | some (.inl y1) =>
   some (true)
  | some (.inr y2) =>
   some (y2)
  | none => none
noncomputable def C_law17_answers (x : Config × Wld) : Option (Bool) := F_law17_answers x.1 x.2

/- millstream/machine.Start -/
noncomputable def F_machine_Start (x0 : Turn) : Option (Turn) :=
 bif x0.c.backend == (2 : Int) then
  bif decide (x0.c.depth > (0 : Int)) then
   some ({ x0 with th := { x0.th with phase := (4 : Int) } })
  else
   bif x0.c.backend == (3 : Int) then
    bif decide (x0.c.layers > (0 : Int)) then
     some ({ x0 with th := { x0.th with phase := (17 : Int), layer := (1 : Int) } })
    else
     some ({ x0 with th := { x0.th with phase := (2 : Int) } })
   else
    some ({ x0 with th := { x0.th with phase := (2 : Int) } })
 else
  bif x0.c.backend == (3 : Int) then
   bif decide (x0.c.layers > (0 : Int)) then
    some ({ x0 with th := { x0.th with phase := (17 : Int), layer := (1 : Int) } })
   else
    some ({ x0 with th := { x0.th with phase := (2 : Int) } })
  else
   some ({ x0 with th := { x0.th with phase := (2 : Int) } })
noncomputable def C_machine_Start (x : Turn) : Option (Turn) := F_machine_Start x

/- slices.Clone[[]int,int] -/
noncomputable def F_slices_Clone_int (x0 : List Int) : Option ((List Int)) :=
 bif fewB ((0 : Nat) + x0.length) then
  some (x0)
 else
  none
noncomputable def C_slices_Clone_int (x : (List Int)) : Option ((List Int)) := F_slices_Clone_int x

/- millstream/wmem.at[int] -/
noncomputable def F_wmem_at_int (x0 : List Int) (x1 : Int) : Option (Int × Int) :=
 bif decide (x1 < (0 : Int)) then
  some (((0 : Int), (30 : Int)))
 else
  bif decide (x1 ≥ (↑x0.length : Int)) then
   some (((0 : Int), (30 : Int)))
  else
   bif decide ((0 : Int) ≤ x1) then
    bif decide (x1 < (↑x0.length : Int)) then
     some ((x0.getD x1.toNat (0 : Int), (0 : Int)))
    else
     none
   else
    none
noncomputable def C_wmem_at_int (x : (List Int) × Int) : Option (Int × Int) := F_wmem_at_int x.1 x.2

/- millstream/wmem.Store -/
noncomputable def F_wmem_Store (x0 : Memo) (x1 : Int) (x2 : Int) : Option (Memo × Int) :=
 match C_wmem_at_int (x0.words, x1) with
 | some y1 =>
  bif y1.snd != (0 : Int) then
   some ((x0, y1.snd))
  else
   match C_slices_Clone_int x0.words with
   | some y2 =>
    bif decide ((0 : Int) ≤ x1) then
     bif decide (x1 < (↑(List.length y2) : Int)) then
      some (({ x0 with words := List.set y2 x1.toNat x2 }, y1.snd))
     else
      none
    else
     none
   | none => none
 | none => none
noncomputable def C_wmem_Store (x : Memo × Int × Int) : Option (Memo × Int) := F_wmem_Store x.1 x.2.1 x.2.2

/- millstream/arena.Line -/
noncomputable def F_arena_Line (x0 : Config) (x1 : Int) : Option (Int) :=
 bif decide (x1 < (0 : Int)) then
  some ((-1 : Int))
 else
  bif decide (x1 ≥ x0.threads) then
   some ((-1 : Int))
  else
   match C_arena_of x0 with
   | some y1 =>
    some (wrapA IntKind.i64 (y1.lines + wrapA IntKind.i64 ((2 : Int) * x1)))
   | none => none
noncomputable def C_arena_Line (x : Config × Int) : Option (Int) := F_arena_Line x.1 x.2

/- millstream/machine.clear -/
noncomputable def F_machine_clear (x0 : Turn) : Option (Turn × Bool) :=
 bif x0.th.phase != (1 : Int) then
  some ((x0, false))
 else
  match C_arena_Line (x0.c, x0.t) with
  | some y1 =>
   match C_wmem_Store (x0.m, y1, (0 : Int)) with
   | some y2 =>
    bif y2.snd != (0 : Int) then
     some ((x0, true))
    else
     match C_machine_Start { x0 with m := y2.fst } with
     | some y3 =>
      some ((y3, true))
     | none => none
   | none => none
  | none => none
noncomputable def C_machine_clear (x : Turn) : Option (Turn × Bool) := F_machine_clear x

/- millstream/arena.Node -/
noncomputable def F_arena_Node (x0 : Config) (x1 : Int) (x2 : Int) : Option (Int) :=
 bif decide (x1 < (0 : Int)) then
  some ((-1 : Int))
 else
  bif decide (x1 ≥ x0.items) then
   some ((-1 : Int))
  else
   match C_arena_Nodes x0 with
   | some y1 =>
    bif decide (x2 < (1 : Int)) then
     some ((-1 : Int))
    else
     bif decide (x2 ≥ wrapA IntKind.i64 ((1 : Int) + y1)) then
      some ((-1 : Int))
     else
      match C_arena_of x0 with
      | some y2 =>
       some (wrapA IntKind.i64 (wrapA IntKind.i64 (x1 * y2.block) + x2))
      | none => none
   | none => none
noncomputable def C_arena_Node (x : Config × Int × Int) : Option (Int) := F_arena_Node x.1 x.2.1 x.2.2

/- (millstream/code.said).word -/
noncomputable def F_code_said_word (x0 : Said) : Option (Int) :=
 some (wrapA IntKind.i64 (wrapA IntKind.i64 ((8 : Int) * wrapA IntKind.i64 (x0.n + (1 : Int))) + x0.kind))
noncomputable def C_code_said_word (x : Said) : Option (Int) := F_code_said_word x

/- millstream/code.First -/
noncomputable def F_code_First (x0 : Int) : Option (Int) :=
 match C_code_said_word (Said.mk (1 : Int) x0) with
 | some y1 =>
  some (y1)
 | none => none
noncomputable def C_code_First (x : Int) : Option (Int) := F_code_First x

/- millstream/shape.Parent -/
noncomputable def F_shape_Parent (x0 : Int) : Option (Int) :=
 some ((if (0 : Int) > x0 then (0 : Int) else x0).fdiv ((2 : Int) ^ min (Int.toNat (1 : Int)) IntKind.i64.bits))
noncomputable def C_shape_Parent (x : Int) : Option (Int) := F_shape_Parent x

/- millstream/climb.Down -/
noncomputable def F_climb_Down (x0 : Turn) : Option (Turn) :=
 bif decide (x0.th.stop > (0 : Int)) then
  bif decide (x0.th.at_ ≥ (0 : Int)) then
   bif decide (x0.th.at_ < (↑x0.th.held.length : Int)) then
    some ({ x0 with th := { x0.th with phase := (7 : Int) } })
   else
    some ({ x0 with th := { x0.th with phase := (11 : Int) } })
  else
   some ({ x0 with th := { x0.th with phase := (11 : Int) } })
 else
  bif decide (x0.th.at_ ≥ (0 : Int)) then
   bif decide (x0.th.at_ < (↑x0.th.held.length : Int)) then
    some ({ x0 with th := { x0.th with phase := (7 : Int) } })
   else
    some ({ x0 with th := { x0.th with phase := (2 : Int) } })
  else
   some ({ x0 with th := { x0.th with phase := (2 : Int) } })
noncomputable def C_climb_Down (x : Turn) : Option (Turn) := F_climb_Down x

/- millstream/climb.over -/
noncomputable def F_climb_over (x0 : Turn) : Option (Turn) :=
 match C_climb_Down { x0 with th := { x0.th with at_ := (0 : Int) } } with
 | some y1 =>
  some (y1)
 | none => none
noncomputable def C_climb_over (x : Turn) : Option (Turn) := F_climb_over x

/- millstream/climb.taken -/
noncomputable def F_climb_taken (x0 : Turn) : Option (Turn) :=
 match C_slices_Clone_int x0.th.held with
 | some y1 =>
  bif fewB (List.length y1 + (x0.th.node :: ([] : List Int)).length) then
   match C_shape_Parent x0.th.node with
   | some y2 =>
    bif decide (y2 > (0 : Int)) then
     some ({ x0 with th := { x0.th with held := y1 ++ x0.th.node :: ([] : List Int), node := y2 } })
    else
     match C_climb_over { x0 with th := { x0.th with held := y1 ++ x0.th.node :: ([] : List Int), node := y2 } } with
     | some y3 =>
      some (y3)
     | none => none
   | none => none
  else
   none
 | none => none
noncomputable def C_climb_taken (x : Turn) : Option (Turn) := F_climb_taken x

/- millstream/wmem.Cas -/
noncomputable def F_wmem_Cas (x0 : Memo) (x1 : Int) (x2 : Int) (x3 : Int) : Option (Memo × Bool × Int) :=
 match C_wmem_at_int (x0.words, x1) with
 | some y1 =>
  bif y1.snd != (0 : Int) then
   some ((x0, false, y1.snd))
  else
   bif y1.fst == x2 then
    match C_slices_Clone_int x0.words with
    | some y2 =>
     bif decide ((0 : Int) ≤ x1) then
      bif decide (x1 < (↑(List.length y2) : Int)) then
       some (({ x0 with words := List.set y2 x1.toNat x3 }, y1.fst == x2, y1.snd))
      else
       none
     else
      none
    | none => none
   else
    some ((x0, y1.fst == x2, y1.snd))
 | none => none
noncomputable def C_wmem_Cas (x : Memo × Int × Int × Int) : Option (Memo × Bool × Int) := F_wmem_Cas x.1 x.2.1 x.2.2.1 x.2.2.2

/- millstream/wmem.Load -/
noncomputable def F_wmem_Load (x0 : Memo) (x1 : Int) : Option (Int × Int) :=
 match C_wmem_at_int (x0.words, x1) with
 | some y1 =>
  some (y1)
 | none => none
noncomputable def C_wmem_Load (x : Memo × Int) : Option (Int × Int) := F_wmem_Load x.1 x.2

/- millstream/thread.Late -/
noncomputable def F_thread_Late (x0 : Turn) : Option (Bool) :=
 bif decide ((0 : Int) < x0.th.until_) then
  some (decide (x0.th.until_ ≤ x0.now))
 else
  some (false)
noncomputable def C_thread_Late (x : Turn) : Option (Bool) := F_thread_Late x

/- millstream/code.of -/
noncomputable def F_code_of (x0 : Int) : Option (Said) :=
 bif wrapA IntKind.i64 (↑(BitVec.ofInt IntKind.i64.bits x0 &&& BitVec.ofInt IntKind.i64.bits (7 : Int)).toNat : Int) == (5 : Int) && (wrapA IntKind.i64 (x0.fdiv ((2 : Int) ^ min (Int.toNat (3 : Int)) IntKind.i64.bits) - (1 : Int)) == (-1 : Int) && true) then
  some (Said.mk (wrapA IntKind.i64 (↑(BitVec.ofInt IntKind.i64.bits x0 &&& BitVec.ofInt IntKind.i64.bits (7 : Int)).toNat : Int)) (wrapA IntKind.i64 (x0.fdiv ((2 : Int) ^ min (Int.toNat (3 : Int)) IntKind.i64.bits) - (1 : Int))))
 else
  bif decide (wrapA IntKind.i64 (↑(BitVec.ofInt IntKind.i64.bits x0 &&& BitVec.ofInt IntKind.i64.bits (7 : Int)).toNat : Int) ≥ (1 : Int)) then
   bif decide (wrapA IntKind.i64 (↑(BitVec.ofInt IntKind.i64.bits x0 &&& BitVec.ofInt IntKind.i64.bits (7 : Int)).toNat : Int) ≤ (3 : Int)) then
    bif decide (wrapA IntKind.i64 (x0.fdiv ((2 : Int) ^ min (Int.toNat (3 : Int)) IntKind.i64.bits) - (1 : Int)) ≥ (0 : Int)) then
     bif decide (wrapA IntKind.i64 (x0.fdiv ((2 : Int) ^ min (Int.toNat (3 : Int)) IntKind.i64.bits) - (1 : Int)) < (16 : Int)) then
      some (Said.mk (wrapA IntKind.i64 (↑(BitVec.ofInt IntKind.i64.bits x0 &&& BitVec.ofInt IntKind.i64.bits (7 : Int)).toNat : Int)) (wrapA IntKind.i64 (x0.fdiv ((2 : Int) ^ min (Int.toNat (3 : Int)) IntKind.i64.bits) - (1 : Int))))
     else
      bif wrapA IntKind.i64 (↑(BitVec.ofInt IntKind.i64.bits x0 &&& BitVec.ofInt IntKind.i64.bits (7 : Int)).toNat : Int) == (4 : Int) then
       bif decide ((wrapA IntKind.i64 (x0.fdiv ((2 : Int) ^ min (Int.toNat (3 : Int)) IntKind.i64.bits) - (1 : Int))).fdiv ((2 : Int) ^ min (Int.toNat (4 : Int)) IntKind.i64.bits) ≥ (0 : Int)) then
        bif decide ((wrapA IntKind.i64 (x0.fdiv ((2 : Int) ^ min (Int.toNat (3 : Int)) IntKind.i64.bits) - (1 : Int))).fdiv ((2 : Int) ^ min (Int.toNat (4 : Int)) IntKind.i64.bits) < (4 : Int)) then
         bif decide (wrapA IntKind.i64 (↑(BitVec.ofInt IntKind.i64.bits (wrapA IntKind.i64 (x0.fdiv ((2 : Int) ^ min (Int.toNat (3 : Int)) IntKind.i64.bits) - (1 : Int))) &&& BitVec.ofInt IntKind.i64.bits (15 : Int)).toNat : Int) ≥ (1 : Int)) then
          bif decide (wrapA IntKind.i64 (↑(BitVec.ofInt IntKind.i64.bits (wrapA IntKind.i64 (x0.fdiv ((2 : Int) ^ min (Int.toNat (3 : Int)) IntKind.i64.bits) - (1 : Int))) &&& BitVec.ofInt IntKind.i64.bits (15 : Int)).toNat : Int) ≤ (3 : Int)) then
           some (Said.mk (wrapA IntKind.i64 (↑(BitVec.ofInt IntKind.i64.bits x0 &&& BitVec.ofInt IntKind.i64.bits (7 : Int)).toNat : Int)) (wrapA IntKind.i64 (x0.fdiv ((2 : Int) ^ min (Int.toNat (3 : Int)) IntKind.i64.bits) - (1 : Int))))
          else
           some (Said.mk (0 : Int) (0 : Int))
         else
          some (Said.mk (0 : Int) (0 : Int))
        else
         some (Said.mk (0 : Int) (0 : Int))
       else
        some (Said.mk (0 : Int) (0 : Int))
      else
       some (Said.mk (0 : Int) (0 : Int))
    else
     bif wrapA IntKind.i64 (↑(BitVec.ofInt IntKind.i64.bits x0 &&& BitVec.ofInt IntKind.i64.bits (7 : Int)).toNat : Int) == (4 : Int) then
      bif decide ((wrapA IntKind.i64 (x0.fdiv ((2 : Int) ^ min (Int.toNat (3 : Int)) IntKind.i64.bits) - (1 : Int))).fdiv ((2 : Int) ^ min (Int.toNat (4 : Int)) IntKind.i64.bits) ≥ (0 : Int)) then
       bif decide ((wrapA IntKind.i64 (x0.fdiv ((2 : Int) ^ min (Int.toNat (3 : Int)) IntKind.i64.bits) - (1 : Int))).fdiv ((2 : Int) ^ min (Int.toNat (4 : Int)) IntKind.i64.bits) < (4 : Int)) then
        bif decide (wrapA IntKind.i64 (↑(BitVec.ofInt IntKind.i64.bits (wrapA IntKind.i64 (x0.fdiv ((2 : Int) ^ min (Int.toNat (3 : Int)) IntKind.i64.bits) - (1 : Int))) &&& BitVec.ofInt IntKind.i64.bits (15 : Int)).toNat : Int) ≥ (1 : Int)) then
         bif decide (wrapA IntKind.i64 (↑(BitVec.ofInt IntKind.i64.bits (wrapA IntKind.i64 (x0.fdiv ((2 : Int) ^ min (Int.toNat (3 : Int)) IntKind.i64.bits) - (1 : Int))) &&& BitVec.ofInt IntKind.i64.bits (15 : Int)).toNat : Int) ≤ (3 : Int)) then
          some (Said.mk (wrapA IntKind.i64 (↑(BitVec.ofInt IntKind.i64.bits x0 &&& BitVec.ofInt IntKind.i64.bits (7 : Int)).toNat : Int)) (wrapA IntKind.i64 (x0.fdiv ((2 : Int) ^ min (Int.toNat (3 : Int)) IntKind.i64.bits) - (1 : Int))))
         else
          some (Said.mk (0 : Int) (0 : Int))
        else
         some (Said.mk (0 : Int) (0 : Int))
       else
        some (Said.mk (0 : Int) (0 : Int))
      else
       some (Said.mk (0 : Int) (0 : Int))
     else
      some (Said.mk (0 : Int) (0 : Int))
   else
    bif wrapA IntKind.i64 (↑(BitVec.ofInt IntKind.i64.bits x0 &&& BitVec.ofInt IntKind.i64.bits (7 : Int)).toNat : Int) == (4 : Int) then
     bif decide ((wrapA IntKind.i64 (x0.fdiv ((2 : Int) ^ min (Int.toNat (3 : Int)) IntKind.i64.bits) - (1 : Int))).fdiv ((2 : Int) ^ min (Int.toNat (4 : Int)) IntKind.i64.bits) ≥ (0 : Int)) then
      bif decide ((wrapA IntKind.i64 (x0.fdiv ((2 : Int) ^ min (Int.toNat (3 : Int)) IntKind.i64.bits) - (1 : Int))).fdiv ((2 : Int) ^ min (Int.toNat (4 : Int)) IntKind.i64.bits) < (4 : Int)) then
       bif decide (wrapA IntKind.i64 (↑(BitVec.ofInt IntKind.i64.bits (wrapA IntKind.i64 (x0.fdiv ((2 : Int) ^ min (Int.toNat (3 : Int)) IntKind.i64.bits) - (1 : Int))) &&& BitVec.ofInt IntKind.i64.bits (15 : Int)).toNat : Int) ≥ (1 : Int)) then
        bif decide (wrapA IntKind.i64 (↑(BitVec.ofInt IntKind.i64.bits (wrapA IntKind.i64 (x0.fdiv ((2 : Int) ^ min (Int.toNat (3 : Int)) IntKind.i64.bits) - (1 : Int))) &&& BitVec.ofInt IntKind.i64.bits (15 : Int)).toNat : Int) ≤ (3 : Int)) then
         some (Said.mk (wrapA IntKind.i64 (↑(BitVec.ofInt IntKind.i64.bits x0 &&& BitVec.ofInt IntKind.i64.bits (7 : Int)).toNat : Int)) (wrapA IntKind.i64 (x0.fdiv ((2 : Int) ^ min (Int.toNat (3 : Int)) IntKind.i64.bits) - (1 : Int))))
        else
         some (Said.mk (0 : Int) (0 : Int))
       else
        some (Said.mk (0 : Int) (0 : Int))
      else
       some (Said.mk (0 : Int) (0 : Int))
     else
      some (Said.mk (0 : Int) (0 : Int))
    else
     some (Said.mk (0 : Int) (0 : Int))
  else
   bif wrapA IntKind.i64 (↑(BitVec.ofInt IntKind.i64.bits x0 &&& BitVec.ofInt IntKind.i64.bits (7 : Int)).toNat : Int) == (4 : Int) then
    bif decide ((wrapA IntKind.i64 (x0.fdiv ((2 : Int) ^ min (Int.toNat (3 : Int)) IntKind.i64.bits) - (1 : Int))).fdiv ((2 : Int) ^ min (Int.toNat (4 : Int)) IntKind.i64.bits) ≥ (0 : Int)) then
     bif decide ((wrapA IntKind.i64 (x0.fdiv ((2 : Int) ^ min (Int.toNat (3 : Int)) IntKind.i64.bits) - (1 : Int))).fdiv ((2 : Int) ^ min (Int.toNat (4 : Int)) IntKind.i64.bits) < (4 : Int)) then
      bif decide (wrapA IntKind.i64 (↑(BitVec.ofInt IntKind.i64.bits (wrapA IntKind.i64 (x0.fdiv ((2 : Int) ^ min (Int.toNat (3 : Int)) IntKind.i64.bits) - (1 : Int))) &&& BitVec.ofInt IntKind.i64.bits (15 : Int)).toNat : Int) ≥ (1 : Int)) then
       bif decide (wrapA IntKind.i64 (↑(BitVec.ofInt IntKind.i64.bits (wrapA IntKind.i64 (x0.fdiv ((2 : Int) ^ min (Int.toNat (3 : Int)) IntKind.i64.bits) - (1 : Int))) &&& BitVec.ofInt IntKind.i64.bits (15 : Int)).toNat : Int) ≤ (3 : Int)) then
        some (Said.mk (wrapA IntKind.i64 (↑(BitVec.ofInt IntKind.i64.bits x0 &&& BitVec.ofInt IntKind.i64.bits (7 : Int)).toNat : Int)) (wrapA IntKind.i64 (x0.fdiv ((2 : Int) ^ min (Int.toNat (3 : Int)) IntKind.i64.bits) - (1 : Int))))
       else
        some (Said.mk (0 : Int) (0 : Int))
      else
       some (Said.mk (0 : Int) (0 : Int))
     else
      some (Said.mk (0 : Int) (0 : Int))
    else
     some (Said.mk (0 : Int) (0 : Int))
   else
    some (Said.mk (0 : Int) (0 : Int))
noncomputable def C_code_of (x : Int) : Option (Said) := F_code_of x

/- millstream/code.Kind -/
noncomputable def F_code_Kind (x0 : Int) : Option (Int) :=
 match C_code_of x0 with
 | some y1 =>
  bif x0 == (0 : Int) then
   some (y1.kind)
  else
   bif !(y1.kind == (0 : Int) && (y1.n == (0 : Int) && true)) then
    some (y1.kind)
   else
    some ((-1 : Int))
 | none => none
noncomputable def C_code_Kind (x : Int) : Option (Int) := F_code_Kind x

/- millstream/climb.look -/
noncomputable def F_climb_look (x0 : Turn) (x1 : Int) : Option (Turn) :=
 match C_code_Kind x1 with
 | some y1 =>
  bif y1 == (1 : Int) then
   some ({ x0 with th := { x0.th with phase := (6 : Int), x := x1 } })
  else
   bif y1 == (0 : Int) then
    some ({ x0 with th := { x0.th with phase := (5 : Int) } })
   else
    match C_thread_Late x0 with
    | some y2 =>
     bif y2 then
      match C_climb_over x0 with
      | some y3 =>
       some (y3)
      | none => none
     else
      some (x0)
    | none => none
 | none => none
noncomputable def C_climb_look (x : Turn × Int) : Option (Turn) := F_climb_look x.1 x.2

/- millstream/code.Joined -/
noncomputable def F_code_Joined (x0 : Int) : Option (Int) :=
 match C_code_said_word (Said.mk (2 : Int) x0) with
 | some y1 =>
  some (y1)
 | none => none
noncomputable def C_code_Joined (x : Int) : Option (Int) := F_code_Joined x

/- millstream/climb.joined -/
noncomputable def F_climb_joined (x0 : Turn) : Option (Turn) :=
 match C_climb_over { x0 with th := { x0.th with stop := x0.th.node } } with
 | some y1 =>
  some (y1)
 | none => none
noncomputable def C_climb_joined (x : Turn) : Option (Turn) := F_climb_joined x

/- millstream/climb.Step -/
noncomputable def F_climb_Step (x0 : Turn) : Option (Turn × Bool) :=
 match C_arena_Node (x0.c, x0.th.item, x0.th.node) with
 | some y1 =>
  match C_code_First x0.t with
  | some y2 =>
   bif x0.th.phase == (4 : Int) then
    match C_wmem_Load (x0.m, y1) with
    | some y3 =>
     bif y3.snd != (0 : Int) then
      some ((x0, true))
     else
      match C_climb_look (x0, y3.fst) with
      | some y4 =>
       some ((y4, true))
      | none => none
    | none => none
   else
    bif x0.th.phase == (6 : Int) then
     match C_code_Joined x0.t with
     | some y3 =>
      match C_wmem_Cas (x0.m, y1, x0.th.x, y3) with
      | some y4 =>
       bif y4.snd.snd != (0 : Int) then
        some ((x0, true))
       else
        bif y4.snd.fst then
         match C_climb_joined { x0 with m := y4.fst, th := { x0.th with phase := (4 : Int) } } with
         | some y5 =>
          some ((y5, true))
         | none => none
        else
         some (({ x0 with m := y4.fst, th := { x0.th with phase := (4 : Int) } }, true))
      | none => none
     | none => none
    else
     bif x0.th.phase == (5 : Int) then
      match C_wmem_Cas (x0.m, y1, (0 : Int), y2) with
      | some y3 =>
       bif y3.snd.snd != (0 : Int) then
        some ((x0, true))
       else
        bif y3.snd.fst then
         match C_climb_taken { x0 with m := y3.fst, th := { x0.th with phase := (4 : Int) } } with
         | some y4 =>
          some ((y4, true))
         | none => none
        else
         some (({ x0 with m := y3.fst, th := { x0.th with phase := (4 : Int) } }, true))
      | none => none
     else
      some ((x0, false))
  | none => none
 | none => none
noncomputable def C_climb_Step (x : Turn) : Option (Turn × Bool) := F_climb_Step x

/- millstream/gather.held -/
noncomputable def F_gather_held (x0 : Turn) : Option (Int) :=
 bif decide (x0.th.at_ < (0 : Int)) then
  some ((-1 : Int))
 else
  bif decide (x0.th.at_ ≥ (↑x0.th.held.length : Int)) then
   some ((-1 : Int))
  else
   bif decide ((0 : Int) ≤ x0.th.at_) then
    bif decide (x0.th.at_ < (↑x0.th.held.length : Int)) then
     match C_arena_Node (x0.c, x0.th.item, x0.th.held.getD x0.th.at_.toNat (0 : Int)) with
     | some y1 =>
      some (y1)
     | none => none
    else
     none
   else
    none
noncomputable def C_gather_held (x : Turn) : Option (Int) := F_gather_held x

/- millstream/code.Who -/
noncomputable def F_code_Who (x0 : Int) : Option (Int) :=
 match C_code_of x0 with
 | some y1 =>
  bif decide (y1.kind ≥ (1 : Int)) then
   bif decide (y1.kind ≤ (3 : Int)) then
    some (y1.n)
   else
    some ((-1 : Int))
  else
   some ((-1 : Int))
 | none => none
noncomputable def C_code_Who (x : Int) : Option (Int) := F_code_Who x

/- millstream/gather.look -/
noncomputable def F_gather_look (x0 : Turn) : Option (Turn) :=
 match C_gather_held x0 with
 | some y1 =>
  match C_wmem_Load (x0.m, y1) with
  | some y2 =>
   bif y2.snd != (0 : Int) then
    some (x0)
   else
    match C_code_First x0.t with
    | some y3 =>
     bif y2.fst == y3 then
      some ({ x0 with th := { x0.th with phase := (8 : Int) } })
     else
      match C_code_Kind y2.fst with
      | some y4 =>
       bif y4 == (3 : Int) then
        match C_code_Who y2.fst with
        | some y5 =>
         some ({ x0 with th := { x0.th with phase := (9 : Int), who := y5 } })
        | none => none
       else
        some (x0)
      | none => none
    | none => none
  | none => none
 | none => none
noncomputable def C_gather_look (x : Turn) : Option (Turn) := F_gather_look x

/- millstream/gather.next -/
noncomputable def F_gather_next (x0 : Turn) : Option (Turn) :=
 match C_climb_Down { x0 with th := { x0.th with at_ := wrapA IntKind.i64 (x0.th.at_ + (1 : Int)) } } with
 | some y1 =>
  some (y1)
 | none => none
noncomputable def C_gather_next (x : Turn) : Option (Turn) := F_gather_next x

/- millstream/gather.shut -/
noncomputable def F_gather_shut (x0 : Turn) : Option (Turn) :=
 match C_gather_held x0 with
 | some y1 =>
  match C_code_First x0.t with
  | some y2 =>
   match C_wmem_Cas (x0.m, y1, y2, (0 : Int)) with
   | some y3 =>
    bif !y3.snd.fst then
     bif y3.snd.snd != (0 : Int) then
      some (x0)
     else
      some ({ x0 with m := y3.fst, th := { x0.th with phase := (7 : Int) } })
    else
     bif y3.snd.snd != (0 : Int) then
      some (x0)
     else
      match C_gather_next { x0 with m := y3.fst } with
      | some y4 =>
       some (y4)
      | none => none
   | none => none
  | none => none
 | none => none
noncomputable def C_gather_shut (x : Turn) : Option (Turn) := F_gather_shut x

/- slices.Clone[[]millstream/batch.Entry,millstream/batch.Entry] -/
noncomputable def F_slices_Clone_batch_Entry (x0 : List Entry) : Option ((List Entry)) :=
 bif fewB ((0 : Nat) + x0.length) then
  some (x0)
 else
  none
noncomputable def C_slices_Clone_batch_Entry (x : (List Entry)) : Option ((List Entry)) := F_slices_Clone_batch_Entry x

/- millstream/wmem.at[[]millstream/batch.Entry] -/
noncomputable def F_wmem_at_lbatch_Entry (x0 : List (List Entry)) (x1 : Int) : Option ((List Entry) × Int) :=
 bif decide (x1 < (0 : Int)) then
  some ((([] : List Entry), (30 : Int)))
 else
  bif decide (x1 ≥ (↑x0.length : Int)) then
   some ((([] : List Entry), (30 : Int)))
  else
   bif decide ((0 : Int) ≤ x1) then
    bif decide (x1 < (↑x0.length : Int)) then
     some ((x0.getD x1.toNat ([] : List Entry), (0 : Int)))
    else
     none
   else
    none
noncomputable def C_wmem_at_lbatch_Entry (x : (List (List Entry)) × Int) : Option ((List Entry) × Int) := F_wmem_at_lbatch_Entry x.1 x.2

/- millstream/wmem.Box -/
noncomputable def F_wmem_Box (x0 : Memo) (x1 : Int) : Option ((List Entry) × Int) :=
 match C_wmem_at_lbatch_Entry (x0.boxes, x1) with
 | some y1 =>
  match C_slices_Clone_batch_Entry y1.fst with
  | some y2 =>
   some ((y2, y1.snd))
  | none => none
 | none => none
noncomputable def C_wmem_Box (x : Memo × Int) : Option ((List Entry) × Int) := F_wmem_Box x.1 x.2

/- slices.Grow[[]millstream/thread.Kid,millstream/thread.Kid] -/
noncomputable def F_slices_Grow_thread_Kid (x0 : Unit) (x1 : Int) : Option ((List Kid)) :=
 bif decide (x1 < (0 : Int)) then
  none
 else
  bif decide (wrapA IntKind.i64 (x1 - wrapA IntKind.i64 ((0 : Int) - (0 : Int))) > (0 : Int)) then
   bif decide ((0 : Int) ≤ wrapA IntKind.i64 (x1 - wrapA IntKind.i64 ((0 : Int) - (0 : Int)))) then
    bif decide (wrapA IntKind.i64 (x1 - wrapA IntKind.i64 ((0 : Int) - (0 : Int))) ≤ maxElems) then
     some (List.take (Int.toNat (0 : Int)) (List.replicate (wrapA IntKind.i64 (x1 - wrapA IntKind.i64 ((0 : Int) - (0 : Int)))).toNat (Kid.mk (0 : Int) (0 : Int))))
    else
     none
   else
    none
  else
   some (([] : List Kid))
noncomputable def C_slices_Grow_thread_Kid (x : Unit × Int) : Option ((List Kid)) := F_slices_Grow_thread_Kid x.1 x.2

/- slices.Concat[[]millstream/thread.Kid,millstream/thread.Kid] -/
noncomputable def S_slices_Concat_thread_Kid_11 (x0 : List Kid) (x1 : List (List Kid)) (x2 : Int) (x3 : Int) : Option (((List Kid) × (List (List Kid)) × Int × Int) ⊕ (((List Kid)))) :=
 bif decide (x3 < x2) then
  bif decide ((0 : Int) ≤ x3) then
   bif decide (x3 < (↑x1.length : Int)) then
    bif fewB (x0.length + List.length (x1.getD x3.toNat ([] : List Kid))) then
     some (Sum.inl (x0 ++ x1.getD x3.toNat ([] : List Kid), x1, x2, wrapA IntKind.i64 (x3 + (1 : Int))))
    else
     none
   else
    none
  else
   none
 else
  some (Sum.inr x0)
noncomputable def T_slices_Concat_thread_Kid_11 (x : (List Kid) × (List (List Kid)) × Int × Int) : Option (((List Kid) × (List (List Kid)) × Int × Int) ⊕ (((List Kid)))) := S_slices_Concat_thread_Kid_11 x.1 x.2.1 x.2.2.1 x.2.2.2
noncomputable def W_slices_Concat_thread_Kid_11 (x : (List Kid) × (List (List Kid)) × Int × Int) : Option (((List Kid))) := whileM T_slices_Concat_thread_Kid_11 x
noncomputable def S_slices_Concat_thread_Kid_3 (x0 : List (List Kid)) (x1 : Int) (x2 : List (List Kid)) (x3 : Int) (x4 : Int) : Option (((List (List Kid)) × Int × (List (List Kid)) × Int × Int) ⊕ (((List (List Kid)) × Int))) :=
 bif decide (x4 < x3) then
  bif decide ((0 : Int) ≤ x4) then
   bif decide (x4 < (↑x2.length : Int)) then
    bif decide (wrapA IntKind.i64 (x1 + (↑(List.length (x2.getD x4.toNat ([] : List Kid))) : Int)) < (0 : Int)) then
     none
    else
     some (Sum.inl (x0, wrapA IntKind.i64 (x1 + (↑(List.length (x2.getD x4.toNat ([] : List Kid))) : Int)), x2, x3, wrapA IntKind.i64 (x4 + (1 : Int))))
   else
    none
  else
   none
 else
  some (Sum.inr (x0, x1))
noncomputable def T_slices_Concat_thread_Kid_3 (x : (List (List Kid)) × Int × (List (List Kid)) × Int × Int) : Option (((List (List Kid)) × Int × (List (List Kid)) × Int × Int) ⊕ (((List (List Kid)) × Int))) := S_slices_Concat_thread_Kid_3 x.1 x.2.1 x.2.2.1 x.2.2.2.1 x.2.2.2.2
noncomputable def W_slices_Concat_thread_Kid_3 (x : (List (List Kid)) × Int × (List (List Kid)) × Int × Int) : Option (((List (List Kid)) × Int)) := whileM T_slices_Concat_thread_Kid_3 x
noncomputable def F_slices_Concat_thread_Kid (x0 : List (List Kid)) : Option ((List Kid)) :=
 match W_slices_Concat_thread_Kid_3 (x0, (0 : Int), x0, (↑x0.length : Int), (0 : Int)) with
 | some y1 =>
  match C_slices_Grow_thread_Kid ((), y1.snd) with
  | some y2 =>
   match W_slices_Concat_thread_Kid_11 (y2, y1.fst, (↑(List.length y1.fst) : Int), (0 : Int)) with
   | some y3 =>
    some (y3)
   | none => none
  | none => none
 | none => none
noncomputable def C_slices_Concat_thread_Kid (x : (List (List Kid))) : Option ((List Kid)) := F_slices_Concat_thread_Kid x

/- slices.Grow[[]millstream/batch.Entry,millstream/batch.Entry] -/
noncomputable def F_slices_Grow_batch_Entry (x0 : Unit) (x1 : Int) : Option ((List Entry)) :=
 bif decide (x1 < (0 : Int)) then
  none
 else
  bif decide (wrapA IntKind.i64 (x1 - wrapA IntKind.i64 ((0 : Int) - (0 : Int))) > (0 : Int)) then
   bif decide ((0 : Int) ≤ wrapA IntKind.i64 (x1 - wrapA IntKind.i64 ((0 : Int) - (0 : Int)))) then
    bif decide (wrapA IntKind.i64 (x1 - wrapA IntKind.i64 ((0 : Int) - (0 : Int))) ≤ maxElems) then
     some (List.take (Int.toNat (0 : Int)) (List.replicate (wrapA IntKind.i64 (x1 - wrapA IntKind.i64 ((0 : Int) - (0 : Int)))).toNat (Entry.mk (0 : Int) (Op.mk (0 : Int) (0 : Int)))))
    else
     none
   else
    none
  else
   some (([] : List Entry))
noncomputable def C_slices_Grow_batch_Entry (x : Unit × Int) : Option ((List Entry)) := F_slices_Grow_batch_Entry x.1 x.2

/- slices.Concat[[]millstream/batch.Entry,millstream/batch.Entry] -/
noncomputable def S_slices_Concat_batch_Entry_11 (x0 : List Entry) (x1 : List (List Entry)) (x2 : Int) (x3 : Int) : Option (((List Entry) × (List (List Entry)) × Int × Int) ⊕ (((List Entry)))) :=
 bif decide (x3 < x2) then
  bif decide ((0 : Int) ≤ x3) then
   bif decide (x3 < (↑x1.length : Int)) then
    bif fewB (x0.length + List.length (x1.getD x3.toNat ([] : List Entry))) then
     some (Sum.inl (x0 ++ x1.getD x3.toNat ([] : List Entry), x1, x2, wrapA IntKind.i64 (x3 + (1 : Int))))
    else
     none
   else
    none
  else
   none
 else
  some (Sum.inr x0)
noncomputable def T_slices_Concat_batch_Entry_11 (x : (List Entry) × (List (List Entry)) × Int × Int) : Option (((List Entry) × (List (List Entry)) × Int × Int) ⊕ (((List Entry)))) := S_slices_Concat_batch_Entry_11 x.1 x.2.1 x.2.2.1 x.2.2.2
noncomputable def W_slices_Concat_batch_Entry_11 (x : (List Entry) × (List (List Entry)) × Int × Int) : Option (((List Entry))) := whileM T_slices_Concat_batch_Entry_11 x
noncomputable def S_slices_Concat_batch_Entry_3 (x0 : List (List Entry)) (x1 : Int) (x2 : List (List Entry)) (x3 : Int) (x4 : Int) : Option (((List (List Entry)) × Int × (List (List Entry)) × Int × Int) ⊕ (((List (List Entry)) × Int))) :=
 bif decide (x4 < x3) then
  bif decide ((0 : Int) ≤ x4) then
   bif decide (x4 < (↑x2.length : Int)) then
    bif decide (wrapA IntKind.i64 (x1 + (↑(List.length (x2.getD x4.toNat ([] : List Entry))) : Int)) < (0 : Int)) then
     none
    else
     some (Sum.inl (x0, wrapA IntKind.i64 (x1 + (↑(List.length (x2.getD x4.toNat ([] : List Entry))) : Int)), x2, x3, wrapA IntKind.i64 (x4 + (1 : Int))))
   else
    none
  else
   none
 else
  some (Sum.inr (x0, x1))
noncomputable def T_slices_Concat_batch_Entry_3 (x : (List (List Entry)) × Int × (List (List Entry)) × Int × Int) : Option (((List (List Entry)) × Int × (List (List Entry)) × Int × Int) ⊕ (((List (List Entry)) × Int))) := S_slices_Concat_batch_Entry_3 x.1 x.2.1 x.2.2.1 x.2.2.2.1 x.2.2.2.2
noncomputable def W_slices_Concat_batch_Entry_3 (x : (List (List Entry)) × Int × (List (List Entry)) × Int × Int) : Option (((List (List Entry)) × Int)) := whileM T_slices_Concat_batch_Entry_3 x
noncomputable def F_slices_Concat_batch_Entry (x0 : List (List Entry)) : Option ((List Entry)) :=
 match W_slices_Concat_batch_Entry_3 (x0, (0 : Int), x0, (↑x0.length : Int), (0 : Int)) with
 | some y1 =>
  match C_slices_Grow_batch_Entry ((), y1.snd) with
  | some y2 =>
   match W_slices_Concat_batch_Entry_11 (y2, y1.fst, (↑(List.length y1.fst) : Int), (0 : Int)) with
   | some y3 =>
    some (y3)
   | none => none
  | none => none
 | none => none
noncomputable def C_slices_Concat_batch_Entry (x : (List (List Entry))) : Option ((List Entry)) := F_slices_Concat_batch_Entry x

/- millstream/batch.Join -/
noncomputable def F_batch_Join (x0 : List (List Entry)) : Option ((List Entry)) :=
 match C_slices_Concat_batch_Entry x0 with
 | some y1 =>
  some (y1)
 | none => none
noncomputable def C_batch_Join (x : (List (List Entry))) : Option ((List Entry)) := F_batch_Join x

/- millstream/gather.Take -/
noncomputable def F_gather_Take (x0 : Turn) (x1 : Int) (x2 : List Entry) : Option (Turn) :=
 match C_slices_Concat_thread_Kid (x0.th.kids :: (Kid.mk x1 (↑x0.th.batch.length : Int) :: ([] : List Kid)) :: ([] : List (List Kid))) with
 | some y1 =>
  match C_batch_Join (x0.th.batch :: x2 :: ([] : List (List Entry))) with
  | some y2 =>
   some ({ x0 with th := { x0.th with batch := y2, kids := y1 } })
  | none => none
 | none => none
noncomputable def C_gather_Take (x : Turn × Int × (List Entry)) : Option (Turn) := F_gather_Take x.1 x.2.1 x.2.2

/- millstream/gather.collect -/
noncomputable def F_gather_collect (x0 : Turn) : Option (Turn) :=
 match C_wmem_Box (x0.m, x0.th.who) with
 | some y1 =>
  bif y1.snd != (0 : Int) then
   some (x0)
  else
   match C_gather_Take (x0, x0.th.who, y1.fst) with
   | some y2 =>
    some ({ y2 with th := { y2.th with phase := (10 : Int) } })
   | none => none
 | none => none
noncomputable def C_gather_collect (x : Turn) : Option (Turn) := F_gather_collect x

/- millstream/gather.free -/
noncomputable def F_gather_free (x0 : Turn) : Option (Turn) :=
 match C_gather_held x0 with
 | some y1 =>
  match C_wmem_Store (x0.m, y1, (0 : Int)) with
  | some y2 =>
   bif y2.snd != (0 : Int) then
    some (x0)
   else
    match C_gather_next { x0 with m := y2.fst } with
    | some y3 =>
     some (y3)
    | none => none
  | none => none
 | none => none
noncomputable def C_gather_free (x : Turn) : Option (Turn) := F_gather_free x

/- slices.Clone[[][]millstream/batch.Entry,[]millstream/batch.Entry] -/
noncomputable def F_slices_Clone_lbatch_Entry (x0 : List (List Entry)) : Option ((List (List Entry))) :=
 bif fewB ((0 : Nat) + x0.length) then
  some (x0)
 else
  none
noncomputable def C_slices_Clone_lbatch_Entry (x : (List (List Entry))) : Option ((List (List Entry))) := F_slices_Clone_lbatch_Entry x

/- millstream/wmem.Put -/
noncomputable def F_wmem_Put (x0 : Memo) (x1 : Int) (x2 : List Entry) : Option (Memo × Int) :=
 match C_wmem_at_lbatch_Entry (x0.boxes, x1) with
 | some y1 =>
  bif y1.snd != (0 : Int) then
   some ((x0, y1.snd))
  else
   match C_slices_Clone_lbatch_Entry x0.boxes with
   | some y2 =>
    match C_slices_Clone_batch_Entry x2 with
    | some y3 =>
     bif decide ((0 : Int) ≤ x1) then
      bif decide (x1 < (↑(List.length y2) : Int)) then
       some (({ x0 with boxes := List.set y2 x1.toNat y3 }, (0 : Int)))
      else
       none
     else
      none
    | none => none
   | none => none
 | none => none
noncomputable def C_wmem_Put (x : Memo × Int × (List Entry)) : Option (Memo × Int) := F_wmem_Put x.1 x.2.1 x.2.2

/- millstream/gather.publish -/
noncomputable def F_gather_publish (x0 : Turn) : Option (Turn) :=
 match C_wmem_Put (x0.m, x0.t, x0.th.batch) with
 | some y1 =>
  bif y1.snd != (0 : Int) then
   some (x0)
  else
   some ({ x0 with m := y1.fst, th := { x0.th with phase := (12 : Int) } })
 | none => none
noncomputable def C_gather_publish (x : Turn) : Option (Turn) := F_gather_publish x

/- millstream/code.Deposited -/
noncomputable def F_code_Deposited (x0 : Int) : Option (Int) :=
 match C_code_said_word (Said.mk (3 : Int) x0) with
 | some y1 =>
  some (y1)
 | none => none
noncomputable def C_code_Deposited (x : Int) : Option (Int) := F_code_Deposited x

/- millstream/gather.deposit -/
noncomputable def F_gather_deposit (x0 : Turn) : Option (Turn) :=
 match C_arena_Node (x0.c, x0.th.item, x0.th.stop) with
 | some y1 =>
  match C_code_Deposited x0.t with
  | some y2 =>
   match C_wmem_Store (x0.m, y1, y2) with
   | some y3 =>
    bif y3.snd != (0 : Int) then
     some (x0)
    else
     some ({ x0 with m := y3.fst, th := { x0.th with phase := (13 : Int) } })
   | none => none
  | none => none
 | none => none
noncomputable def C_gather_deposit (x : Turn) : Option (Turn) := F_gather_deposit x

/- millstream/gather.Step -/
noncomputable def F_gather_Step (x0 : Turn) : Option (Turn × Bool) :=
 bif x0.th.phase == (7 : Int) then
  match C_gather_look x0 with
  | some y1 =>
   some ((y1, true))
  | none => none
 else
  bif x0.th.phase == (8 : Int) then
   match C_gather_shut x0 with
   | some y1 =>
    some ((y1, true))
   | none => none
  else
   bif x0.th.phase == (9 : Int) then
    match C_gather_collect x0 with
    | some y1 =>
     some ((y1, true))
    | none => none
   else
    bif x0.th.phase == (10 : Int) then
     match C_gather_free x0 with
     | some y1 =>
      some ((y1, true))
     | none => none
    else
     bif x0.th.phase == (11 : Int) then
      match C_gather_publish x0 with
      | some y1 =>
       some ((y1, true))
      | none => none
     else
      bif x0.th.phase == (12 : Int) then
       match C_gather_deposit x0 with
       | some y1 =>
        some ((y1, true))
       | none => none
      else
       some ((x0, false))
noncomputable def C_gather_Step (x : Turn) : Option (Turn × Bool) := F_gather_Step x

/- millstream/config.Check -/
noncomputable def S_config_Check_2 (x0 : Config) (x1 : Int × Int × Int × Int × Int × Int × Int × Int × Int × Int × Int × Int × Int × Int × Int × Int × Int × Int × Int × Int × Int × Int × Int × Int) (x2 : Int) : Option ((Config × (Int × Int × Int × Int × Int × Int × Int × Int × Int × Int × Int × Int × Int × Int × Int × Int × Int × Int × Int × Int × Int × Int × Int × Int) × Int) ⊕ ((Config) ⊕ (Int))) :=
 bif decide (x2 < (8 : Int)) then
  bif decide ((0 : Int) ≤ x2) then
   bif decide (x2 < (↑(8 : Nat) : Int)) then
    bif decide (x2 = (↑(0 : Nat) : Int)) then
     bif decide (x1.fst < x1.snd.fst) then
      some (Sum.inr (Sum.inr (wrapA IntKind.i64 ((50 : Int) + x2))))
     else
      bif decide (x1.fst > x1.snd.snd.fst) then
       some (Sum.inr (Sum.inr (wrapA IntKind.i64 ((50 : Int) + x2))))
      else
       some (Sum.inl (x0, x1, wrapA IntKind.i64 (x2 + (1 : Int))))
    else
     bif decide (x2 = (↑((0 : Nat) + (1 : Nat)) : Int)) then
      bif decide (x1.snd.snd.snd.fst < x1.snd.snd.snd.snd.fst) then
       some (Sum.inr (Sum.inr (wrapA IntKind.i64 ((50 : Int) + x2))))
      else
       bif decide (x1.snd.snd.snd.fst > x1.snd.snd.snd.snd.snd.fst) then
        some (Sum.inr (Sum.inr (wrapA IntKind.i64 ((50 : Int) + x2))))
       else
        some (Sum.inl (x0, x1, wrapA IntKind.i64 (x2 + (1 : Int))))
     else
      bif decide (x2 = (↑((0 : Nat) + (1 : Nat) + (1 : Nat)) : Int)) then
       bif decide (x1.snd.snd.snd.snd.snd.snd.fst < x1.snd.snd.snd.snd.snd.snd.snd.fst) then
        some (Sum.inr (Sum.inr (wrapA IntKind.i64 ((50 : Int) + x2))))
       else
        bif decide (x1.snd.snd.snd.snd.snd.snd.fst > x1.snd.snd.snd.snd.snd.snd.snd.snd.fst) then
         some (Sum.inr (Sum.inr (wrapA IntKind.i64 ((50 : Int) + x2))))
        else
         some (Sum.inl (x0, x1, wrapA IntKind.i64 (x2 + (1 : Int))))
      else
       bif decide (x2 = (↑((0 : Nat) + (1 : Nat) + (1 : Nat) + (1 : Nat)) : Int)) then
        bif decide (x1.snd.snd.snd.snd.snd.snd.snd.snd.snd.fst < x1.snd.snd.snd.snd.snd.snd.snd.snd.snd.snd.fst) then
         some (Sum.inr (Sum.inr (wrapA IntKind.i64 ((50 : Int) + x2))))
        else
         bif decide (x1.snd.snd.snd.snd.snd.snd.snd.snd.snd.fst > x1.snd.snd.snd.snd.snd.snd.snd.snd.snd.snd.snd.fst) then
          some (Sum.inr (Sum.inr (wrapA IntKind.i64 ((50 : Int) + x2))))
         else
          some (Sum.inl (x0, x1, wrapA IntKind.i64 (x2 + (1 : Int))))
       else
        bif decide (x2 = (↑((0 : Nat) + (1 : Nat) + (1 : Nat) + (1 : Nat) + (1 : Nat)) : Int)) then
         bif decide (x1.snd.snd.snd.snd.snd.snd.snd.snd.snd.snd.snd.snd.fst < x1.snd.snd.snd.snd.snd.snd.snd.snd.snd.snd.snd.snd.snd.fst) then
          some (Sum.inr (Sum.inr (wrapA IntKind.i64 ((50 : Int) + x2))))
         else
          bif decide (x1.snd.snd.snd.snd.snd.snd.snd.snd.snd.snd.snd.snd.fst > x1.snd.snd.snd.snd.snd.snd.snd.snd.snd.snd.snd.snd.snd.snd.fst) then
           some (Sum.inr (Sum.inr (wrapA IntKind.i64 ((50 : Int) + x2))))
          else
           some (Sum.inl (x0, x1, wrapA IntKind.i64 (x2 + (1 : Int))))
        else
         bif decide (x2 = (↑((0 : Nat) + (1 : Nat) + (1 : Nat) + (1 : Nat) + (1 : Nat) + (1 : Nat)) : Int)) then
          bif decide (x1.snd.snd.snd.snd.snd.snd.snd.snd.snd.snd.snd.snd.snd.snd.snd.fst < x1.snd.snd.snd.snd.snd.snd.snd.snd.snd.snd.snd.snd.snd.snd.snd.snd.fst) then
           some (Sum.inr (Sum.inr (wrapA IntKind.i64 ((50 : Int) + x2))))
          else
           bif decide (x1.snd.snd.snd.snd.snd.snd.snd.snd.snd.snd.snd.snd.snd.snd.snd.fst > x1.snd.snd.snd.snd.snd.snd.snd.snd.snd.snd.snd.snd.snd.snd.snd.snd.snd.fst) then
            some (Sum.inr (Sum.inr (wrapA IntKind.i64 ((50 : Int) + x2))))
           else
            some (Sum.inl (x0, x1, wrapA IntKind.i64 (x2 + (1 : Int))))
         else
          bif decide (x2 = (↑((0 : Nat) + (1 : Nat) + (1 : Nat) + (1 : Nat) + (1 : Nat) + (1 : Nat) + (1 : Nat)) : Int)) then
           bif decide (x1.snd.snd.snd.snd.snd.snd.snd.snd.snd.snd.snd.snd.snd.snd.snd.snd.snd.snd.fst < x1.snd.snd.snd.snd.snd.snd.snd.snd.snd.snd.snd.snd.snd.snd.snd.snd.snd.snd.snd.fst) then
            some (Sum.inr (Sum.inr (wrapA IntKind.i64 ((50 : Int) + x2))))
           else
            bif decide (x1.snd.snd.snd.snd.snd.snd.snd.snd.snd.snd.snd.snd.snd.snd.snd.snd.snd.snd.fst > x1.snd.snd.snd.snd.snd.snd.snd.snd.snd.snd.snd.snd.snd.snd.snd.snd.snd.snd.snd.snd.fst) then
             some (Sum.inr (Sum.inr (wrapA IntKind.i64 ((50 : Int) + x2))))
            else
             some (Sum.inl (x0, x1, wrapA IntKind.i64 (x2 + (1 : Int))))
          else
           bif decide (x2 = (↑((0 : Nat) + (1 : Nat) + (1 : Nat) + (1 : Nat) + (1 : Nat) + (1 : Nat) + (1 : Nat) + (1 : Nat)) : Int)) then
            bif decide (x1.snd.snd.snd.snd.snd.snd.snd.snd.snd.snd.snd.snd.snd.snd.snd.snd.snd.snd.snd.snd.snd.fst < x1.snd.snd.snd.snd.snd.snd.snd.snd.snd.snd.snd.snd.snd.snd.snd.snd.snd.snd.snd.snd.snd.snd.fst) then
             some (Sum.inr (Sum.inr (wrapA IntKind.i64 ((50 : Int) + x2))))
            else
             bif decide (x1.snd.snd.snd.snd.snd.snd.snd.snd.snd.snd.snd.snd.snd.snd.snd.snd.snd.snd.snd.snd.snd.fst > x1.snd.snd.snd.snd.snd.snd.snd.snd.snd.snd.snd.snd.snd.snd.snd.snd.snd.snd.snd.snd.snd.snd.snd) then
              some (Sum.inr (Sum.inr (wrapA IntKind.i64 ((50 : Int) + x2))))
             else
              some (Sum.inl (x0, x1, wrapA IntKind.i64 (x2 + (1 : Int))))
           else
            none
   else
    none
  else
   none
 else
  some (Sum.inr (Sum.inl x0))
noncomputable def T_config_Check_2 (x : Config × (Int × Int × Int × Int × Int × Int × Int × Int × Int × Int × Int × Int × Int × Int × Int × Int × Int × Int × Int × Int × Int × Int × Int × Int) × Int) : Option ((Config × (Int × Int × Int × Int × Int × Int × Int × Int × Int × Int × Int × Int × Int × Int × Int × Int × Int × Int × Int × Int × Int × Int × Int × Int) × Int) ⊕ ((Config) ⊕ (Int))) := S_config_Check_2 x.1 x.2.1 x.2.2
noncomputable def W_config_Check_2 (x : Config × (Int × Int × Int × Int × Int × Int × Int × Int × Int × Int × Int × Int × Int × Int × Int × Int × Int × Int × Int × Int × Int × Int × Int × Int) × Int) : Option ((Config) ⊕ (Int)) := whileM T_config_Check_2 x
noncomputable def F_config_Check (x0 : Config) : Option (Int) :=
 match W_config_Check_2 (x0, (x0.threads, (1 : Int), (16 : Int), x0.items, (1 : Int), (4 : Int), x0.backend, (1 : Int), (3 : Int), x0.depth, (0 : Int), (4 : Int), x0.layers, (0 : Int), (3 : Int), x0.width, (1 : Int), (8 : Int), x0.spin, (0 : Int), (20 : Int), x0.wait, (0 : Int), (1000 : Int)), (0 : Int)) with
 | some (.inl y1) =>
  bif y1.bounded then
   bif decide (y1.init < y1.lo) then
    some ((58 : Int))
   else
    bif decide (y1.hi < y1.init) then
     some ((58 : Int))
    else
     some ((0 : Int))
  else
   some ((0 : Int))
 | some (.inr y2) =>
  some (y2)
 | none => none
noncomputable def C_config_Check (x : Config) : Option (Int) := F_config_Check x

/- millstream/script.within -/
noncomputable def F_script_within (x0 : Int) (x1 : Int) : Option (Bool) :=
 bif decide ((0 : Int) ≤ x0) then
  some (decide (x0 < x1))
 else
  some (false)
noncomputable def C_script_within (x : Int × Int) : Option (Bool) := F_script_within x.1 x.2

/- millstream/oper.Known -/
noncomputable def F_oper_Known (x0 : Int) : Option (Bool) :=
 bif decide ((1 : Int) ≤ x0) then
  some (decide (x0 ≤ (9 : Int)))
 else
  some (false)
noncomputable def C_oper_Known (x : Int) : Option (Bool) := F_oper_Known x

/- millstream/oper.May -/
noncomputable def F_oper_May (x0 : Op) (x1 : Bool) : Option (Bool) :=
 bif !x1 then
  match C_oper_Known x0.tag with
  | some y1 =>
   bif y1 then
    some (decide (x0.tag < (8 : Int)))
   else
    some (false)
  | none => none
 else
  bif x0.tag == (9 : Int) then
   some (decide (x0.v ≥ (0 : Int)))
  else
   some (x0.tag == (8 : Int))
noncomputable def C_oper_May (x : Op × Bool) : Option (Bool) := F_oper_May x.1 x.2

/- millstream/script.Check -/
noncomputable def F_script_Check (x0 : Config) (x1 : SEntry) : Option (Int) :=
 bif x1.kind == (1 : Int) then
  bif x1.kind == (1 : Int) then
   match C_script_within (x1.t, x0.threads) with
   | some y1 =>
    bif !y1 then
     some ((91 : Int))
    else
     bif x1.kind == (2 : Int) then
      some ((0 : Int))
     else
      match C_script_within (x1.item, x0.items) with
      | some y2 =>
       bif !y2 then
        some ((92 : Int))
       else
        match C_oper_May (x1.op, x0.bounded) with
        | some y3 =>
         bif !y3 then
          some ((93 : Int))
         else
          some ((0 : Int))
        | none => none
      | none => none
   | none => none
  else
   bif x1.kind == (3 : Int) then
    some ((0 : Int))
   else
    some ((90 : Int))
 else
  bif x1.kind == (2 : Int) then
   match C_script_within (x1.t, x0.threads) with
   | some y1 =>
    bif !y1 then
     some ((91 : Int))
    else
     bif x1.kind == (2 : Int) then
      some ((0 : Int))
     else
      match C_script_within (x1.item, x0.items) with
      | some y2 =>
       bif !y2 then
        some ((92 : Int))
       else
        match C_oper_May (x1.op, x0.bounded) with
        | some y3 =>
         bif !y3 then
          some ((93 : Int))
         else
          some ((0 : Int))
        | none => none
      | none => none
   | none => none
  else
   bif x1.kind == (3 : Int) then
    some ((0 : Int))
   else
    some ((90 : Int))
noncomputable def C_script_Check (x : Config × SEntry) : Option (Int) := F_script_Check x.1 x.2

/- millstream/script.All -/
noncomputable def S_script_All_7 (x0 : Config) (x1 : List SEntry) (x2 : Int) (x3 : Int) : Option ((Config × (List SEntry) × Int × Int) ⊕ ((Unit) ⊕ (Int × Int))) :=
 bif decide (x3 < x2) then
  bif decide ((0 : Int) ≤ x3) then
   bif decide (x3 < (↑x1.length : Int)) then
    match C_script_Check (x0, x1.getD x3.toNat dSEntry) with
    | some y1 =>
     bif y1 != (0 : Int) then
      some (Sum.inr (Sum.inr (x3, y1)))
     else
      some (Sum.inl (x0, x1, x2, wrapA IntKind.i64 (x3 + (1 : Int))))
    | none => none
   else
    none
  else
   none
 else
  some (Sum.inr (Sum.inl ()))
noncomputable def T_script_All_7 (x : Config × (List SEntry) × Int × Int) : Option ((Config × (List SEntry) × Int × Int) ⊕ ((Unit) ⊕ (Int × Int))) := S_script_All_7 x.1 x.2.1 x.2.2.1 x.2.2.2
noncomputable def W_script_All_7 (x : Config × (List SEntry) × Int × Int) : Option ((Unit) ⊕ (Int × Int)) := whileM T_script_All_7 x
noncomputable def F_script_All (x0 : Config) (x1 : List SEntry) : Option (Int × Int) :=
 match C_config_Check x0 with
 | some y1 =>
  bif y1 != (0 : Int) then
   some (((0 : Int), y1))
  else
   bif decide ((↑x1.length : Int) > (65536 : Int)) then
    some (((0 : Int), (2 : Int)))
   else
    match W_script_All_7 (x0, x1, (↑x1.length : Int), (0 : Int)) with
    | some (.inl y2) =>
     some (((0 : Int), (0 : Int)))
    | some (.inr y3) =>
     some (y3)
    | none => none
 | none => none
noncomputable def C_script_All (x : Config × (List SEntry)) : Option (Int × Int) := F_script_All x.1 x.2

/- millstream/commit.Onward -/
noncomputable def F_commit_Onward (x0 : Turn) : Option (Turn) :=
 bif decide (x0.th.layer < x0.c.layers) then
  match C_thread_Late { x0 with th := { x0.th with phase := (2 : Int) } } with
  | some y1 =>
   bif !y1 then
    some ({ x0 with th := { x0.th with phase := (17 : Int), layer := wrapA IntKind.i64 (x0.th.layer + (1 : Int)) } })
   else
    some ({ x0 with th := { x0.th with phase := (2 : Int) } })
  | none => none
 else
  some ({ x0 with th := { x0.th with phase := (2 : Int) } })
noncomputable def C_commit_Onward (x : Turn) : Option (Turn) := F_commit_Onward x

/- millstream/code.Open -/
noncomputable def F_code_Open (x0 : Int) (x1 : Int) : Option (Int) :=
 match C_code_said_word (Said.mk (4 : Int) (wrapA IntKind.i64 (wrapA IntKind.i64 (x0 * (2 : Int) ^ min (Int.toNat (4 : Int)) IntKind.i64.bits) + x1))) with
 | some y1 =>
  some (y1)
 | none => none
noncomputable def C_code_Open (x : Int × Int) : Option (Int) := F_code_Open x.1 x.2

/- (*millstream/collide.diver).line -/
noncomputable def F_collide_diver_line (x0 : Turn × Int) (x1 : Int) : Option (Int) :=
 match C_arena_Line (x0.fst.c, x1) with
 | some y1 =>
  some (y1)
 | none => none
noncomputable def C_collide_diver_line (x : (Turn × Int) × Int) : Option (Int) := F_collide_diver_line x.1 x.2

/- math/bits.Mul64 -/
noncomputable def F_math_bits_Mul64 (x0 : Int) (x1 : Int) : Option (Int × Int) :=
 some ((wrapA IntKind.u64 (wrapA IntKind.u64 (wrapA IntKind.u64 (x0.fdiv ((2 : Int) ^ min (Int.toNat (32 : Int)) IntKind.u64.bits) * x1.fdiv ((2 : Int) ^ min (Int.toNat (32 : Int)) IntKind.u64.bits)) + (wrapA IntKind.u64 (wrapA IntKind.u64 (x0.fdiv ((2 : Int) ^ min (Int.toNat (32 : Int)) IntKind.u64.bits) * wrapA IntKind.u64 (↑(BitVec.ofInt IntKind.u64.bits x1 &&& BitVec.ofInt IntKind.u64.bits (4294967295 : Int)).toNat : Int)) + (wrapA IntKind.u64 (wrapA IntKind.u64 (↑(BitVec.ofInt IntKind.u64.bits x0 &&& BitVec.ofInt IntKind.u64.bits (4294967295 : Int)).toNat : Int) * wrapA IntKind.u64 (↑(BitVec.ofInt IntKind.u64.bits x1 &&& BitVec.ofInt IntKind.u64.bits (4294967295 : Int)).toNat : Int))).fdiv ((2 : Int) ^ min (Int.toNat (32 : Int)) IntKind.u64.bits))).fdiv ((2 : Int) ^ min (Int.toNat (32 : Int)) IntKind.u64.bits)) + (wrapA IntKind.u64 (wrapA IntKind.u64 (↑(BitVec.ofInt IntKind.u64.bits (wrapA IntKind.u64 (wrapA IntKind.u64 (x0.fdiv ((2 : Int) ^ min (Int.toNat (32 : Int)) IntKind.u64.bits) * wrapA IntKind.u64 (↑(BitVec.ofInt IntKind.u64.bits x1 &&& BitVec.ofInt IntKind.u64.bits (4294967295 : Int)).toNat : Int)) + (wrapA IntKind.u64 (wrapA IntKind.u64 (↑(BitVec.ofInt IntKind.u64.bits x0 &&& BitVec.ofInt IntKind.u64.bits (4294967295 : Int)).toNat : Int) * wrapA IntKind.u64 (↑(BitVec.ofInt IntKind.u64.bits x1 &&& BitVec.ofInt IntKind.u64.bits (4294967295 : Int)).toNat : Int))).fdiv ((2 : Int) ^ min (Int.toNat (32 : Int)) IntKind.u64.bits))) &&& BitVec.ofInt IntKind.u64.bits (4294967295 : Int)).toNat : Int) + wrapA IntKind.u64 (wrapA IntKind.u64 (↑(BitVec.ofInt IntKind.u64.bits x0 &&& BitVec.ofInt IntKind.u64.bits (4294967295 : Int)).toNat : Int) * x1.fdiv ((2 : Int) ^ min (Int.toNat (32 : Int)) IntKind.u64.bits)))).fdiv ((2 : Int) ^ min (Int.toNat (32 : Int)) IntKind.u64.bits)), wrapA IntKind.u64 (x0 * x1)))
noncomputable def C_math_bits_Mul64 (x : Int × Int) : Option (Int × Int) := F_math_bits_Mul64 x.1 x.2

/- math/bits.Mul -/
noncomputable def F_math_bits_Mul (x0 : Int) (x1 : Int) : Option (Int × Int) :=
 match C_math_bits_Mul64 (x0, x1) with
 | some y1 =>
  some (y1)
 | none => none
noncomputable def C_math_bits_Mul (x : Int × Int) : Option (Int × Int) := F_math_bits_Mul x.1 x.2

/- slices.Clone[[]millstream/thread.Thread,millstream/thread.Thread] -/
noncomputable def F_slices_Clone_thread_Thread (x0 : List Thread) : Option ((List Thread)) :=
 bif fewB ((0 : Nat) + x0.length) then
  some (x0)
 else
  none
noncomputable def C_slices_Clone_thread_Thread (x : (List Thread)) : Option ((List Thread)) := F_slices_Clone_thread_Thread x

/- slices.Clone[[]millstream/thread.Mark,millstream/thread.Mark] -/
noncomputable def F_slices_Clone_thread_Mark (x0 : List Mark) : Option ((List Mark)) :=
 bif fewB ((0 : Nat) + x0.length) then
  some (x0)
 else
  none
noncomputable def C_slices_Clone_thread_Mark (x : (List Mark)) : Option ((List Mark)) := F_slices_Clone_thread_Mark x

/- slices.Clone[[]millstream/world.Event,millstream/world.Event] -/
noncomputable def F_slices_Clone_world_Event (x0 : List Event) : Option ((List Event)) :=
 bif fewB ((0 : Nat) + x0.length) then
  some (x0)
 else
  none
noncomputable def C_slices_Clone_world_Event (x : (List Event)) : Option ((List Event)) := F_slices_Clone_world_Event x

/- millstream/code.Told -/
noncomputable def F_code_Told : Option (Int) :=
 match C_code_said_word (Said.mk (5 : Int) (-1 : Int)) with
 | some y1 =>
  some (y1)
 | none => none
noncomputable def C_code_Told (x : Unit) : Option (Int) := F_code_Told

/- millstream/arena.Result -/
noncomputable def F_arena_Result (x0 : Config) (x1 : Int) : Option (Int) :=
 bif decide (x1 < (0 : Int)) then
  some ((-1 : Int))
 else
  bif decide (x1 ≥ x0.threads) then
   some ((-1 : Int))
  else
   match C_arena_of x0 with
   | some y1 =>
    some (wrapA IntKind.i64 (wrapA IntKind.i64 (y1.lines + wrapA IntKind.i64 ((2 : Int) * x1)) + (1 : Int)))
   | none => none
noncomputable def C_arena_Result (x : Config × Int) : Option (Int) := F_arena_Result x.1 x.2

/- millstream/share.Settle -/
noncomputable def F_share_Settle (x0 : Turn) : Option (Turn) :=
 bif decide (x0.th.at_ < (0 : Int)) then
  some ({ x0 with th := { x0.th with phase := (0 : Int) }, done := true })
 else
  bif decide (x0.th.at_ ≥ (↑x0.th.kids.length : Int)) then
   some ({ x0 with th := { x0.th with phase := (0 : Int) }, done := true })
  else
   bif decide ((0 : Int) ≤ x0.th.at_) then
    bif decide (x0.th.at_ < (↑x0.th.kids.length : Int)) then
     some ({ x0 with th := { x0.th with phase := (15 : Int) } })
    else
     none
   else
    none
noncomputable def C_share_Settle (x : Turn) : Option (Turn) := F_share_Settle x

/- millstream/batch.Upto -/
noncomputable def F_batch_Upto (x0 : List Entry) (x1 : Int) : Option ((List Entry)) :=
 bif decide ((0 : Int) ≤ if (if (↑x0.length : Int) < x1 then (↑x0.length : Int) else x1) > (0 : Int) then if (↑x0.length : Int) < x1 then (↑x0.length : Int) else x1 else (0 : Int)) then
  bif decide ((if (if (↑x0.length : Int) < x1 then (↑x0.length : Int) else x1) > (0 : Int) then if (↑x0.length : Int) < x1 then (↑x0.length : Int) else x1 else (0 : Int)) ≤ (↑x0.length : Int)) then
   match C_slices_Clone_batch_Entry (List.drop (Int.toNat (0 : Int)) (List.take (if (if (↑x0.length : Int) < x1 then (↑x0.length : Int) else x1) > (0 : Int) then if (↑x0.length : Int) < x1 then (↑x0.length : Int) else x1 else (0 : Int)).toNat x0)) with
   | some y1 =>
    some (y1)
   | none => none
  else
   none
 else
  none
noncomputable def C_batch_Upto (x : (List Entry) × Int) : Option ((List Entry)) := F_batch_Upto x.1 x.2

/- millstream/oper.beyond -/
noncomputable def F_oper_beyond (x0 : Int) (x1 : Int) (x2 : Int) (x3 : Int) : Option (Bool) :=
 bif decide (x1 ≥ (0 : Int)) then
  bif decide (wrapA IntKind.i64 (x0 + x1) ≥ x0) then
   bif decide (wrapA IntKind.i64 (x0 + x1) < x2) then
    some (true)
   else
    some (decide (wrapA IntKind.i64 (x0 + x1) > x3))
  else
   bif decide (x1 < (0 : Int)) then
    bif decide (wrapA IntKind.i64 (x0 + x1) < x0) then
     bif decide (wrapA IntKind.i64 (x0 + x1) < x2) then
      some (true)
     else
      some (decide (wrapA IntKind.i64 (x0 + x1) > x3))
    else
     some (true)
   else
    some (true)
 else
  bif decide (x1 < (0 : Int)) then
   bif decide (wrapA IntKind.i64 (x0 + x1) < x0) then
    bif decide (wrapA IntKind.i64 (x0 + x1) < x2) then
     some (true)
    else
     some (decide (wrapA IntKind.i64 (x0 + x1) > x3))
   else
    some (true)
  else
   some (true)
noncomputable def C_oper_beyond (x : Int × Int × Int × Int) : Option (Bool) := F_oper_beyond x.1 x.2.1 x.2.2.1 x.2.2.2

/- millstream/oper.Apply -/
noncomputable def F_oper_Apply (x0 : Op) (x1 : Int) (x2 : Int) (x3 : Int) : Option (Int × Bool) :=
 bif x0.tag == (2 : Int) then
  some ((wrapA IntKind.i64 (x1 + wrapA IntKind.i64 ((0 : Int) - x0.v)), true))
 else
  bif x0.tag == (1 : Int) then
   some ((wrapA IntKind.i64 (x1 + x0.v), true))
  else
   bif x0.tag == (3 : Int) then
    some ((wrapA IntKind.i64 (↑(BitVec.ofInt IntKind.i64.bits x1 ||| BitVec.ofInt IntKind.i64.bits x0.v).toNat : Int), true))
   else
    bif x0.tag == (4 : Int) then
     some ((wrapA IntKind.i64 (↑(BitVec.ofInt IntKind.i64.bits x1 &&& BitVec.ofInt IntKind.i64.bits x0.v).toNat : Int), true))
    else
     bif x0.tag == (5 : Int) then
      some ((if x1 > x0.v then x1 else x0.v, true))
     else
      bif x0.tag == (6 : Int) then
       some ((if x1 < x0.v then x1 else x0.v, true))
      else
       bif x0.tag == (7 : Int) then
        some ((x0.v, true))
       else
        bif x0.tag == (9 : Int) then
         bif decide (x0.v < (0 : Int)) then
          some ((x1, false))
         else
          bif decide (x1 < x2) then
           some ((x1, false))
          else
           bif decide (wrapA IntKind.i64 (x1 - x0.v) ≤ x1) then
            bif decide (wrapA IntKind.i64 (x1 - x0.v) ≥ x2) then
             some ((wrapA IntKind.i64 (x1 - x0.v), true))
            else
             some ((x2, true))
           else
            some ((x2, true))
        else
         bif x0.tag == (8 : Int) then
          match C_oper_beyond (x1, x0.v, x2, x3) with
          | some y1 =>
           bif !y1 then
            some ((wrapA IntKind.i64 (x1 + x0.v), true))
           else
            some ((x1, false))
          | none => none
         else
          some ((x1, false))
noncomputable def C_oper_Apply (x : Op × Int × Int × Int) : Option (Int × Bool) := F_oper_Apply x.1 x.2.1 x.2.2.1 x.2.2.2

/- millstream/wmem.Swap -/
noncomputable def F_wmem_Swap (x0 : Memo) (x1 : Int) (x2 : Int) : Option (Memo × Int × Int) :=
 match C_wmem_at_int (x0.words, x1) with
 | some y1 =>
  bif y1.snd != (0 : Int) then
   some ((x0, (0 : Int), y1.snd))
  else
   match C_slices_Clone_int x0.words with
   | some y2 =>
    bif decide ((0 : Int) ≤ x1) then
     bif decide (x1 < (↑(List.length y2) : Int)) then
      some (({ x0 with words := List.set y2 x1.toNat x2 }, y1))
     else
      none
    else
     none
   | none => none
 | none => none
noncomputable def C_wmem_Swap (x : Memo × Int × Int) : Option (Memo × Int × Int) := F_wmem_Swap x.1 x.2.1 x.2.2

/- millstream/arena.Slot -/
noncomputable def F_arena_Slot (x0 : Config) (x1 : Int) (x2 : Int) (x3 : Int) : Option (Int) :=
 bif decide (x1 < (0 : Int)) then
  some ((-1 : Int))
 else
  bif decide (x1 ≥ x0.items) then
   some ((-1 : Int))
  else
   bif decide (x2 < (1 : Int)) then
    some ((-1 : Int))
   else
    bif decide (x2 ≥ wrapA IntKind.i64 ((1 : Int) + x0.layers)) then
     some ((-1 : Int))
    else
     bif decide (x3 < (0 : Int)) then
      some ((-1 : Int))
     else
      bif decide (x3 ≥ x0.width) then
       some ((-1 : Int))
      else
       match C_arena_of x0 with
       | some y1 =>
        match C_arena_of x0 with
        | some y2 =>
         some (wrapA IntKind.i64 (wrapA IntKind.i64 (wrapA IntKind.i64 (wrapA IntKind.i64 (x1 * y1.block) + y2.slots) + wrapA IntKind.i64 (wrapA IntKind.i64 (x2 - (1 : Int)) * x0.width)) + x3))
        | none => none
       | none => none
noncomputable def C_arena_Slot (x : Config × Int × Int × Int) : Option (Int) := F_arena_Slot x.1 x.2.1 x.2.2.1 x.2.2.2

/- millstream/tape.Left -/
noncomputable def F_tape_Left (x0 : Tape) : Option (Int) :=
 bif decide (x0.at_ < (0 : Int)) then
  some ((0 : Int))
 else
  some (if wrapA IntKind.i64 ((↑x0.l.length : Int) - x0.at_) > (0 : Int) then wrapA IntKind.i64 ((↑x0.l.length : Int) - x0.at_) else (0 : Int))
noncomputable def C_tape_Left (x : Tape) : Option (Int) := F_tape_Left x

end Go.Proofs.Mill
