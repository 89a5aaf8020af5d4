/- What the functions compute. -/
import Derived.Test.YtcokmmhkajmkhaaMillAll3
import Derived.Test.YtcokmmhkajmkhaaMillFT
namespace Go.Proofs.Mill
set_option linter.all false
/- millstream/millstreamlaw13.big -/
noncomputable def S_law13_big_2 (x0 : Turn) (x1 : Int) : Option ((Turn × Int) ⊕ ((Turn) ⊕ (Bool))) :=
 bif decide (x1 < (↑x0.m.boxes.length : Int)) then
  bif decide (x1 < (20 : Int)) then
   bif decide ((0 : Int) ≤ x1) then
    bif decide (x1 < (↑x0.m.boxes.length : Int)) then
     bif decide ((↑(List.length (x0.m.boxes.getD x1.toNat ([] : List Entry))) : Int) > (20 : Int)) then
      some (Sum.inr (Sum.inr true))
     else
      some (Sum.inl (x0, wrapA IntKind.i64 (x1 + (1 : Int))))
    else
     none
   else
    none
  else
   some (Sum.inr (Sum.inl x0))
 else
  some (Sum.inr (Sum.inl x0))
noncomputable def T_law13_big_2 (x : Turn × Int) : Option ((Turn × Int) ⊕ ((Turn) ⊕ (Bool))) := S_law13_big_2 x.1 x.2
noncomputable def W_law13_big_2 (x : Turn × Int) : Option ((Turn) ⊕ (Bool)) := whileM T_law13_big_2 x
noncomputable def F_law13_big (x0 : Turn) : Option (Bool) :=
 match W_law13_big_2 (x0, (0 : Int)) with
 | some (.inl y1) =>
  bif decide ((↑y1.m.words.length : Int) > (400 : Int)) then
   some (true)
  else
   bif decide ((↑y1.m.boxes.length : Int) > (16 : Int)) then
    some (true)
   else
    bif decide ((↑y1.th.batch.length : Int) > (20 : Int)) then
     some (true)
    else
     bif decide ((↑y1.th.kids.length : Int) > (20 : Int)) then
      some (true)
     else
      bif decide ((↑y1.th.held.length : Int) > (20 : Int)) then
       some (true)
      else
       bif decide ((↑y1.tape.l.length : Int) > (100 : Int)) then
        some (true)
       else
        some (decide ((↑y1.log.length : Int) > (50 : Int)))
 | some (.inr y2) =>
  some (y2)
 | none => none
noncomputable def C_law13_big (x : Turn) : Option (Bool) := F_law13_big x

/- millstream/millstreamref05.Check -/
noncomputable def F_ref05_Check (x0 : Config) : Option (Int) :=
 bif decide (x0.threads < (1 : Int)) then
  some ((50 : Int))
 else
  bif decide (x0.threads > (16 : Int)) then
   some ((50 : Int))
  else
   bif decide (x0.items < (1 : Int)) then
    some ((51 : Int))
   else
    bif decide (x0.items > (4 : Int)) then
     some ((51 : Int))
    else
     bif decide (x0.backend < (1 : Int)) then
      some ((52 : Int))
     else
      bif decide (x0.backend > (3 : Int)) then
       some ((52 : Int))
      else
       bif decide (x0.depth < (0 : Int)) then
        some ((53 : Int))
       else
        bif decide (x0.depth > (4 : Int)) then
         some ((53 : Int))
        else
         bif decide (x0.layers < (0 : Int)) then
          some ((54 : Int))
         else
          bif decide (x0.layers > (3 : Int)) then
           some ((54 : Int))
          else
           bif decide (x0.width < (1 : Int)) then
            some ((55 : Int))
           else
            bif decide (x0.width > (8 : Int)) then
             some ((55 : Int))
            else
             bif decide (x0.spin < (0 : Int)) then
              some ((56 : Int))
             else
              bif decide (x0.spin > (20 : Int)) then
               some ((56 : Int))
              else
               bif decide (x0.wait < (0 : Int)) then
                some ((57 : Int))
               else
                bif decide (x0.wait > (1000 : Int)) then
                 some ((57 : Int))
                else
                 bif x0.bounded then
                  bif decide (x0.lo > x0.init) then
                   some ((58 : Int))
                  else
                   bif decide (x0.init > x0.hi) then
                    some ((58 : Int))
                   else
                    some ((0 : Int))
                 else
                  some ((0 : Int))
noncomputable def C_ref05_Check (x : Config) : Option (Int) := F_ref05_Check x

/- millstream/millstreamref06.Nodes -/
noncomputable def S_ref06_Nodes_3 (x0 : Config) (x1 : Int) (x2 : Int) : Option ((Config × Int × Int) ⊕ ((Int))) :=
 bif decide (x2 < x0.depth) then
  some (Sum.inl (x0, wrapA IntKind.i64 ((2 : Int) * x1), wrapA IntKind.i64 (x2 + (1 : Int))))
 else
  some (Sum.inr x1)
noncomputable def T_ref06_Nodes_3 (x : Config × Int × Int) : Option ((Config × Int × Int) ⊕ ((Int))) := S_ref06_Nodes_3 x.1 x.2.1 x.2.2
noncomputable def W_ref06_Nodes_3 (x : Config × Int × Int) : Option ((Int)) := whileM T_ref06_Nodes_3 x
noncomputable def F_ref06_Nodes (x0 : Config) : Option (Int) :=
 match W_ref06_Nodes_3 (x0, (1 : Int), (0 : Int)) with
 | some y1 =>
  some (wrapA IntKind.i64 (y1 - (1 : Int)))
 | none => none
noncomputable def C_ref06_Nodes (x : Config) : Option (Int) := F_ref06_Nodes x

/- millstream/millstreamref06.block -/
noncomputable def F_ref06_block (x0 : Config) : Option (Int) :=
 match C_ref06_Nodes x0 with
 | some y1 =>
  some (wrapA IntKind.i64 (wrapA IntKind.i64 ((1 : Int) + y1) + wrapA IntKind.i64 (x0.layers * x0.width)))
 | none => none
noncomputable def C_ref06_block (x : Config) : Option (Int) := F_ref06_block x

/- millstream/millstreamref06.Size -/
noncomputable def F_ref06_Size (x0 : Config) : Option (Int) :=
 match C_ref06_block x0 with
 | some y1 =>
  some (wrapA IntKind.i64 (wrapA IntKind.i64 (x0.items * y1) + wrapA IntKind.i64 ((2 : Int) * x0.threads)))
 | none => none
noncomputable def C_ref06_Size (x : Config) : Option (Int) := F_ref06_Size x

/- millstream/millstreamlaw13.may -/
noncomputable def F_law13_may (x0 : Turn) : Option (Bool) :=
 match C_ref05_Check x0.c with
 | some y1 =>
  bif y1 == (0 : Int) then
   bif decide (x0.t ≥ (0 : Int)) then
    bif decide (x0.t < x0.c.threads) then
     match C_ref06_Size x0.c with
     | some y2 =>
      bif (↑x0.m.words.length : Int) == y2 then
       bif (↑x0.m.boxes.length : Int) == x0.c.threads then
        bif decide (x0.th.item ≥ (0 : Int)) then
         some (decide (x0.th.item < x0.c.items))
        else
         some (false)
       else
        some (false)
      else
       some (false)
     | none => none
    else
     some (false)
   else
    some (false)
  else
   some (false)
 | none => none
noncomputable def C_law13_may (x : Turn) : Option (Bool) := F_law13_may x

/- (millstream/code.said).word -/
noncomputable def F_code_said_word (x0 : Said) : Option (Int) :=
 some (wrapA IntKind.i64 (wrapA IntKind.i64 ((8 : Int) * wrapA IntKind.i64 (x0.n + (1 : Int))) + x0.kind))
noncomputable def C_code_said_word (x : Said) : Option (Int) := F_code_said_word x

/- millstream/code.First -/
noncomputable def F_code_First (x0 : Int) : Option (Int) :=
 match C_code_said_word (Said.mk (1 : Int) x0) with
 | some y1 =>
  some (y1)
 | none => none
noncomputable def C_code_First (x : Int) : Option (Int) := F_code_First x

/- millstream/code.Joined -/
noncomputable def F_code_Joined (x0 : Int) : Option (Int) :=
 match C_code_said_word (Said.mk (2 : Int) x0) with
 | some y1 =>
  some (y1)
 | none => none
noncomputable def C_code_Joined (x : Int) : Option (Int) := F_code_Joined x

/- millstream/arena.Nodes -/
noncomputable def F_arena_Nodes (x0 : Config) : Option (Int) :=
 bif decide (x0.depth < (0 : Int)) then
  none
 else
  some (wrapA IntKind.i64 (wrapA IntKind.i64 ((1 : Int) * (2 : Int) ^ min x0.depth.toNat IntKind.i64.bits) - (1 : Int)))
noncomputable def C_arena_Nodes (x : Config) : Option (Int) := F_arena_Nodes x

/- millstream/arena.of -/
noncomputable def F_arena_of (x0 : Config) : Option (Plan) :=
 match C_arena_Nodes x0 with
 | some y1 =>
  some (Plan.mk (1 : Int) (wrapA IntKind.i64 ((1 : Int) + y1)) (wrapA IntKind.i64 (wrapA IntKind.i64 ((1 : Int) + y1) + wrapA IntKind.i64 (x0.layers * x0.width))) (wrapA IntKind.i64 (x0.items * wrapA IntKind.i64 (wrapA IntKind.i64 ((1 : Int) + y1) + wrapA IntKind.i64 (x0.layers * x0.width)))))
 | none => none
noncomputable def C_arena_of (x : Config) : Option (Plan) := F_arena_of x

/- millstream/arena.Node -/
noncomputable def F_arena_Node (x0 : Config) (x1 : Int) (x2 : Int) : Option (Int) :=
 bif decide (x1 < (0 : Int)) then
  some ((-1 : Int))
 else
  bif decide (x1 ≥ x0.items) then
   some ((-1 : Int))
  else
   match C_arena_Nodes x0 with
   | some y1 =>
    bif decide (x2 < (1 : Int)) then
     some ((-1 : Int))
    else
     bif decide (x2 ≥ wrapA IntKind.i64 ((1 : Int) + y1)) then
      some ((-1 : Int))
     else
      match C_arena_of x0 with
      | some y2 =>
       some (wrapA IntKind.i64 (wrapA IntKind.i64 (x1 * y2.block) + x2))
      | none => none
   | none => none
noncomputable def C_arena_Node (x : Config × Int × Int) : Option (Int) := F_arena_Node x.1 x.2.1 x.2.2

/- slices.Clone[[]int,int] -/
noncomputable def F_slices_Clone_int (x0 : List Int) : Option ((List Int)) :=
 bif fewB ((0 : Nat) + x0.length) then
  some (x0)
 else
  none
noncomputable def C_slices_Clone_int (x : (List Int)) : Option ((List Int)) := F_slices_Clone_int x

/- millstream/shape.Parent -/
noncomputable def F_shape_Parent (x0 : Int) : Option (Int) :=
 some ((if (0 : Int) > x0 then (0 : Int) else x0).fdiv ((2 : Int) ^ min (Int.toNat (1 : Int)) IntKind.i64.bits))
noncomputable def C_shape_Parent (x : Int) : Option (Int) := F_shape_Parent x

/- millstream/climb.Down -/
noncomputable def F_climb_Down (x0 : Turn) : Option (Turn) :=
 bif decide (x0.th.stop > (0 : Int)) then
  bif decide (x0.th.at_ ≥ (0 : Int)) then
   bif decide (x0.th.at_ < (↑x0.th.held.length : Int)) then
    some ({ x0 with th := { x0.th with phase := (7 : Int) } })
   else
    some ({ x0 with th := { x0.th with phase := (11 : Int) } })
  else
   some ({ x0 with th := { x0.th with phase := (11 : Int) } })
 else
  bif decide (x0.th.at_ ≥ (0 : Int)) then
   bif decide (x0.th.at_ < (↑x0.th.held.length : Int)) then
    some ({ x0 with th := { x0.th with phase := (7 : Int) } })
   else
    some ({ x0 with th := { x0.th with phase := (2 : Int) } })
  else
   some ({ x0 with th := { x0.th with phase := (2 : Int) } })
noncomputable def C_climb_Down (x : Turn) : Option (Turn) := F_climb_Down x

/- millstream/climb.over -/
noncomputable def F_climb_over (x0 : Turn) : Option (Turn) :=
 match C_climb_Down { x0 with th := { x0.th with at_ := (0 : Int) } } with
 | some y1 =>
  some (y1)
 | none => none
noncomputable def C_climb_over (x : Turn) : Option (Turn) := F_climb_over x

/- millstream/climb.taken -/
noncomputable def F_climb_taken (x0 : Turn) : Option (Turn) :=
 match C_slices_Clone_int x0.th.held with
 | some y1 =>
  bif fewB (List.length y1 + (x0.th.node :: ([] : List Int)).length) then
   match C_shape_Parent x0.th.node with
   | some y2 =>
    bif decide (y2 > (0 : Int)) then
     some ({ x0 with th := { x0.th with held := y1 ++ x0.th.node :: ([] : List Int), node := y2 } })
    else
     match C_climb_over { x0 with th := { x0.th with held := y1 ++ x0.th.node :: ([] : List Int), node := y2 } } with
     | some y3 =>
      some (y3)
     | none => none
   | none => none
  else
   none
 | none => none
noncomputable def C_climb_taken (x : Turn) : Option (Turn) := F_climb_taken x

/- millstream/wmem.at[int] -/
noncomputable def F_wmem_at_int (x0 : List Int) (x1 : Int) : Option (Int × Int) :=
 bif decide (x1 < (0 : Int)) then
  some (((0 : Int), (30 : Int)))
 else
  bif decide (x1 ≥ (↑x0.length : Int)) then
   some (((0 : Int), (30 : Int)))
  else
   bif decide ((0 : Int) ≤ x1) then
    bif decide (x1 < (↑x0.length : Int)) then
     some ((x0.getD x1.toNat (0 : Int), (0 : Int)))
    else
     none
   else
    none
noncomputable def C_wmem_at_int (x : (List Int) × Int) : Option (Int × Int) := F_wmem_at_int x.1 x.2

/- millstream/wmem.Cas -/
noncomputable def F_wmem_Cas (x0 : Memo) (x1 : Int) (x2 : Int) (x3 : Int) : Option (Memo × Bool × Int) :=
 match C_wmem_at_int (x0.words, x1) with
 | some y1 =>
  bif y1.snd != (0 : Int) then
   some ((x0, false, y1.snd))
  else
   bif y1.fst == x2 then
    match C_slices_Clone_int x0.words with
    | some y2 =>
     bif decide ((0 : Int) ≤ x1) then
      bif decide (x1 < (↑(List.length y2) : Int)) then
       some (({ x0 with words := List.set y2 x1.toNat x3 }, y1.fst == x2, y1.snd))
      else
       none
     else
      none
    | none => none
   else
    some ((x0, y1.fst == x2, y1.snd))
 | none => none
noncomputable def C_wmem_Cas (x : Memo × Int × Int × Int) : Option (Memo × Bool × Int) := F_wmem_Cas x.1 x.2.1 x.2.2.1 x.2.2.2

/- millstream/wmem.Load -/
noncomputable def F_wmem_Load (x0 : Memo) (x1 : Int) : Option (Int × Int) :=
 match C_wmem_at_int (x0.words, x1) with
 | some y1 =>
  some (y1)
 | none => none
noncomputable def C_wmem_Load (x : Memo × Int) : Option (Int × Int) := F_wmem_Load x.1 x.2

/- millstream/thread.Late -/
noncomputable def F_thread_Late (x0 : Turn) : Option (Bool) :=
 bif decide ((0 : Int) < x0.th.until_) then
  some (decide (x0.th.until_ ≤ x0.now))
 else
  some (false)
noncomputable def C_thread_Late (x : Turn) : Option (Bool) := F_thread_Late x

/- millstream/code.of -/
noncomputable def F_code_of (x0 : Int) : Option (Said) :=
 bif wrapA IntKind.i64 (↑(BitVec.ofInt IntKind.i64.bits x0 &&& BitVec.ofInt IntKind.i64.bits (7 : Int)).toNat : Int) == (5 : Int) && (wrapA IntKind.i64 (x0.fdiv ((2 : Int) ^ min (Int.toNat (3 : Int)) IntKind.i64.bits) - (1 : Int)) == (-1 : Int) && true) then
  some (Said.mk (wrapA IntKind.i64 (↑(BitVec.ofInt IntKind.i64.bits x0 &&& BitVec.ofInt IntKind.i64.bits (7 : Int)).toNat : Int)) (wrapA IntKind.i64 (x0.fdiv ((2 : Int) ^ min (Int.toNat (3 : Int)) IntKind.i64.bits) - (1 : Int))))
 else
  bif decide (wrapA IntKind.i64 (↑(BitVec.ofInt IntKind.i64.bits x0 &&& BitVec.ofInt IntKind.i64.bits (7 : Int)).toNat : Int) ≥ (1 : Int)) then
   bif decide (wrapA IntKind.i64 (↑(BitVec.ofInt IntKind.i64.bits x0 &&& BitVec.ofInt IntKind.i64.bits (7 : Int)).toNat : Int) ≤ (3 : Int)) then
    bif decide (wrapA IntKind.i64 (x0.fdiv ((2 : Int) ^ min (Int.toNat (3 : Int)) IntKind.i64.bits) - (1 : Int)) ≥ (0 : Int)) then
     bif decide (wrapA IntKind.i64 (x0.fdiv ((2 : Int) ^ min (Int.toNat (3 : Int)) IntKind.i64.bits) - (1 : Int)) < (16 : Int)) then
      some (Said.mk (wrapA IntKind.i64 (↑(BitVec.ofInt IntKind.i64.bits x0 &&& BitVec.ofInt IntKind.i64.bits (7 : Int)).toNat : Int)) (wrapA IntKind.i64 (x0.fdiv ((2 : Int) ^ min (Int.toNat (3 : Int)) IntKind.i64.bits) - (1 : Int))))
     else
      bif wrapA IntKind.i64 (↑(BitVec.ofInt IntKind.i64.bits x0 &&& BitVec.ofInt IntKind.i64.bits (7 : Int)).toNat : Int) == (4 : Int) then
       bif decide ((wrapA IntKind.i64 (x0.fdiv ((2 : Int) ^ min (Int.toNat (3 : Int)) IntKind.i64.bits) - (1 : Int))).fdiv ((2 : Int) ^ min (Int.toNat (4 : Int)) IntKind.i64.bits) ≥ (0 : Int)) then
        bif decide ((wrapA IntKind.i64 (x0.fdiv ((2 : Int) ^ min (Int.toNat (3 : Int)) IntKind.i64.bits) - (1 : Int))).fdiv ((2 : Int) ^ min (Int.toNat (4 : Int)) IntKind.i64.bits) < (4 : Int)) then
         bif decide (wrapA IntKind.i64 (↑(BitVec.ofInt IntKind.i64.bits (wrapA IntKind.i64 (x0.fdiv ((2 : Int) ^ min (Int.toNat (3 : Int)) IntKind.i64.bits) - (1 : Int))) &&& BitVec.ofInt IntKind.i64.bits (15 : Int)).toNat : Int) ≥ (1 : Int)) then
          bif decide (wrapA IntKind.i64 (↑(BitVec.ofInt IntKind.i64.bits (wrapA IntKind.i64 (x0.fdiv ((2 : Int) ^ min (Int.toNat (3 : Int)) IntKind.i64.bits) - (1 : Int))) &&& BitVec.ofInt IntKind.i64.bits (15 : Int)).toNat : Int) ≤ (3 : Int)) then
           some (Said.mk (wrapA IntKind.i64 (↑(BitVec.ofInt IntKind.i64.bits x0 &&& BitVec.ofInt IntKind.i64.bits (7 : Int)).toNat : Int)) (wrapA IntKind.i64 (x0.fdiv ((2 : Int) ^ min (Int.toNat (3 : Int)) IntKind.i64.bits) - (1 : Int))))
          else
           some (Said.mk (0 : Int) (0 : Int))
         else
          some (Said.mk (0 : Int) (0 : Int))
        else
         some (Said.mk (0 : Int) (0 : Int))
       else
        some (Said.mk (0 : Int) (0 : Int))
      else
       some (Said.mk (0 : Int) (0 : Int))
    else
     bif wrapA IntKind.i64 (↑(BitVec.ofInt IntKind.i64.bits x0 &&& BitVec.ofInt IntKind.i64.bits (7 : Int)).toNat : Int) == (4 : Int) then
      bif decide ((wrapA IntKind.i64 (x0.fdiv ((2 : Int) ^ min (Int.toNat (3 : Int)) IntKind.i64.bits) - (1 : Int))).fdiv ((2 : Int) ^ min (Int.toNat (4 : Int)) IntKind.i64.bits) ≥ (0 : Int)) then
       bif decide ((wrapA IntKind.i64 (x0.fdiv ((2 : Int) ^ min (Int.toNat (3 : Int)) IntKind.i64.bits) - (1 : Int))).fdiv ((2 : Int) ^ min (Int.toNat (4 : Int)) IntKind.i64.bits) < (4 : Int)) then
        bif decide (wrapA IntKind.i64 (↑(BitVec.ofInt IntKind.i64.bits (wrapA IntKind.i64 (x0.fdiv ((2 : Int) ^ min (Int.toNat (3 : Int)) IntKind.i64.bits) - (1 : Int))) &&& BitVec.ofInt IntKind.i64.bits (15 : Int)).toNat : Int) ≥ (1 : Int)) then
         bif decide (wrapA IntKind.i64 (↑(BitVec.ofInt IntKind.i64.bits (wrapA IntKind.i64 (x0.fdiv ((2 : Int) ^ min (Int.toNat (3 : Int)) IntKind.i64.bits) - (1 : Int))) &&& BitVec.ofInt IntKind.i64.bits (15 : Int)).toNat : Int) ≤ (3 : Int)) then
          some (Said.mk (wrapA IntKind.i64 (↑(BitVec.ofInt IntKind.i64.bits x0 &&& BitVec.ofInt IntKind.i64.bits (7 : Int)).toNat : Int)) (wrapA IntKind.i64 (x0.fdiv ((2 : Int) ^ min (Int.toNat (3 : Int)) IntKind.i64.bits) - (1 : Int))))
         else
          some (Said.mk (0 : Int) (0 : Int))
        else
         some (Said.mk (0 : Int) (0 : Int))
       else
        some (Said.mk (0 : Int) (0 : Int))
      else
       some (Said.mk (0 : Int) (0 : Int))
     else
      some (Said.mk (0 : Int) (0 : Int))
   else
    bif wrapA IntKind.i64 (↑(BitVec.ofInt IntKind.i64.bits x0 &&& BitVec.ofInt IntKind.i64.bits (7 : Int)).toNat : Int) == (4 : Int) then
     bif decide ((wrapA IntKind.i64 (x0.fdiv ((2 : Int) ^ min (Int.toNat (3 : Int)) IntKind.i64.bits) - (1 : Int))).fdiv ((2 : Int) ^ min (Int.toNat (4 : Int)) IntKind.i64.bits) ≥ (0 : Int)) then
      bif decide ((wrapA IntKind.i64 (x0.fdiv ((2 : Int) ^ min (Int.toNat (3 : Int)) IntKind.i64.bits) - (1 : Int))).fdiv ((2 : Int) ^ min (Int.toNat (4 : Int)) IntKind.i64.bits) < (4 : Int)) then
       bif decide (wrapA IntKind.i64 (↑(BitVec.ofInt IntKind.i64.bits (wrapA IntKind.i64 (x0.fdiv ((2 : Int) ^ min (Int.toNat (3 : Int)) IntKind.i64.bits) - (1 : Int))) &&& BitVec.ofInt IntKind.i64.bits (15 : Int)).toNat : Int) ≥ (1 : Int)) then
        bif decide (wrapA IntKind.i64 (↑(BitVec.ofInt IntKind.i64.bits (wrapA IntKind.i64 (x0.fdiv ((2 : Int) ^ min (Int.toNat (3 : Int)) IntKind.i64.bits) - (1 : Int))) &&& BitVec.ofInt IntKind.i64.bits (15 : Int)).toNat : Int) ≤ (3 : Int)) then
         some (Said.mk (wrapA IntKind.i64 (↑(BitVec.ofInt IntKind.i64.bits x0 &&& BitVec.ofInt IntKind.i64.bits (7 : Int)).toNat : Int)) (wrapA IntKind.i64 (x0.fdiv ((2 : Int) ^ min (Int.toNat (3 : Int)) IntKind.i64.bits) - (1 : Int))))
        else
         some (Said.mk (0 : Int) (0 : Int))
       else
        some (Said.mk (0 : Int) (0 : Int))
      else
       some (Said.mk (0 : Int) (0 : Int))
     else
      some (Said.mk (0 : Int) (0 : Int))
    else
     some (Said.mk (0 : Int) (0 : Int))
  else
   bif wrapA IntKind.i64 (↑(BitVec.ofInt IntKind.i64.bits x0 &&& BitVec.ofInt IntKind.i64.bits (7 : Int)).toNat : Int) == (4 : Int) then
    bif decide ((wrapA IntKind.i64 (x0.fdiv ((2 : Int) ^ min (Int.toNat (3 : Int)) IntKind.i64.bits) - (1 : Int))).fdiv ((2 : Int) ^ min (Int.toNat (4 : Int)) IntKind.i64.bits) ≥ (0 : Int)) then
     bif decide ((wrapA IntKind.i64 (x0.fdiv ((2 : Int) ^ min (Int.toNat (3 : Int)) IntKind.i64.bits) - (1 : Int))).fdiv ((2 : Int) ^ min (Int.toNat (4 : Int)) IntKind.i64.bits) < (4 : Int)) then
      bif decide (wrapA IntKind.i64 (↑(BitVec.ofInt IntKind.i64.bits (wrapA IntKind.i64 (x0.fdiv ((2 : Int) ^ min (Int.toNat (3 : Int)) IntKind.i64.bits) - (1 : Int))) &&& BitVec.ofInt IntKind.i64.bits (15 : Int)).toNat : Int) ≥ (1 : Int)) then
       bif decide (wrapA IntKind.i64 (↑(BitVec.ofInt IntKind.i64.bits (wrapA IntKind.i64 (x0.fdiv ((2 : Int) ^ min (Int.toNat (3 : Int)) IntKind.i64.bits) - (1 : Int))) &&& BitVec.ofInt IntKind.i64.bits (15 : Int)).toNat : Int) ≤ (3 : Int)) then
        some (Said.mk (wrapA IntKind.i64 (↑(BitVec.ofInt IntKind.i64.bits x0 &&& BitVec.ofInt IntKind.i64.bits (7 : Int)).toNat : Int)) (wrapA IntKind.i64 (x0.fdiv ((2 : Int) ^ min (Int.toNat (3 : Int)) IntKind.i64.bits) - (1 : Int))))
       else
        some (Said.mk (0 : Int) (0 : Int))
      else
       some (Said.mk (0 : Int) (0 : Int))
     else
      some (Said.mk (0 : Int) (0 : Int))
    else
     some (Said.mk (0 : Int) (0 : Int))
   else
    some (Said.mk (0 : Int) (0 : Int))
noncomputable def C_code_of (x : Int) : Option (Said) := F_code_of x

/- millstream/code.Kind -/
noncomputable def F_code_Kind (x0 : Int) : Option (Int) :=
 match C_code_of x0 with
 | some y1 =>
  bif x0 == (0 : Int) then
   some (y1.kind)
  else
   bif !(y1.kind == (0 : Int) && (y1.n == (0 : Int) && true)) then
    some (y1.kind)
   else
    some ((-1 : Int))
 | none => none
noncomputable def C_code_Kind (x : Int) : Option (Int) := F_code_Kind x

/- millstream/climb.look -/
noncomputable def F_climb_look (x0 : Turn) (x1 : Int) : Option (Turn) :=
 match C_code_Kind x1 with
 | some y1 =>
  bif y1 == (1 : Int) then
   some ({ x0 with th := { x0.th with phase := (6 : Int), x := x1 } })
  else
   bif y1 == (0 : Int) then
    some ({ x0 with th := { x0.th with phase := (5 : Int) } })
   else
    match C_thread_Late x0 with
    | some y2 =>
     bif y2 then
      match C_climb_over x0 with
      | some y3 =>
       some (y3)
      | none => none
     else
      some (x0)
    | none => none
 | none => none
noncomputable def C_climb_look (x : Turn × Int) : Option (Turn) := F_climb_look x.1 x.2

/- millstream/climb.joined -/
noncomputable def F_climb_joined (x0 : Turn) : Option (Turn) :=
 match C_climb_over { x0 with th := { x0.th with stop := x0.th.node } } with
 | some y1 =>
  some (y1)
 | none => none
noncomputable def C_climb_joined (x : Turn) : Option (Turn) := F_climb_joined x

/- millstream/climb.Step -/
noncomputable def F_climb_Step (x0 : Turn) : Option (Turn × Bool) :=
 match C_arena_Node (x0.c, x0.th.item, x0.th.node) with
 | some y1 =>
  match C_code_First x0.t with
  | some y2 =>
   bif x0.th.phase == (4 : Int) then
    match C_wmem_Load (x0.m, y1) with
    | some y3 =>
     bif y3.snd != (0 : Int) then
      some ((x0, true))
     else
      match C_climb_look (x0, y3.fst) with
      | some y4 =>
       some ((y4, true))
      | none => none
    | none => none
   else
    bif x0.th.phase == (6 : Int) then
     match C_code_Joined x0.t with
     | some y3 =>
      match C_wmem_Cas (x0.m, y1, x0.th.x, y3) with
      | some y4 =>
       bif y4.snd.snd != (0 : Int) then
        some ((x0, true))
       else
        bif y4.snd.fst then
         match C_climb_joined { x0 with m := y4.fst, th := { x0.th with phase := (4 : Int) } } with
         | some y5 =>
          some ((y5, true))
         | none => none
        else
         some (({ x0 with m := y4.fst, th := { x0.th with phase := (4 : Int) } }, true))
      | none => none
     | none => none
    else
     bif x0.th.phase == (5 : Int) then
      match C_wmem_Cas (x0.m, y1, (0 : Int), y2) with
      | some y3 =>
       bif y3.snd.snd != (0 : Int) then
        some ((x0, true))
       else
        bif y3.snd.fst then
         match C_climb_taken { x0 with m := y3.fst, th := { x0.th with phase := (4 : Int) } } with
         | some y4 =>
          some ((y4, true))
         | none => none
        else
         some (({ x0 with m := y3.fst, th := { x0.th with phase := (4 : Int) } }, true))
      | none => none
     else
      some ((x0, false))
  | none => none
 | none => none
noncomputable def C_climb_Step (x : Turn) : Option (Turn × Bool) := F_climb_Step x

/- millstream/wmem.made[int] -/
noncomputable def F_wmem_made_int (x0 : Int) : Option ((List Int)) :=
 bif decide (x0 < (1 : Int)) then
  some (([] : List Int))
 else
  bif decide (x0 > (10000 : Int)) then
   some (([] : List Int))
  else
   bif x0 == x0 then
    bif decide ((0 : Int) ≤ x0) then
     bif decide (x0 ≤ maxElems) then
      some (List.replicate x0.toNat (0 : Int))
     else
      none
    else
     none
   else
    none
noncomputable def C_wmem_made_int (x : Int) : Option ((List Int)) := F_wmem_made_int x

/- millstream/wmem.made[[]millstream/batch.Entry] -/
noncomputable def F_wmem_made_lbatch_Entry (x0 : Int) : Option ((List (List Entry))) :=
 bif decide (x0 < (1 : Int)) then
  some (([] : List (List Entry)))
 else
  bif decide (x0 > (10000 : Int)) then
   some (([] : List (List Entry)))
  else
   bif x0 == x0 then
    bif decide ((0 : Int) ≤ x0) then
     bif decide (x0 ≤ maxElems) then
      some (List.replicate x0.toNat ([] : List Entry))
     else
      none
    else
     none
   else
    none
noncomputable def C_wmem_made_lbatch_Entry (x : Int) : Option ((List (List Entry))) := F_wmem_made_lbatch_Entry x

/- millstream/wmem.New -/
noncomputable def F_wmem_New (x0 : Int) (x1 : Int) : Option (Memo) :=
 match C_wmem_made_int x0 with
 | some y1 =>
  match C_wmem_made_lbatch_Entry x1 with
  | some y2 =>
   some (Memo.mk y1 y2)
  | none => none
 | none => none
noncomputable def C_wmem_New (x : Int × Int) : Option (Memo) := F_wmem_New x.1 x.2

/- millstream/arena.Size -/
noncomputable def F_arena_Size (x0 : Config) : Option (Int) :=
 match C_arena_of x0 with
 | some y1 =>
  some (wrapA IntKind.i64 (y1.lines + wrapA IntKind.i64 ((2 : Int) * x0.threads)))
 | none => none
noncomputable def C_arena_Size (x : Config) : Option (Int) := F_arena_Size x

/- millstream/arena.Cell -/
noncomputable def F_arena_Cell (x0 : Config) (x1 : Int) : Option (Int) :=
 bif decide (x1 < (0 : Int)) then
  some ((-1 : Int))
 else
  bif decide (x1 ≥ x0.items) then
   some ((-1 : Int))
  else
   match C_arena_of x0 with
   | some y1 =>
    some (wrapA IntKind.i64 (x1 * y1.block))
   | none => none
noncomputable def C_arena_Cell (x : Config × Int) : Option (Int) := F_arena_Cell x.1 x.2

/- millstream/arena.Build -/
noncomputable def S_arena_Build_3 (x0 : Config) (x1 : Memo) (x2 : Memo) (x3 : Int) (x4 : Int) : Option ((Config × Memo × Memo × Int × Int) ⊕ ((Memo × Memo))) :=
 bif decide (x4 < x3) then
  match C_arena_Cell (x0, x4) with
  | some y1 =>
   bif decide ((0 : Int) ≤ y1) then
    bif decide (y1 < (↑x2.words.length : Int)) then
     some (Sum.inl (x0, x1, { x2 with words := x2.words.set (Int.toNat y1) x0.init }, x3, wrapA IntKind.i64 (x4 + (1 : Int))))
    else
     none
   else
    none
  | none => none
 else
  some (Sum.inr (x1, x2))
noncomputable def T_arena_Build_3 (x : Config × Memo × Memo × Int × Int) : Option ((Config × Memo × Memo × Int × Int) ⊕ ((Memo × Memo))) := S_arena_Build_3 x.1 x.2.1 x.2.2.1 x.2.2.2.1 x.2.2.2.2
noncomputable def W_arena_Build_3 (x : Config × Memo × Memo × Int × Int) : Option ((Memo × Memo)) := whileM T_arena_Build_3 x
noncomputable def F_arena_Build (x0 : Config) : Option (Memo) :=
 match C_arena_Size x0 with
 | some y1 =>
  match C_wmem_New (y1, x0.threads) with
  | some y2 =>
   match W_arena_Build_3 (x0, Memo.mk ([] : List Int) ([] : List (List Entry)), y2, x0.items, (0 : Int)) with
   | some y3 =>
    some (y3.snd)
   | none => none
  | none => none
 | none => none
noncomputable def C_arena_Build (x : Config) : Option (Memo) := F_arena_Build x

/- millstream/millstreamlaw13.shown -/
noncomputable def F_law13_shown : Option (Bool) :=
 match C_arena_Build (Config.mk (2 : Int) (1 : Int) (2 : Int) (1 : Int) (0 : Int) (1 : Int) (0 : Int) (0 : Int) false (0 : Int) (0 : Int) (0 : Int)) with
 | some y1 =>
  match C_climb_Step (Turn.mk (Config.mk (2 : Int) (1 : Int) (2 : Int) (1 : Int) (0 : Int) (1 : Int) (0 : Int) (0 : Int) false (0 : Int) (0 : Int) (0 : Int)) (0 : Int) (0 : Int) y1 (Thread.mk (4 : Int) (0 : Int) (Op.mk (0 : Int) (0 : Int)) ([] : List Entry) ([] : List Kid) ([] : List Int) (0 : Int) (1 : Int) (0 : Int) (0 : Int) (0 : Int) (0 : Int) (0 : Int) (0 : Int) (0 : Int) (0 : Int)) (Tape.mk ([] : List Int) (0 : Int)) ([] : List Mark) false) with
  | some y2 =>
   match C_climb_Step y2.fst with
   | some y3 =>
    match C_climb_Step (Turn.mk (Config.mk (2 : Int) (1 : Int) (2 : Int) (1 : Int) (0 : Int) (1 : Int) (0 : Int) (0 : Int) false (0 : Int) (0 : Int) (0 : Int)) (1 : Int) (0 : Int) y3.fst.m (Thread.mk (4 : Int) (0 : Int) (Op.mk (0 : Int) (0 : Int)) ([] : List Entry) ([] : List Kid) ([] : List Int) (0 : Int) (1 : Int) (0 : Int) (0 : Int) (0 : Int) (0 : Int) (0 : Int) (0 : Int) (0 : Int) (0 : Int)) (Tape.mk ([] : List Int) (0 : Int)) ([] : List Mark) false) with
    | some y4 =>
     match C_climb_Step y4.fst with
     | some y5 =>
      match C_climb_Step (Turn.mk (Config.mk (2 : Int) (1 : Int) (2 : Int) (1 : Int) (0 : Int) (1 : Int) (0 : Int) (0 : Int) false (0 : Int) (0 : Int) (0 : Int)) (0 : Int) (0 : Int) y1 (Thread.mk (0 : Int) (0 : Int) (Op.mk (0 : Int) (0 : Int)) ([] : List Entry) ([] : List Kid) ([] : List Int) (0 : Int) (0 : Int) (0 : Int) (0 : Int) (0 : Int) (0 : Int) (0 : Int) (0 : Int) (0 : Int) (0 : Int)) (Tape.mk ([] : List Int) (0 : Int)) ([] : List Mark) false) with
      | some y6 =>
       bif y2.snd then
        bif y3.snd then
         bif y4.snd then
          bif y5.snd then
           bif !y6.snd then
            bif y2.fst.th.phase == (5 : Int) then
             bif y3.fst.th.phase == (7 : Int) then
              bif (↑y3.fst.th.held.length : Int) == (1 : Int) then
               bif decide ((↑y3.fst.m.words.length : Int) > (1 : Int)) then
                bif decide ((1 : Int) < (↑y3.fst.m.words.length : Int)) then
                 match C_code_First (0 : Int) with
                 | some y7 =>
                  bif y3.fst.m.words.getD (Int.toNat (1 : Int)) (0 : Int) == y7 then
                   bif y4.fst.th.phase == (6 : Int) then
                    bif y5.fst.th.phase == (11 : Int) then
                     bif y5.fst.th.stop == (1 : Int) then
                      bif decide ((↑y5.fst.m.words.length : Int) > (1 : Int)) then
                       bif decide ((1 : Int) < (↑y5.fst.m.words.length : Int)) then
                        match C_code_Joined (1 : Int) with
                        | some y8 =>
                         some (y5.fst.m.words.getD (Int.toNat (1 : Int)) (0 : Int) == y8)
                        | none => none
                       else
                        none
                      else
                       some (false)
                     else
                      some (false)
                    else
                     some (false)
                   else
                    some (false)
                  else
                   some (false)
                 | none => none
                else
                 none
               else
                some (false)
              else
               some (false)
             else
              some (false)
            else
             some (false)
           else
            some (false)
          else
           some (false)
         else
          some (false)
        else
         some (false)
       else
        some (false)
      | none => none
     | none => none
    | none => none
   | none => none
  | none => none
 | none => none
noncomputable def C_law13_shown (x : Unit) : Option (Bool) := F_law13_shown

/- millstream/millstreamref06.Node -/
noncomputable def F_ref06_Node (x0 : Config) (x1 : Int) (x2 : Int) : Option (Int) :=
 bif decide (x1 < (0 : Int)) then
  some ((-1 : Int))
 else
  bif decide (x1 ≥ x0.items) then
   some ((-1 : Int))
  else
   bif decide (x2 < (1 : Int)) then
    some ((-1 : Int))
   else
    match C_ref06_Nodes x0 with
    | some y1 =>
     bif decide (x2 > y1) then
      some ((-1 : Int))
     else
      match C_ref06_block x0 with
      | some y2 =>
       some (wrapA IntKind.i64 (wrapA IntKind.i64 (x1 * y2) + x2))
      | none => none
    | none => none
noncomputable def C_ref06_Node (x : Config × Int × Int) : Option (Int) := F_ref06_Node x.1 x.2.1 x.2.2

/- millstream/millstreamref03.Load -/
noncomputable def F_ref03_Load (x0 : Memo) (x1 : Int) : Option (Int × Int) :=
 bif decide (x1 < (0 : Int)) then
  some (((0 : Int), (30 : Int)))
 else
  bif decide (x1 ≥ (↑x0.words.length : Int)) then
   some (((0 : Int), (30 : Int)))
  else
   bif decide ((0 : Int) ≤ x1) then
    bif decide (x1 < (↑x0.words.length : Int)) then
     some ((x0.words.getD x1.toNat (0 : Int), (0 : Int)))
    else
     none
   else
    none
noncomputable def C_ref03_Load (x : Memo × Int) : Option (Int × Int) := F_ref03_Load x.1 x.2

/- millstream/millstreamref08.First -/
noncomputable def F_ref08_First (x0 : Int) : Option (Int) :=
 some (wrapA IntKind.i64 (wrapA IntKind.i64 ((8 : Int) * wrapA IntKind.i64 (x0 + (1 : Int))) + (1 : Int)))
noncomputable def C_ref08_First (x : Int) : Option (Int) := F_ref08_First x

/- millstream/millstreamref08.Joined -/
noncomputable def F_ref08_Joined (x0 : Int) : Option (Int) :=
 some (wrapA IntKind.i64 (wrapA IntKind.i64 ((8 : Int) * wrapA IntKind.i64 (x0 + (1 : Int))) + (2 : Int)))
noncomputable def C_ref08_Joined (x : Int) : Option (Int) := F_ref08_Joined x

/- millstream/millstreamref08.Deposited -/
noncomputable def F_ref08_Deposited (x0 : Int) : Option (Int) :=
 some (wrapA IntKind.i64 (wrapA IntKind.i64 ((8 : Int) * wrapA IntKind.i64 (x0 + (1 : Int))) + (3 : Int)))
noncomputable def C_ref08_Deposited (x : Int) : Option (Int) := F_ref08_Deposited x

/- millstream/millstreamref08.Told -/
noncomputable def F_ref08_Told : Option (Int) :=
 some ((5 : Int))
noncomputable def C_ref08_Told (x : Unit) : Option (Int) := F_ref08_Told

/- millstream/millstreamref08.Open -/
noncomputable def F_ref08_Open (x0 : Int) (x1 : Int) : Option (Int) :=
 some (wrapA IntKind.i64 (wrapA IntKind.i64 ((8 : Int) * wrapA IntKind.i64 (wrapA IntKind.i64 (wrapA IntKind.i64 ((16 : Int) * x0) + x1) + (1 : Int))) + (4 : Int)))
noncomputable def C_ref08_Open (x : Int × Int) : Option (Int) := F_ref08_Open x.1 x.2

/- millstream/millstreamref08.Kind -/
noncomputable def S_ref08_Kind_18 (x0 : Int) (x1 : Int) (x2 : Int) : Option ((Int × Int × Int) ⊕ ((Int × Int) ⊕ (Int))) :=
 bif decide (x2 ≤ (3 : Int)) then
  match C_ref08_Open (x1, x2) with
  | some y1 =>
   bif x0 == y1 then
    some (Sum.inr (Sum.inr (4 : Int)))
   else
    some (Sum.inl (x0, x1, wrapA IntKind.i64 (x2 + (1 : Int))))
  | none => none
 else
  some (Sum.inr (Sum.inl (x0, x1)))
noncomputable def T_ref08_Kind_18 (x : Int × Int × Int) : Option ((Int × Int × Int) ⊕ ((Int × Int) ⊕ (Int))) := S_ref08_Kind_18 x.1 x.2.1 x.2.2
noncomputable def W_ref08_Kind_18 (x : Int × Int × Int) : Option ((Int × Int) ⊕ (Int)) := whileM T_ref08_Kind_18 x
noncomputable def S_ref08_Kind_15 (x0 : Int) (x1 : Int) : Option ((Int × Int) ⊕ ((Unit) ⊕ (Int))) :=
 bif decide (x1 < (4 : Int)) then
  match W_ref08_Kind_18 (x0, x1, (1 : Int)) with
  | some (.inl y1) =>
   some (Sum.inl (y1.fst, wrapA IntKind.i64 (y1.snd + (1 : Int))))
  | some (.inr y2) =>
   some (Sum.inr (Sum.inr y2))
  | none => none
 else
  some (Sum.inr (Sum.inl ()))
noncomputable def T_ref08_Kind_15 (x : Int × Int) : Option ((Int × Int) ⊕ ((Unit) ⊕ (Int))) := S_ref08_Kind_15 x.1 x.2
noncomputable def W_ref08_Kind_15 (x : Int × Int) : Option ((Unit) ⊕ (Int)) := whileM T_ref08_Kind_15 x
noncomputable def S_ref08_Kind_6 (x0 : Int) (x1 : Int) : Option ((Int × Int) ⊕ ((Int) ⊕ (Int))) :=
 bif decide (x1 < (16 : Int)) then
  match C_ref08_First x1 with
  | some y1 =>
   bif x0 == y1 then
    some (Sum.inr (Sum.inr (1 : Int)))
   else
    match C_ref08_Joined x1 with
    | some y2 =>
     bif x0 == y2 then
      some (Sum.inr (Sum.inr (2 : Int)))
     else
      match C_ref08_Deposited x1 with
      | some y3 =>
       bif x0 == y3 then
        some (Sum.inr (Sum.inr (3 : Int)))
       else
        some (Sum.inl (x0, wrapA IntKind.i64 (x1 + (1 : Int))))
      | none => none
    | none => none
  | none => none
 else
  some (Sum.inr (Sum.inl x0))
noncomputable def T_ref08_Kind_6 (x : Int × Int) : Option ((Int × Int) ⊕ ((Int) ⊕ (Int))) := S_ref08_Kind_6 x.1 x.2
noncomputable def W_ref08_Kind_6 (x : Int × Int) : Option ((Int) ⊕ (Int)) := whileM T_ref08_Kind_6 x
noncomputable def F_ref08_Kind (x0 : Int) : Option (Int) :=
 bif x0 == (0 : Int) then
  some ((0 : Int))
 else
  match C_ref08_Told () with
  | some y1 =>
   bif x0 == y1 then
    some ((5 : Int))
   else
    match W_ref08_Kind_6 (x0, (0 : Int)) with
    | some (.inl y2) =>
     match W_ref08_Kind_15 (y2, (0 : Int)) with
     | some (.inl y3) =>
      some ((-1 : Int))
     | some (.inr y4) =>
      some (y4)
     | none => none
    | some (.inr y3) =>
     some (y3)
    | none => none
  | none => none
noncomputable def C_ref08_Kind (x : Int) : Option (Int) := F_ref08_Kind x

/- millstream/millstreamref10.Late -/
noncomputable def F_ref10_Late (x0 : Turn) : Option (Bool) :=
 bif decide (x0.th.until_ > (0 : Int)) then
  some (decide (x0.now ≥ x0.th.until_))
 else
  some (false)
noncomputable def C_ref10_Late (x : Turn) : Option (Bool) := F_ref10_Late x

/- millstream/millstreamref13.Down -/
noncomputable def F_ref13_Down (x0 : Turn) : Option (Turn) :=
 bif decide (x0.th.at_ ≥ (0 : Int)) then
  bif decide (x0.th.at_ < (↑x0.th.held.length : Int)) then
   some ({ x0 with th := { x0.th with phase := (7 : Int) } })
  else
   bif decide (x0.th.stop > (0 : Int)) then
    some ({ x0 with th := { x0.th with phase := (11 : Int) } })
   else
    some ({ x0 with th := { x0.th with phase := (2 : Int) } })
 else
  bif decide (x0.th.stop > (0 : Int)) then
   some ({ x0 with th := { x0.th with phase := (11 : Int) } })
  else
   some ({ x0 with th := { x0.th with phase := (2 : Int) } })
noncomputable def C_ref13_Down (x : Turn) : Option (Turn) := F_ref13_Down x

/- millstream/millstreamref13.over -/
noncomputable def F_ref13_over (x0 : Turn) : Option (Turn) :=
 match C_ref13_Down { x0 with th := { x0.th with at_ := (0 : Int) } } with
 | some y1 =>
  some (y1)
 | none => none
noncomputable def C_ref13_over (x : Turn) : Option (Turn) := F_ref13_over x

/- millstream/millstreamref03.Store -/
noncomputable def F_ref03_Store (x0 : Memo) (x1 : Int) (x2 : Int) : Option (Memo × Int) :=
 bif decide (x1 < (0 : Int)) then
  some ((x0, (30 : Int)))
 else
  bif decide (x1 ≥ (↑x0.words.length : Int)) then
   some ((x0, (30 : Int)))
  else
   bif fewB ((0 : Nat) + x0.words.length) then
    bif decide ((0 : Int) ≤ x1) then
     bif decide (x1 < (↑x0.words.length : Int)) then
      some (({ x0 with words := x0.words.set x1.toNat x2 }, (0 : Int)))
     else
      none
    else
     none
   else
    none
noncomputable def C_ref03_Store (x : Memo × Int × Int) : Option (Memo × Int) := F_ref03_Store x.1 x.2.1 x.2.2

/- millstream/millstreamref03.Cas -/
noncomputable def F_ref03_Cas (x0 : Memo) (x1 : Int) (x2 : Int) (x3 : Int) : Option (Memo × Bool × Int) :=
 match C_ref03_Load (x0, x1) with
 | some y1 =>
  bif y1.snd != (0 : Int) then
   some ((x0, false, y1.snd))
  else
   bif y1.fst != x2 then
    some ((x0, false, y1.snd))
   else
    match C_ref03_Store (x0, x1, x3) with
    | some y2 =>
     some ((y2.fst, true, (0 : Int)))
    | none => none
 | none => none
noncomputable def C_ref03_Cas (x : Memo × Int × Int × Int) : Option (Memo × Bool × Int) := F_ref03_Cas x.1 x.2.1 x.2.2.1 x.2.2.2

/- millstream/millstreamref07.Parent -/
noncomputable def F_ref07_Parent (x0 : Int) : Option (Int) :=
 bif decide (x0 < (2 : Int)) then
  some ((0 : Int))
 else
  some (wrapA IntKind.i64 (x0.tdiv (2 : Int)))
noncomputable def C_ref07_Parent (x : Int) : Option (Int) := F_ref07_Parent x

/- millstream/millstreamref13.Step -/
noncomputable def F_ref13_Step (x0 : Turn) : Option (Turn × Bool) :=
 match C_ref06_Node (x0.c, x0.th.item, x0.th.node) with
 | some y1 =>
  bif x0.th.phase == (4 : Int) then
   match C_ref03_Load (x0.m, y1) with
   | some y2 =>
    bif y2.snd != (0 : Int) then
     some ((x0, true))
    else
     match C_ref08_Kind y2.fst with
     | some y3 =>
      bif y3 == (0 : Int) then
       some (({ x0 with th := { x0.th with phase := (5 : Int) } }, true))
      else
       match C_ref08_Kind y2.fst with
       | some y4 =>
        bif y4 == (1 : Int) then
         some (({ x0 with th := { x0.th with phase := (6 : Int), x := y2.fst } }, true))
        else
         match C_ref10_Late x0 with
         | some y5 =>
          bif y5 then
           match C_ref13_over x0 with
           | some y6 =>
            some ((y6, true))
           | none => none
          else
           some ((x0, true))
         | none => none
       | none => none
     | none => none
   | none => none
  else
   bif x0.th.phase == (5 : Int) then
    match C_ref08_First x0.t with
    | some y2 =>
     match C_ref03_Cas (x0.m, y1, (0 : Int), y2) with
     | some y3 =>
      bif y3.snd.snd != (0 : Int) then
       some ((x0, true))
      else
       bif !y3.snd.fst then
        some (({ x0 with th := { x0.th with phase := (4 : Int) } }, true))
       else
        bif fewB ((0 : Nat) + x0.th.held.length) then
         bif fewB (x0.th.held.length + (x0.th.node :: ([] : List Int)).length) then
          match C_ref07_Parent x0.th.node with
          | some y4 =>
           bif y4 == (0 : Int) then
            match C_ref13_over { x0 with m := y3.fst, th := { x0.th with phase := (4 : Int), held := x0.th.held ++ x0.th.node :: ([] : List Int), node := y4 } } with
            | some y5 =>
             some ((y5, true))
            | none => none
           else
            some (({ x0 with m := y3.fst, th := { x0.th with phase := (4 : Int), held := x0.th.held ++ x0.th.node :: ([] : List Int), node := y4 } }, true))
          | none => none
         else
          none
        else
         none
     | none => none
    | none => none
   else
    bif x0.th.phase == (6 : Int) then
     match C_ref08_Joined x0.t with
     | some y2 =>
      match C_ref03_Cas (x0.m, y1, x0.th.x, y2) with
      | some y3 =>
       bif y3.snd.snd != (0 : Int) then
        some ((x0, true))
       else
        bif !y3.snd.fst then
         some (({ x0 with th := { x0.th with phase := (4 : Int) } }, true))
        else
         match C_ref13_over { x0 with m := y3.fst, th := { x0.th with phase := (4 : Int), stop := x0.th.node } } with
         | some y4 =>
          some ((y4, true))
         | none => none
      | none => none
     | none => none
    else
     some ((x0, false))
 | none => none
noncomputable def C_ref13_Step (x : Turn) : Option (Turn × Bool) := F_ref13_Step x

/- millstream/millstreamlaw13.entries -/
noncomputable def S_law13_entries_3 (x0 : List Entry) (x1 : List Entry) (x2 : Int) : Option (((List Entry) × (List Entry) × Int) ⊕ (((List Entry)))) :=
 bif decide (x2 < (↑x0.length : Int)) then
  bif decide ((0 : Int) ≤ x2) then
   bif decide (x2 < (↑x0.length : Int)) then
    bif decide ((0 : Int) ≤ x2) then
     bif decide (x2 < (↑x0.length : Int)) then
      bif fewB (x1.length + (x0.getD x2.toNat dEntry :: ([] : List Entry)).length) then
       some (Sum.inl (x0, x1 ++ x0.getD x2.toNat dEntry :: ([] : List Entry), wrapA IntKind.i64 (x2 + (1 : Int))))
      else
       none
     else
      none
    else
     none
   else
    none
  else
   none
 else
  some (Sum.inr x1)
noncomputable def T_law13_entries_3 (x : (List Entry) × (List Entry) × Int) : Option (((List Entry) × (List Entry) × Int) ⊕ (((List Entry)))) := S_law13_entries_3 x.1 x.2.1 x.2.2
noncomputable def W_law13_entries_3 (x : (List Entry) × (List Entry) × Int) : Option (((List Entry))) := whileM T_law13_entries_3 x
noncomputable def F_law13_entries (x0 : List Entry) : Option ((List Entry)) :=
 match W_law13_entries_3 (x0, ([] : List Entry), (0 : Int)) with
 | some y1 =>
  some (y1)
 | none => none
noncomputable def C_law13_entries (x : (List Entry)) : Option ((List Entry)) := F_law13_entries x

/- millstream/millstreamlaw13.memory -/
noncomputable def S_law13_memory_3 (x0 : Memo) (x1 : Memo) (x2 : Memo) (x3 : Int) : Option ((Memo × Memo × Memo × Int) ⊕ ((Memo × Memo))) :=
 bif decide (x3 < (↑x0.boxes.length : Int)) then
  bif decide ((0 : Int) ≤ x3) then
   bif decide (x3 < (↑x0.boxes.length : Int)) then
    match C_law13_entries (x0.boxes.getD x3.toNat ([] : List Entry)) with
    | some y1 =>
     bif fewB (x2.boxes.length + (y1 :: ([] : List (List Entry))).length) then
      some (Sum.inl (x0, x1, { x2 with boxes := x2.boxes ++ y1 :: ([] : List (List Entry)) }, wrapA IntKind.i64 (x3 + (1 : Int))))
     else
      none
    | none => none
   else
    none
  else
   none
 else
  some (Sum.inr (x1, x2))
noncomputable def T_law13_memory_3 (x : Memo × Memo × Memo × Int) : Option ((Memo × Memo × Memo × Int) ⊕ ((Memo × Memo))) := S_law13_memory_3 x.1 x.2.1 x.2.2.1 x.2.2.2
noncomputable def W_law13_memory_3 (x : Memo × Memo × Memo × Int) : Option ((Memo × Memo)) := whileM T_law13_memory_3 x
noncomputable def F_law13_memory (x0 : Memo) : Option (Memo) :=
 match W_law13_memory_3 (x0, Memo.mk ([] : List Int) ([] : List (List Entry)), { x0 with boxes := ([] : List (List Entry)) }, (0 : Int)) with
 | some y1 =>
  some (y1.snd)
 | none => none
noncomputable def C_law13_memory (x : Memo) : Option (Memo) := F_law13_memory x

/- millstream/millstreamlaw13.fiber -/
noncomputable def S_law13_fiber_3 (x0 : Thread) (x1 : Thread) (x2 : Thread) (x3 : Int) : Option ((Thread × Thread × Thread × Int) ⊕ ((Thread × Thread))) :=
 bif decide (x3 < (↑x0.kids.length : Int)) then
  bif decide ((0 : Int) ≤ x3) then
   bif decide (x3 < (↑x0.kids.length : Int)) then
    bif fewB (x2.kids.length + (x0.kids.getD x3.toNat dKid :: ([] : List Kid)).length) then
     some (Sum.inl (x0, x1, { x2 with kids := x2.kids ++ x0.kids.getD x3.toNat dKid :: ([] : List Kid) }, wrapA IntKind.i64 (x3 + (1 : Int))))
    else
     none
   else
    none
  else
   none
 else
  some (Sum.inr (x1, x2))
noncomputable def T_law13_fiber_3 (x : Thread × Thread × Thread × Int) : Option ((Thread × Thread × Thread × Int) ⊕ ((Thread × Thread))) := S_law13_fiber_3 x.1 x.2.1 x.2.2.1 x.2.2.2
noncomputable def W_law13_fiber_3 (x : Thread × Thread × Thread × Int) : Option ((Thread × Thread)) := whileM T_law13_fiber_3 x
noncomputable def F_law13_fiber (x0 : Thread) : Option (Thread) :=
 match C_law13_entries x0.batch with
 | some y1 =>
  match W_law13_fiber_3 (x0, Thread.mk (0 : Int) (0 : Int) (Op.mk (0 : Int) (0 : Int)) ([] : List Entry) ([] : List Kid) ([] : List Int) (0 : Int) (0 : Int) (0 : Int) (0 : Int) (0 : Int) (0 : Int) (0 : Int) (0 : Int) (0 : Int) (0 : Int), { x0 with batch := y1, kids := ([] : List Kid) }, (0 : Int)) with
  | some y2 =>
   some (y2.snd)
  | none => none
 | none => none
noncomputable def C_law13_fiber (x : Thread) : Option (Thread) := F_law13_fiber x

/- millstream/millstreamlaw13.marks -/
noncomputable def S_law13_marks_3 (x0 : List Mark) (x1 : List Mark) (x2 : Int) : Option (((List Mark) × (List Mark) × Int) ⊕ (((List Mark)))) :=
 bif decide (x2 < (↑x0.length : Int)) then
  bif decide ((0 : Int) ≤ x2) then
   bif decide (x2 < (↑x0.length : Int)) then
    bif decide ((0 : Int) ≤ x2) then
     bif decide (x2 < (↑x0.length : Int)) then
      bif decide ((0 : Int) ≤ x2) then
       bif decide (x2 < (↑x0.length : Int)) then
        bif decide ((0 : Int) ≤ x2) then
         bif decide (x2 < (↑x0.length : Int)) then
          bif decide ((0 : Int) ≤ x2) then
           bif decide (x2 < (↑x0.length : Int)) then
            bif fewB (x1.length + (x0.getD x2.toNat dMark :: ([] : List Mark)).length) then
             some (Sum.inl (x0, x1 ++ x0.getD x2.toNat dMark :: ([] : List Mark), wrapA IntKind.i64 (x2 + (1 : Int))))
            else
             none
           else
            none
          else
           none
         else
          none
        else
         none
       else
        none
      else
       none
     else
      none
    else
     none
   else
    none
  else
   none
 else
  some (Sum.inr x1)
noncomputable def T_law13_marks_3 (x : (List Mark) × (List Mark) × Int) : Option (((List Mark) × (List Mark) × Int) ⊕ (((List Mark)))) := S_law13_marks_3 x.1 x.2.1 x.2.2
noncomputable def W_law13_marks_3 (x : (List Mark) × (List Mark) × Int) : Option (((List Mark))) := whileM T_law13_marks_3 x
noncomputable def F_law13_marks (x0 : List Mark) : Option ((List Mark)) :=
 match W_law13_marks_3 (x0, ([] : List Mark), (0 : Int)) with
 | some y1 =>
  some (y1)
 | none => none
noncomputable def C_law13_marks (x : (List Mark)) : Option ((List Mark)) := F_law13_marks x

/- millstream/millstreamlaw13.its -/
noncomputable def F_law13_its (x0 : Turn) : Option (Turn) :=
 match C_law13_memory x0.m with
 | some y1 =>
  match C_law13_fiber x0.th with
  | some y2 =>
   match C_law13_marks x0.log with
   | some y3 =>
    some ({ x0 with m := y1, th := y2, log := y3 })
   | none => none
  | none => none
 | none => none
noncomputable def C_law13_its (x : Turn) : Option (Turn) := F_law13_its x

/- millstream/millstreamref02.Ints -/
noncomputable def S_ref02_Ints_4 (x0 : List Int) (x1 : List Int) (x2 : Int) : Option (((List Int) × (List Int) × Int) ⊕ ((Unit) ⊕ (Bool))) :=
 bif decide (x2 < (↑x0.length : Int)) then
  bif decide ((0 : Int) ≤ x2) then
   bif decide (x2 < (↑x0.length : Int)) then
    bif decide ((0 : Int) ≤ x2) then
     bif decide (x2 < (↑x1.length : Int)) then
      bif x0.getD x2.toNat (0 : Int) != x1.getD x2.toNat (0 : Int) then
       some (Sum.inr (Sum.inr false))
      else
       some (Sum.inl (x0, x1, wrapA IntKind.i64 (x2 + (1 : Int))))
     else
      none
    else
     none
   else
    none
  else
   none
 else
  some (Sum.inr (Sum.inl ()))
noncomputable def T_ref02_Ints_4 (x : (List Int) × (List Int) × Int) : Option (((List Int) × (List Int) × Int) ⊕ ((Unit) ⊕ (Bool))) := S_ref02_Ints_4 x.1 x.2.1 x.2.2
noncomputable def W_ref02_Ints_4 (x : (List Int) × (List Int) × Int) : Option ((Unit) ⊕ (Bool)) := whileM T_ref02_Ints_4 x
noncomputable def F_ref02_Ints (x0 : List Int) (x1 : List Int) : Option (Bool) :=
 bif (↑x0.length : Int) != (↑x1.length : Int) then
  some (false)
 else
  match W_ref02_Ints_4 (x0, x1, (0 : Int)) with
  | some (.inl y1) =>
   some (true)
  | some (.inr y2) =>
   some (y2)
  | none => none
noncomputable def C_ref02_Ints (x : (List Int) × (List Int)) : Option (Bool) := F_ref02_Ints x.1 x.2

/- millstream/millstreamref02.Same -/
noncomputable def S_ref02_Same_4 (x0 : List Entry) (x1 : List Entry) (x2 : Int) : Option (((List Entry) × (List Entry) × Int) ⊕ ((Unit) ⊕ (Bool))) :=
 bif decide (x2 < (↑x0.length : Int)) then
  bif decide ((0 : Int) ≤ x2) then
   bif decide (x2 < (↑x0.length : Int)) then
    bif decide ((0 : Int) ≤ x2) then
     bif decide (x2 < (↑x1.length : Int)) then
      bif !((x0.getD x2.toNat dEntry).t == (x1.getD x2.toNat dEntry).t && ((x0.getD x2.toNat dEntry).op.tag == (x1.getD x2.toNat dEntry).op.tag && ((x0.getD x2.toNat dEntry).op.v == (x1.getD x2.toNat dEntry).op.v && true) && true)) then
       some (Sum.inr (Sum.inr false))
      else
       some (Sum.inl (x0, x1, wrapA IntKind.i64 (x2 + (1 : Int))))
     else
      none
    else
     none
   else
    none
  else
   none
 else
  some (Sum.inr (Sum.inl ()))
noncomputable def T_ref02_Same_4 (x : (List Entry) × (List Entry) × Int) : Option (((List Entry) × (List Entry) × Int) ⊕ ((Unit) ⊕ (Bool))) := S_ref02_Same_4 x.1 x.2.1 x.2.2
noncomputable def W_ref02_Same_4 (x : (List Entry) × (List Entry) × Int) : Option ((Unit) ⊕ (Bool)) := whileM T_ref02_Same_4 x
noncomputable def F_ref02_Same (x0 : List Entry) (x1 : List Entry) : Option (Bool) :=
 bif (↑x0.length : Int) != (↑x1.length : Int) then
  some (false)
 else
  match W_ref02_Same_4 (x0, x1, (0 : Int)) with
  | some (.inl y1) =>
   some (true)
  | some (.inr y2) =>
   some (y2)
  | none => none
noncomputable def C_ref02_Same (x : (List Entry) × (List Entry)) : Option (Bool) := F_ref02_Same x.1 x.2

/- millstream/millstreamref03.Same -/
noncomputable def S_ref03_Same_4 (x0 : Memo) (x1 : Memo) (x2 : Int) : Option ((Memo × Memo × Int) ⊕ ((Unit) ⊕ (Bool))) :=
 bif decide (x2 < (↑x0.boxes.length : Int)) then
  bif decide ((0 : Int) ≤ x2) then
   bif decide (x2 < (↑x0.boxes.length : Int)) then
    bif decide ((0 : Int) ≤ x2) then
     bif decide (x2 < (↑x1.boxes.length : Int)) then
      match C_ref02_Same (x0.boxes.getD x2.toNat ([] : List Entry), x1.boxes.getD x2.toNat ([] : List Entry)) with
      | some y1 =>
       bif !y1 then
        some (Sum.inr (Sum.inr false))
       else
        some (Sum.inl (x0, x1, wrapA IntKind.i64 (x2 + (1 : Int))))
      | none => none
     else
      none
    else
     none
   else
    none
  else
   none
 else
  some (Sum.inr (Sum.inl ()))
noncomputable def T_ref03_Same_4 (x : Memo × Memo × Int) : Option ((Memo × Memo × Int) ⊕ ((Unit) ⊕ (Bool))) := S_ref03_Same_4 x.1 x.2.1 x.2.2
noncomputable def W_ref03_Same_4 (x : Memo × Memo × Int) : Option ((Unit) ⊕ (Bool)) := whileM T_ref03_Same_4 x
noncomputable def F_ref03_Same (x0 : Memo) (x1 : Memo) : Option (Bool) :=
 match C_ref02_Ints (x0.words, x1.words) with
 | some y1 =>
  bif !y1 then
   some (false)
  else
   bif (↑x0.boxes.length : Int) != (↑x1.boxes.length : Int) then
    some (false)
   else
    match W_ref03_Same_4 (x0, x1, (0 : Int)) with
    | some (.inl y2) =>
     some (true)
    | some (.inr y3) =>
     some (y3)
    | none => none
 | none => none
noncomputable def C_ref03_Same (x : Memo × Memo) : Option (Bool) := F_ref03_Same x.1 x.2

/- millstream/millstreamref10.Same -/
noncomputable def S_ref10_Same_4 (x0 : Thread) (x1 : Thread) (x2 : Int) : Option ((Thread × Thread × Int) ⊕ ((Thread × Thread) ⊕ (Bool))) :=
 bif decide (x2 < (↑x0.kids.length : Int)) then
  bif decide ((0 : Int) ≤ x2) then
   bif decide (x2 < (↑x0.kids.length : Int)) then
    bif decide ((0 : Int) ≤ x2) then
     bif decide (x2 < (↑x1.kids.length : Int)) then
      bif !((x0.kids.getD x2.toNat dKid).t == (x1.kids.getD x2.toNat dKid).t && ((x0.kids.getD x2.toNat dKid).ahead == (x1.kids.getD x2.toNat dKid).ahead && true)) then
       some (Sum.inr (Sum.inr false))
      else
       some (Sum.inl (x0, x1, wrapA IntKind.i64 (x2 + (1 : Int))))
     else
      none
    else
     none
   else
    none
  else
   none
 else
  some (Sum.inr (Sum.inl (x0, x1)))
noncomputable def T_ref10_Same_4 (x : Thread × Thread × Int) : Option ((Thread × Thread × Int) ⊕ ((Thread × Thread) ⊕ (Bool))) := S_ref10_Same_4 x.1 x.2.1 x.2.2
noncomputable def W_ref10_Same_4 (x : Thread × Thread × Int) : Option ((Thread × Thread) ⊕ (Bool)) := whileM T_ref10_Same_4 x
noncomputable def F_ref10_Same (x0 : Thread) (x1 : Thread) : Option (Bool) :=
 match C_ref02_Same (x0.batch, x1.batch) with
 | some y1 =>
  bif !y1 then
   some (false)
  else
   match C_ref02_Ints (x0.held, x1.held) with
   | some y2 =>
    bif !y2 then
     some (false)
    else
     bif (↑x0.kids.length : Int) != (↑x1.kids.length : Int) then
      some (false)
     else
      match W_ref10_Same_4 (x0, x1, (0 : Int)) with
      | some (.inl y3) =>
       bif y3.fst.phase == y3.snd.phase then
        bif y3.fst.item == y3.snd.item then
         bif y3.fst.op.tag == y3.snd.op.tag && (y3.fst.op.v == y3.snd.op.v && true) then
          bif y3.fst.stop == y3.snd.stop then
           bif y3.fst.node == y3.snd.node then
            bif y3.fst.at_ == y3.snd.at_ then
             bif y3.fst.layer == y3.snd.layer then
              bif y3.fst.left == y3.snd.left then
               bif y3.fst.width == y3.snd.width then
                bif y3.fst.who == y3.snd.who then
                 bif y3.fst.x == y3.snd.x then
                  bif y3.fst.y == y3.snd.y then
                   some (y3.fst.until_ == y3.snd.until_)
                  else
                   some (false)
                 else
                  some (false)
                else
                 some (false)
               else
                some (false)
              else
               some (false)
             else
              some (false)
            else
             some (false)
           else
            some (false)
          else
           some (false)
         else
          some (false)
        else
         some (false)
       else
        some (false)
      | some (.inr y4) =>
       some (y4)
      | none => none
   | none => none
 | none => none
noncomputable def C_ref10_Same (x : Thread × Thread) : Option (Bool) := F_ref10_Same x.1 x.2

/- millstream/millstreamref04.Same -/
noncomputable def S_ref04_Same_4 (x0 : Tape) (x1 : Tape) (x2 : Int) : Option ((Tape × Tape × Int) ⊕ ((Unit) ⊕ (Bool))) :=
 bif decide (x2 < (↑x0.l.length : Int)) then
  bif decide ((0 : Int) ≤ x2) then
   bif decide (x2 < (↑x0.l.length : Int)) then
    bif decide ((0 : Int) ≤ x2) then
     bif decide (x2 < (↑x1.l.length : Int)) then
      bif x0.l.getD x2.toNat (0 : Int) != x1.l.getD x2.toNat (0 : Int) then
       some (Sum.inr (Sum.inr false))
      else
       some (Sum.inl (x0, x1, wrapA IntKind.i64 (x2 + (1 : Int))))
     else
      none
    else
     none
   else
    none
  else
   none
 else
  some (Sum.inr (Sum.inl ()))
noncomputable def T_ref04_Same_4 (x : Tape × Tape × Int) : Option ((Tape × Tape × Int) ⊕ ((Unit) ⊕ (Bool))) := S_ref04_Same_4 x.1 x.2.1 x.2.2
noncomputable def W_ref04_Same_4 (x : Tape × Tape × Int) : Option ((Unit) ⊕ (Bool)) := whileM T_ref04_Same_4 x
noncomputable def F_ref04_Same (x0 : Tape) (x1 : Tape) : Option (Bool) :=
 bif x0.at_ != x1.at_ then
  some (false)
 else
  bif (↑x0.l.length : Int) != (↑x1.l.length : Int) then
   some (false)
  else
   match W_ref04_Same_4 (x0, x1, (0 : Int)) with
   | some (.inl y1) =>
    some (true)
   | some (.inr y2) =>
    some (y2)
   | none => none
noncomputable def C_ref04_Same (x : Tape × Tape) : Option (Bool) := F_ref04_Same x.1 x.2

/- millstream/millstreamref10.Marks -/
noncomputable def S_ref10_Marks_4 (x0 : List Mark) (x1 : List Mark) (x2 : Int) : Option (((List Mark) × (List Mark) × Int) ⊕ ((Unit) ⊕ (Bool))) :=
 bif decide (x2 < (↑x0.length : Int)) then
  bif decide ((0 : Int) ≤ x2) then
   bif decide (x2 < (↑x0.length : Int)) then
    bif decide ((0 : Int) ≤ x2) then
     bif decide (x2 < (↑x1.length : Int)) then
      bif !((x0.getD x2.toNat dMark).t == (x1.getD x2.toNat dMark).t && ((x0.getD x2.toNat dMark).item == (x1.getD x2.toNat dMark).item && ((x0.getD x2.toNat dMark).op.tag == (x1.getD x2.toNat dMark).op.tag && ((x0.getD x2.toNat dMark).op.v == (x1.getD x2.toNat dMark).op.v && true) && ((x0.getD x2.toNat dMark).prior == (x1.getD x2.toNat dMark).prior && ((x0.getD x2.toNat dMark).step == (x1.getD x2.toNat dMark).step && true))))) then
       some (Sum.inr (Sum.inr false))
      else
       some (Sum.inl (x0, x1, wrapA IntKind.i64 (x2 + (1 : Int))))
     else
      none
    else
     none
   else
    none
  else
   none
 else
  some (Sum.inr (Sum.inl ()))
noncomputable def T_ref10_Marks_4 (x : (List Mark) × (List Mark) × Int) : Option (((List Mark) × (List Mark) × Int) ⊕ ((Unit) ⊕ (Bool))) := S_ref10_Marks_4 x.1 x.2.1 x.2.2
noncomputable def W_ref10_Marks_4 (x : (List Mark) × (List Mark) × Int) : Option ((Unit) ⊕ (Bool)) := whileM T_ref10_Marks_4 x
noncomputable def F_ref10_Marks (x0 : List Mark) (x1 : List Mark) : Option (Bool) :=
 bif (↑x0.length : Int) != (↑x1.length : Int) then
  some (false)
 else
  match W_ref10_Marks_4 (x0, x1, (0 : Int)) with
  | some (.inl y1) =>
   some (true)
  | some (.inr y2) =>
   some (y2)
  | none => none
noncomputable def C_ref10_Marks (x : (List Mark) × (List Mark)) : Option (Bool) := F_ref10_Marks x.1 x.2

/- millstream/millstreamref10.Alike -/
noncomputable def F_ref10_Alike (x0 : Turn) (x1 : Turn) : Option (Bool) :=
 bif x0.c.threads == x1.c.threads && (x0.c.items == x1.c.items && (x0.c.backend == x1.c.backend && (x0.c.depth == x1.c.depth && (x0.c.layers == x1.c.layers && (x0.c.width == x1.c.width && (x0.c.spin == x1.c.spin && (x0.c.wait == x1.c.wait && (x0.c.bounded == x1.c.bounded && (x0.c.lo == x1.c.lo && (x0.c.hi == x1.c.hi && (x0.c.init == x1.c.init && true))))))))))) then
  bif x0.t == x1.t then
   bif x0.now == x1.now then
    match C_ref03_Same (x0.m, x1.m) with
    | some y1 =>
     bif y1 then
      match C_ref10_Same (x0.th, x1.th) with
      | some y2 =>
       bif y2 then
        match C_ref04_Same (x0.tape, x1.tape) with
        | some y3 =>
         bif y3 then
          match C_ref10_Marks (x0.log, x1.log) with
          | some y4 =>
           bif y4 then
            some (x0.done == x1.done)
           else
            some (false)
          | none => none
         else
          some (false)
        | none => none
       else
        some (false)
      | none => none
     else
      some (false)
    | none => none
   else
    some (false)
  else
   some (false)
 else
  some (false)
noncomputable def C_ref10_Alike (x : Turn × Turn) : Option (Bool) := F_ref10_Alike x.1 x.2

/- millstream/millstreamlaw13.ClimbSteps -/
noncomputable def F_law13_ClimbSteps (x0 : Turn) : Option (Bool) :=
 match C_law13_big x0 with
 | some y1 =>
  bif y1 then
   match C_law13_shown () with
   | some y2 =>
    some (y2)
   | none => none
  else
   match C_law13_may x0 with
   | some y2 =>
    bif !y2 then
     match C_law13_shown () with
     | some y3 =>
      some (y3)
     | none => none
    else
     match C_law13_shown () with
     | some y3 =>
      bif !y3 then
       match C_law13_shown () with
       | some y4 =>
        some (y4)
       | none => none
      else
       match C_climb_Step x0 with
       | some y4 =>
        match C_law13_its x0 with
        | some y5 =>
         match C_ref13_Step y5 with
         | some y6 =>
          bif y4.snd == y6.snd then
           match C_law13_its y4.fst with
           | some y7 =>
            match C_ref10_Alike (y7, y6.fst) with
            | some y8 =>
             bif y8 then
              match C_climb_Down x0 with
              | some y9 =>
               match C_law13_its y9 with
               | some y10 =>
                match C_law13_its x0 with
                | some y11 =>
                 match C_ref13_Down y11 with
                 | some y12 =>
                  match C_ref10_Alike (y10, y12) with
                  | some y13 =>
                   some (y13)
                  | none => none
                 | none => none
                | none => none
               | none => none
              | none => none
             else
              some (false)
            | none => none
           | none => none
          else
           some (false)
         | none => none
        | none => none
       | none => none
     | none => none
   | none => none
 | none => none
noncomputable def C_law13_ClimbSteps (x : Turn) : Option (Bool) := F_law13_ClimbSteps x

/- millstream/millstreamref07.Leaf -/
noncomputable def S_ref07_Leaf_5 (x0 : Int) (x1 : Int) (x2 : Int) (x3 : Int) : Option ((Int × Int × Int × Int) ⊕ ((Int × Int))) :=
 bif decide (x3 < x0) then
  some (Sum.inl (x0, x1, wrapA IntKind.i64 ((2 : Int) * x2), wrapA IntKind.i64 (x3 + (1 : Int))))
 else
  some (Sum.inr (x1, x2))
noncomputable def T_ref07_Leaf_5 (x : Int × Int × Int × Int) : Option ((Int × Int × Int × Int) ⊕ ((Int × Int))) := S_ref07_Leaf_5 x.1 x.2.1 x.2.2.1 x.2.2.2
noncomputable def W_ref07_Leaf_5 (x : Int × Int × Int × Int) : Option ((Int × Int)) := whileM T_ref07_Leaf_5 x
noncomputable def F_ref07_Leaf (x0 : Int) (x1 : Int) : Option (Int) :=
 bif decide (x0 < (1 : Int)) then
  some ((0 : Int))
 else
  match W_ref07_Leaf_5 (x0, x1, (1 : Int), (1 : Int)) with
  | some y1 =>
   bif decide (y1.snd = (0 : Int)) then
    none
   else
    some (wrapA IntKind.i64 (y1.snd + (wrapA IntKind.i64 (Int.tdiv y1.fst (2 : Int))).tmod y1.snd))
  | none => none
noncomputable def C_ref07_Leaf (x : Int × Int) : Option (Int) := F_ref07_Leaf x.1 x.2

/- millstream/millstreamref07.Path -/
noncomputable def S_ref07_Path_3 (x0 : List Int) (x1 : Int) : Option (((List Int) × Int) ⊕ (((List Int)))) :=
 bif decide (x1 > (0 : Int)) then
  bif fewB (x0.length + (x1 :: ([] : List Int)).length) then
   match C_ref07_Parent x1 with
   | some y1 =>
    some (Sum.inl (x0 ++ x1 :: ([] : List Int), y1))
   | none => none
  else
   none
 else
  some (Sum.inr x0)
noncomputable def T_ref07_Path_3 (x : (List Int) × Int) : Option (((List Int) × Int) ⊕ (((List Int)))) := S_ref07_Path_3 x.1 x.2
noncomputable def W_ref07_Path_3 (x : (List Int) × Int) : Option (((List Int))) := whileM T_ref07_Path_3 x
noncomputable def F_ref07_Path (x0 : Int) (x1 : Int) : Option ((List Int)) :=
 match C_ref07_Leaf (x0, x1) with
 | some y1 =>
  match W_ref07_Path_3 (([] : List Int), y1) with
  | some y2 =>
   some (y2)
  | none => none
 | none => none
noncomputable def C_ref07_Path (x : Int × Int) : Option ((List Int)) := F_ref07_Path x.1 x.2

/- millstream/millstreamlaw13.ClimbAlone -/
noncomputable def S_law13_ClimbAlone_16 (x0 : Config) (x1 : Int) (x2 : Turn) (x3 : Int) : Option ((Config × Int × Turn × Int) ⊕ ((Unit) ⊕ (Bool))) :=
 bif decide (x3 < (↑x2.th.held.length : Int)) then
  bif decide ((0 : Int) ≤ x3) then
   bif decide (x3 < (↑x2.th.held.length : Int)) then
    match C_ref06_Node (x0, x2.th.item, x2.th.held.getD x3.toNat (0 : Int)) with
    | some y1 =>
     bif decide ((0 : Int) ≤ y1) then
      bif decide (y1 < (↑x2.m.words.length : Int)) then
       match C_code_First x1 with
       | some y2 =>
        bif x2.m.words.getD (Int.toNat y1) (0 : Int) != y2 then
         some (Sum.inr (Sum.inr false))
        else
         some (Sum.inl (x0, x1, x2, wrapA IntKind.i64 (x3 + (1 : Int))))
       | none => none
      else
       none
     else
      none
    | none => none
   else
    none
  else
   none
 else
  some (Sum.inr (Sum.inl ()))
noncomputable def T_law13_ClimbAlone_16 (x : Config × Int × Turn × Int) : Option ((Config × Int × Turn × Int) ⊕ ((Unit) ⊕ (Bool))) := S_law13_ClimbAlone_16 x.1 x.2.1 x.2.2.1 x.2.2.2
noncomputable def W_law13_ClimbAlone_16 (x : Config × Int × Turn × Int) : Option ((Unit) ⊕ (Bool)) := whileM T_law13_ClimbAlone_16 x
noncomputable def S_law13_ClimbAlone_7 (x0 : Config) (x1 : Config) (x2 : Int) (x3 : Turn) (x4 : Int) : Option ((Config × Config × Int × Turn × Int) ⊕ ((Config × Config × Int × Turn) ⊕ (Bool))) :=
 bif decide (x4 < wrapA IntKind.i64 ((2 : Int) * x0.depth)) then
  match C_climb_Step x3 with
  | some y1 =>
   bif !y1.snd then
    some (Sum.inr (Sum.inr false))
   else
    some (Sum.inl (x0, x1, x2, y1.fst, wrapA IntKind.i64 (x4 + (1 : Int))))
  | none => none
 else
  some (Sum.inr (Sum.inl (x0, x1, x2, x3)))
noncomputable def T_law13_ClimbAlone_7 (x : Config × Config × Int × Turn × Int) : Option ((Config × Config × Int × Turn × Int) ⊕ ((Config × Config × Int × Turn) ⊕ (Bool))) := S_law13_ClimbAlone_7 x.1 x.2.1 x.2.2.1 x.2.2.2.1 x.2.2.2.2
noncomputable def W_law13_ClimbAlone_7 (x : Config × Config × Int × Turn × Int) : Option ((Config × Config × Int × Turn) ⊕ (Bool)) := whileM T_law13_ClimbAlone_7 x
noncomputable def F_law13_ClimbAlone (x0 : Config) (x1 : Int) (x2 : Int) : Option (Bool) :=
 match C_ref05_Check x0 with
 | some y1 =>
  bif y1 != (0 : Int) then
   match C_law13_shown () with
   | some y2 =>
    some (y2)
   | none => none
  else
   bif decide (x0.depth < (1 : Int)) then
    match C_law13_shown () with
    | some y2 =>
     some (y2)
    | none => none
   else
    match C_law13_shown () with
    | some y2 =>
     bif !y2 then
      match C_law13_shown () with
      | some y3 =>
       some (y3)
      | none => none
     else
      bif decide (x0.threads = (0 : Int)) then
       none
      else
       match C_arena_Build x0 with
       | some y3 =>
        bif decide (x0.items = (0 : Int)) then
         none
        else
         match C_ref07_Leaf (x0.depth, (IntKind.i64.wrap x1).tmod x0.threads) with
         | some y4 =>
          match W_law13_ClimbAlone_7 (x0, x0, (IntKind.i64.wrap x1).tmod x0.threads, Turn.mk x0 ((IntKind.i64.wrap x1).tmod x0.threads) (0 : Int) y3 (Thread.mk (4 : Int) ((IntKind.i64.wrap x2).tmod x0.items) (Op.mk (0 : Int) (0 : Int)) ([] : List Entry) ([] : List Kid) ([] : List Int) (0 : Int) y4 (0 : Int) (0 : Int) (0 : Int) (0 : Int) (0 : Int) (0 : Int) (0 : Int) (0 : Int)) (Tape.mk ([] : List Int) (0 : Int)) ([] : List Mark) false, (0 : Int)) with
          | some (.inl y5) =>
           bif y5.snd.snd.snd.th.phase != (7 : Int) then
            some (false)
           else
            bif y5.snd.snd.snd.th.at_ != (0 : Int) then
             some (false)
            else
             bif y5.snd.snd.snd.th.stop != (0 : Int) then
              some (false)
             else
              match C_ref06_Size y5.snd.fst with
              | some y6 =>
               bif (↑y5.snd.snd.snd.m.words.length : Int) != y6 then
                some (false)
               else
                match C_ref07_Path (y5.fst.depth, y5.snd.snd.fst) with
                | some y7 =>
                 match C_ref02_Ints (y5.snd.snd.snd.th.held, y7) with
                 | some y8 =>
                  bif !y8 then
                   some (false)
                  else
                   match W_law13_ClimbAlone_16 (y5.snd.fst, y5.snd.snd.fst, y5.snd.snd.snd, (0 : Int)) with
                   | some (.inl y9) =>
                    some (true)
                   | some (.inr y10) =>
                    some (y10)
                   | none => none
                 | none => none
                | none => none
              | none => none
          | some (.inr y6) =>
           some (y6)
          | none => none
         | none => none
       | none => none
    | none => none
 | none => none
noncomputable def C_law13_ClimbAlone (x : Config × Int × Int) : Option (Bool) := F_law13_ClimbAlone x.1 x.2.1 x.2.2

/- millstream/millstreamlaw13.ClimbJoins -/
noncomputable def F_law13_ClimbJoins (x0 : Turn) (x1 : Int) (x2 : Int) : Option (Bool) :=
 match C_law13_big x0 with
 | some y1 =>
  bif y1 then
   match C_law13_shown () with
   | some y2 =>
    some (y2)
   | none => none
  else
   match C_law13_may x0 with
   | some y2 =>
    bif !y2 then
     match C_law13_shown () with
     | some y3 =>
      some (y3)
     | none => none
    else
     match C_ref06_Node (x0.c, x0.th.item, x0.th.node) with
     | some y3 =>
      bif decide (y3 < (0 : Int)) then
       match C_law13_shown () with
       | some y4 =>
        some (y4)
       | none => none
      else
       match C_law13_shown () with
       | some y4 =>
        bif !y4 then
         match C_law13_shown () with
         | some y5 =>
          some (y5)
         | none => none
        else
         bif decide (x0.c.threads = (0 : Int)) then
          none
         else
          match C_ref06_Node (x0.c, x0.th.item, x0.th.node) with
          | some y5 =>
           bif fewB ((0 : Nat) + x0.m.words.length) then
            match C_code_First ((IntKind.i64.wrap x1).tmod x0.c.threads) with
            | some y6 =>
             bif decide ((0 : Int) ≤ y5) then
              bif decide (y5 < (↑x0.m.words.length : Int)) then
               match C_climb_Step { x0 with m := { x0.m with words := x0.m.words.set (Int.toNat y5) y6 }, th := { x0.th with phase := (4 : Int) } } with
               | some y7 =>
                match C_climb_Step y7.fst with
                | some y8 =>
                 bif !y7.snd then
                  some (false)
                 else
                  bif !y8.snd then
                   some (false)
                  else
                   bif y7.fst.th.phase != (6 : Int) then
                    some (false)
                   else
                    bif y8.fst.th.stop != x0.th.node then
                     some (false)
                    else
                     bif (↑y8.fst.m.words.length : Int) != (↑(x0.m.words.set (Int.toNat y5) y6).length : Int) then
                      some (false)
                     else
                      bif decide ((0 : Int) ≤ y5) then
                       bif decide (y5 < (↑y8.fst.m.words.length : Int)) then
                        match C_code_Joined x0.t with
                        | some y9 =>
                         bif y8.fst.m.words.getD (Int.toNat y5) (0 : Int) != y9 then
                          some (false)
                         else
                          bif y8.fst.th.phase == (4 : Int) then
                           some (false)
                          else
                           bif decide (x0.c.threads = (0 : Int)) then
                            none
                           else
                            match C_climb_Step (Turn.mk x0.c ((IntKind.i64.wrap x2).tmod x0.c.threads) x0.now y8.fst.m { x0.th with phase := (4 : Int) } (Tape.mk ([] : List Int) (0 : Int)) ([] : List Mark) false) with
                            | some y10 =>
                             match C_thread_Late (Turn.mk x0.c ((IntKind.i64.wrap x2).tmod x0.c.threads) x0.now y8.fst.m { x0.th with phase := (4 : Int) } (Tape.mk ([] : List Int) (0 : Int)) ([] : List Mark) false) with
                             | some y11 =>
                              bif y11 then
                               bif y10.snd then
                                bif y10.fst.th.phase != (4 : Int) then
                                 some (y10.fst.th.stop == x0.th.stop)
                                else
                                 some (false)
                               else
                                some (false)
                              else
                               bif y10.snd then
                                match C_law13_its y10.fst with
                                | some y12 =>
                                 match C_law13_its (Turn.mk x0.c ((IntKind.i64.wrap x2).tmod x0.c.threads) x0.now y8.fst.m { x0.th with phase := (4 : Int) } (Tape.mk ([] : List Int) (0 : Int)) ([] : List Mark) false) with
                                 | some y13 =>
                                  match C_ref10_Alike (y12, y13) with
                                  | some y14 =>
                                   some (y14)
                                  | none => none
                                 | none => none
                                | none => none
                               else
                                some (false)
                             | none => none
                            | none => none
                        | none => none
                       else
                        none
                      else
                       none
                | none => none
               | none => none
              else
               none
             else
              none
            | none => none
           else
            none
          | none => none
       | none => none
     | none => none
   | none => none
 | none => none
noncomputable def C_law13_ClimbJoins (x : Turn × Int × Int) : Option (Bool) := F_law13_ClimbJoins x.1 x.2.1 x.2.2

/- millstream/millstreamlaw13.ClimbRace -/
noncomputable def F_law13_ClimbRace (x0 : Turn) (x1 : Int) : Option (Bool) :=
 match C_law13_big x0 with
 | some y1 =>
  bif y1 then
   match C_law13_shown () with
   | some y2 =>
    some (y2)
   | none => none
  else
   match C_law13_may x0 with
   | some y2 =>
    bif !y2 then
     match C_law13_shown () with
     | some y3 =>
      some (y3)
     | none => none
    else
     bif decide (x0.c.threads < (2 : Int)) then
      match C_law13_shown () with
      | some y3 =>
       some (y3)
      | none => none
     else
      match C_ref06_Node (x0.c, x0.th.item, x0.th.node) with
      | some y3 =>
       bif decide (y3 < (0 : Int)) then
        match C_law13_shown () with
        | some y4 =>
         some (y4)
        | none => none
       else
        match C_law13_shown () with
        | some y4 =>
         bif !y4 then
          match C_law13_shown () with
          | some y5 =>
           some (y5)
          | none => none
         else
          match C_ref06_Node (x0.c, x0.th.item, x0.th.node) with
          | some y5 =>
           bif fewB ((0 : Nat) + x0.m.words.length) then
            bif decide ((0 : Int) ≤ y5) then
             bif decide (y5 < (↑x0.m.words.length : Int)) then
              bif decide (wrapA IntKind.i64 (x0.c.threads - (1 : Int)) = (0 : Int)) then
               none
              else
               bif decide (x0.c.threads = (0 : Int)) then
                none
               else
                match C_climb_Step { x0 with m := { x0.m with words := x0.m.words.set (Int.toNat y5) (0 : Int) }, th := { x0.th with phase := (4 : Int) } } with
                | some y6 =>
                 match C_climb_Step { x0 with t := (wrapA IntKind.i64 (wrapA IntKind.i64 (x0.t + (1 : Int)) + (IntKind.i64.wrap x1).tmod (wrapA IntKind.i64 (x0.c.threads - (1 : Int))))).tmod x0.c.threads, m := { x0.m with words := x0.m.words.set (Int.toNat y5) (0 : Int) }, th := { x0.th with phase := (4 : Int) } } with
                 | some y7 =>
                  bif y6.fst.th.phase != (5 : Int) then
                   some (false)
                  else
                   bif y7.fst.th.phase != (5 : Int) then
                    some (false)
                   else
                    match C_climb_Step y6.fst with
                    | some y8 =>
                     bif (↑y8.fst.m.words.length : Int) != (↑(x0.m.words.set (Int.toNat y5) (0 : Int)).length : Int) then
                      some (false)
                     else
                      bif (↑y8.fst.th.held.length : Int) != wrapA IntKind.i64 ((↑x0.th.held.length : Int) + (1 : Int)) then
                       some (false)
                      else
                       bif decide ((0 : Int) ≤ y5) then
                        bif decide (y5 < (↑y8.fst.m.words.length : Int)) then
                         match C_code_First x0.t with
                         | some y9 =>
                          bif y8.fst.m.words.getD (Int.toNat y5) (0 : Int) != y9 then
                           some (false)
                          else
                           match C_climb_Step { y7.fst with m := y8.fst.m } with
                           | some y10 =>
                            match C_climb_Step y10.fst with
                            | some y11 =>
                             match C_climb_Step y11.fst with
                             | some y12 =>
                              bif y10.fst.th.phase == (4 : Int) then
                               bif (↑y10.fst.th.held.length : Int) == (↑x0.th.held.length : Int) then
                                bif y11.fst.th.phase == (6 : Int) then
                                 bif y12.fst.th.stop == x0.th.node then
                                  bif (↑y12.fst.m.words.length : Int) == (↑(x0.m.words.set (Int.toNat y5) (0 : Int)).length : Int) then
                                   bif decide ((0 : Int) ≤ y5) then
                                    bif decide (y5 < (↑y12.fst.m.words.length : Int)) then
                                     match C_code_Joined ((wrapA IntKind.i64 (wrapA IntKind.i64 (x0.t + (1 : Int)) + (IntKind.i64.wrap x1).tmod (wrapA IntKind.i64 (x0.c.threads - (1 : Int))))).tmod x0.c.threads) with
                                     | some y13 =>
                                      some (y12.fst.m.words.getD (Int.toNat y5) (0 : Int) == y13)
                                     | none => none
                                    else
                                     none
                                   else
                                    none
                                  else
                                   some (false)
                                 else
                                  some (false)
                                else
                                 some (false)
                               else
                                some (false)
                              else
                               some (false)
                             | none => none
                            | none => none
                           | none => none
                         | none => none
                        else
                         none
                       else
                        none
                    | none => none
                 | none => none
                | none => none
             else
              none
            else
             none
           else
            none
          | none => none
        | none => none
      | none => none
   | none => none
 | none => none
noncomputable def C_law13_ClimbRace (x : Turn × Int) : Option (Bool) := F_law13_ClimbRace x.1 x.2

/- millstream/millstreamlaw13.ClimbDown -/
noncomputable def F_law13_ClimbDown (x0 : Turn) : Option (Bool) :=
 match C_law13_big x0 with
 | some y1 =>
  bif y1 then
   match C_law13_shown () with
   | some y2 =>
    some (y2)
   | none => none
  else
   match C_law13_may x0 with
   | some y2 =>
    bif !y2 then
     match C_law13_shown () with
     | some y3 =>
      some (y3)
     | none => none
    else
     match C_law13_shown () with
     | some y3 =>
      bif !y3 then
       match C_law13_shown () with
       | some y4 =>
        some (y4)
       | none => none
      else
       match C_climb_Down x0 with
       | some y4 =>
        bif decide (x0.th.at_ ≥ (0 : Int)) then
         match C_law13_its { y4 with th := { y4.th with phase := x0.th.phase } } with
         | some y5 =>
          match C_law13_its x0 with
          | some y6 =>
           match C_ref10_Alike (y5, y6) with
           | some y7 =>
            bif y7 then
             bif (y4.th.phase == (7 : Int)) == decide (x0.th.at_ < (↑x0.th.held.length : Int)) then
              bif !decide (x0.th.at_ < (↑x0.th.held.length : Int)) then
               bif (y4.th.phase == (11 : Int)) == decide (x0.th.stop > (0 : Int)) then
                bif !decide (x0.th.at_ < (↑x0.th.held.length : Int)) then
                 some ((y4.th.phase == (2 : Int)) == decide (x0.th.stop ≤ (0 : Int)))
                else
                 some ((y4.th.phase == (2 : Int)) == false)
               else
                some (false)
              else
               bif (y4.th.phase == (11 : Int)) == false then
                bif !decide (x0.th.at_ < (↑x0.th.held.length : Int)) then
                 some ((y4.th.phase == (2 : Int)) == decide (x0.th.stop ≤ (0 : Int)))
                else
                 some ((y4.th.phase == (2 : Int)) == false)
               else
                some (false)
             else
              some (false)
            else
             some (false)
           | none => none
          | none => none
         | none => none
        else
         match C_law13_its { y4 with th := { y4.th with phase := x0.th.phase } } with
         | some y5 =>
          match C_law13_its x0 with
          | some y6 =>
           match C_ref10_Alike (y5, y6) with
           | some y7 =>
            bif y7 then
             bif (y4.th.phase == (7 : Int)) == false then
              bif (y4.th.phase == (11 : Int)) == decide (x0.th.stop > (0 : Int)) then
               some ((y4.th.phase == (2 : Int)) == decide (x0.th.stop ≤ (0 : Int)))
              else
               some (false)
             else
              some (false)
            else
             some (false)
           | none => none
          | none => none
         | none => none
       | none => none
     | none => none
   | none => none
 | none => none
noncomputable def C_law13_ClimbDown (x : Turn) : Option (Bool) := F_law13_ClimbDown x

/- millstream/millstreamlaw13.ClimbOther -/
noncomputable def S_law13_ClimbOther_13 (x0 : Turn) (x1 : Turn) (x2 : Int) (x3 : Int) : Option ((Turn × Turn × Int × Int) ⊕ ((Unit) ⊕ (Bool))) :=
 bif decide (x3 < (↑x0.m.words.length : Int)) then
  bif decide ((0 : Int) ≤ x3) then
   bif decide (x3 < (↑x1.m.words.length : Int)) then
    bif decide ((0 : Int) ≤ x3) then
     bif decide (x3 < (↑x0.m.words.length : Int)) then
      bif x1.m.words.getD x3.toNat (0 : Int) != x0.m.words.getD x3.toNat (0 : Int) then
       bif x3 != x2 then
        some (Sum.inr (Sum.inr false))
       else
        bif decide ((0 : Int) ≤ x3) then
         bif decide (x3 < (↑x1.m.words.length : Int)) then
          match C_code_First x0.t with
          | some y1 =>
           bif x1.m.words.getD x3.toNat (0 : Int) != y1 then
            bif decide ((0 : Int) ≤ x3) then
             bif decide (x3 < (↑x1.m.words.length : Int)) then
              match C_code_Joined x0.t with
              | some y2 =>
               bif x1.m.words.getD x3.toNat (0 : Int) != y2 then
                some (Sum.inr (Sum.inr false))
               else
                some (Sum.inl (x0, x1, x2, wrapA IntKind.i64 (x3 + (1 : Int))))
              | none => none
             else
              none
            else
             none
           else
            some (Sum.inl (x0, x1, x2, wrapA IntKind.i64 (x3 + (1 : Int))))
          | none => none
         else
          none
        else
         none
      else
       some (Sum.inl (x0, x1, x2, wrapA IntKind.i64 (x3 + (1 : Int))))
     else
      none
    else
     none
   else
    none
  else
   none
 else
  some (Sum.inr (Sum.inl ()))
noncomputable def T_law13_ClimbOther_13 (x : Turn × Turn × Int × Int) : Option ((Turn × Turn × Int × Int) ⊕ ((Unit) ⊕ (Bool))) := S_law13_ClimbOther_13 x.1 x.2.1 x.2.2.1 x.2.2.2
noncomputable def W_law13_ClimbOther_13 (x : Turn × Turn × Int × Int) : Option ((Unit) ⊕ (Bool)) := whileM T_law13_ClimbOther_13 x
noncomputable def S_law13_ClimbOther_7 (x0 : Turn) (x1 : Turn) (x2 : Int) : Option ((Turn × Turn × Int) ⊕ ((Turn × Turn) ⊕ (Bool))) :=
 bif decide (x2 < (↑x0.m.boxes.length : Int)) then
  bif decide ((0 : Int) ≤ x2) then
   bif decide (x2 < (↑x0.m.boxes.length : Int)) then
    match C_law13_entries (x0.m.boxes.getD x2.toNat ([] : List Entry)) with
    | some y1 =>
     bif decide ((0 : Int) ≤ x2) then
      bif decide (x2 < (↑x1.m.boxes.length : Int)) then
       match C_law13_entries (x1.m.boxes.getD x2.toNat ([] : List Entry)) with
       | some y2 =>
        match C_ref02_Same (y1, y2) with
        | some y3 =>
         bif !y3 then
          some (Sum.inr (Sum.inr false))
         else
          some (Sum.inl (x0, x1, wrapA IntKind.i64 (x2 + (1 : Int))))
        | none => none
       | none => none
      else
       none
     else
      none
    | none => none
   else
    none
  else
   none
 else
  some (Sum.inr (Sum.inl (x0, x1)))
noncomputable def T_law13_ClimbOther_7 (x : Turn × Turn × Int) : Option ((Turn × Turn × Int) ⊕ ((Turn × Turn) ⊕ (Bool))) := S_law13_ClimbOther_7 x.1 x.2.1 x.2.2
noncomputable def W_law13_ClimbOther_7 (x : Turn × Turn × Int) : Option ((Turn × Turn) ⊕ (Bool)) := whileM T_law13_ClimbOther_7 x
noncomputable def F_law13_ClimbOther (x0 : Turn) : Option (Bool) :=
 match C_law13_big x0 with
 | some y1 =>
  bif y1 then
   match C_law13_shown () with
   | some y2 =>
    some (y2)
   | none => none
  else
   match C_law13_may x0 with
   | some y2 =>
    bif !y2 then
     match C_law13_shown () with
     | some y3 =>
      some (y3)
     | none => none
    else
     match C_law13_shown () with
     | some y3 =>
      bif !y3 then
       match C_law13_shown () with
       | some y4 =>
        some (y4)
       | none => none
      else
       match C_climb_Step x0 with
       | some y4 =>
        bif (↑y4.fst.m.words.length : Int) != (↑x0.m.words.length : Int) then
         some (false)
        else
         bif (↑y4.fst.m.boxes.length : Int) != (↑x0.m.boxes.length : Int) then
          some (false)
         else
          match W_law13_ClimbOther_7 (x0, y4.fst, (0 : Int)) with
          | some (.inl y5) =>
           match C_ref06_Node (y5.fst.c, y5.fst.th.item, y5.fst.th.node) with
           | some y6 =>
            match W_law13_ClimbOther_13 (y5.fst, y5.snd, y6, (0 : Int)) with
            | some (.inl y7) =>
             some (true)
            | some (.inr y8) =>
             some (y8)
            | none => none
           | none => none
          | some (.inr y6) =>
           some (y6)
          | none => none
       | none => none
     | none => none
   | none => none
 | none => none
noncomputable def C_law13_ClimbOther (x : Turn) : Option (Bool) := F_law13_ClimbOther x

/- millstream/millstreamlaw14.big -/
noncomputable def S_law14_big_2 (x0 : Turn) (x1 : Int) : Option ((Turn × Int) ⊕ ((Turn) ⊕ (Bool))) :=
 bif decide (x1 < (↑x0.m.boxes.length : Int)) then
  bif decide (x1 < (20 : Int)) then
   bif decide ((0 : Int) ≤ x1) then
    bif decide (x1 < (↑x0.m.boxes.length : Int)) then
     bif decide ((↑(List.length (x0.m.boxes.getD x1.toNat ([] : List Entry))) : Int) > (20 : Int)) then
      some (Sum.inr (Sum.inr true))
     else
      some (Sum.inl (x0, wrapA IntKind.i64 (x1 + (1 : Int))))
    else
     none
   else
    none
  else
   some (Sum.inr (Sum.inl x0))
 else
  some (Sum.inr (Sum.inl x0))
noncomputable def T_law14_big_2 (x : Turn × Int) : Option ((Turn × Int) ⊕ ((Turn) ⊕ (Bool))) := S_law14_big_2 x.1 x.2
noncomputable def W_law14_big_2 (x : Turn × Int) : Option ((Turn) ⊕ (Bool)) := whileM T_law14_big_2 x
noncomputable def F_law14_big (x0 : Turn) : Option (Bool) :=
 match W_law14_big_2 (x0, (0 : Int)) with
 | some (.inl y1) =>
  bif decide ((↑y1.m.words.length : Int) > (400 : Int)) then
   some (true)
  else
   bif decide ((↑y1.m.boxes.length : Int) > (16 : Int)) then
    some (true)
   else
    bif decide ((↑y1.th.batch.length : Int) > (20 : Int)) then
     some (true)
    else
     bif decide ((↑y1.th.kids.length : Int) > (20 : Int)) then
      some (true)
     else
      bif decide ((↑y1.th.held.length : Int) > (20 : Int)) then
       some (true)
      else
       bif decide ((↑y1.tape.l.length : Int) > (100 : Int)) then
        some (true)
       else
        some (decide ((↑y1.log.length : Int) > (50 : Int)))
 | some (.inr y2) =>
  some (y2)
 | none => none
noncomputable def C_law14_big (x : Turn) : Option (Bool) := F_law14_big x

/- millstream/millstreamlaw14.may -/
noncomputable def F_law14_may (x0 : Turn) : Option (Bool) :=
 match C_ref05_Check x0.c with
 | some y1 =>
  bif y1 == (0 : Int) then
   bif decide (x0.t ≥ (0 : Int)) then
    bif decide (x0.t < x0.c.threads) then
     match C_ref06_Size x0.c with
     | some y2 =>
      bif (↑x0.m.words.length : Int) == y2 then
       bif (↑x0.m.boxes.length : Int) == x0.c.threads then
        bif decide (x0.th.item ≥ (0 : Int)) then
         some (decide (x0.th.item < x0.c.items))
        else
         some (false)
       else
        some (false)
      else
       some (false)
     | none => none
    else
     some (false)
   else
    some (false)
  else
   some (false)
 | none => none
noncomputable def C_law14_may (x : Turn) : Option (Bool) := F_law14_may x

/- millstream/gather.held -/
noncomputable def F_gather_held (x0 : Turn) : Option (Int) :=
 bif decide (x0.th.at_ < (0 : Int)) then
  some ((-1 : Int))
 else
  bif decide (x0.th.at_ ≥ (↑x0.th.held.length : Int)) then
   some ((-1 : Int))
  else
   bif decide ((0 : Int) ≤ x0.th.at_) then
    bif decide (x0.th.at_ < (↑x0.th.held.length : Int)) then
     match C_arena_Node (x0.c, x0.th.item, x0.th.held.getD x0.th.at_.toNat (0 : Int)) with
     | some y1 =>
      some (y1)
     | none => none
    else
     none
   else
    none
noncomputable def C_gather_held (x : Turn) : Option (Int) := F_gather_held x

/- millstream/code.Who -/
noncomputable def F_code_Who (x0 : Int) : Option (Int) :=
 match C_code_of x0 with
 | some y1 =>
  bif decide (y1.kind ≥ (1 : Int)) then
   bif decide (y1.kind ≤ (3 : Int)) then
    some (y1.n)
   else
    some ((-1 : Int))
  else
   some ((-1 : Int))
 | none => none
noncomputable def C_code_Who (x : Int) : Option (Int) := F_code_Who x

/- millstream/gather.look -/
noncomputable def F_gather_look (x0 : Turn) : Option (Turn) :=
 match C_gather_held x0 with
 | some y1 =>
  match C_wmem_Load (x0.m, y1) with
  | some y2 =>
   bif y2.snd != (0 : Int) then
    some (x0)
   else
    match C_code_First x0.t with
    | some y3 =>
     bif y2.fst == y3 then
      some ({ x0 with th := { x0.th with phase := (8 : Int) } })
     else
      match C_code_Kind y2.fst with
      | some y4 =>
       bif y4 == (3 : Int) then
        match C_code_Who y2.fst with
        | some y5 =>
         some ({ x0 with th := { x0.th with phase := (9 : Int), who := y5 } })
        | none => none
       else
        some (x0)
      | none => none
    | none => none
  | none => none
 | none => none
noncomputable def C_gather_look (x : Turn) : Option (Turn) := F_gather_look x

/- millstream/gather.next -/
noncomputable def F_gather_next (x0 : Turn) : Option (Turn) :=
 match C_climb_Down { x0 with th := { x0.th with at_ := wrapA IntKind.i64 (x0.th.at_ + (1 : Int)) } } with
 | some y1 =>
  some (y1)
 | none => none
noncomputable def C_gather_next (x : Turn) : Option (Turn) := F_gather_next x

/- millstream/gather.shut -/
noncomputable def F_gather_shut (x0 : Turn) : Option (Turn) :=
 match C_gather_held x0 with
 | some y1 =>
  match C_code_First x0.t with
  | some y2 =>
   match C_wmem_Cas (x0.m, y1, y2, (0 : Int)) with
   | some y3 =>
    bif !y3.snd.fst then
     bif y3.snd.snd != (0 : Int) then
      some (x0)
     else
      some ({ x0 with m := y3.fst, th := { x0.th with phase := (7 : Int) } })
    else
     bif y3.snd.snd != (0 : Int) then
      some (x0)
     else
      match C_gather_next { x0 with m := y3.fst } with
      | some y4 =>
       some (y4)
      | none => none
   | none => none
  | none => none
 | none => none
noncomputable def C_gather_shut (x : Turn) : Option (Turn) := F_gather_shut x

/- slices.Grow[[]millstream/thread.Kid,millstream/thread.Kid] -/
noncomputable def F_slices_Grow_thread_Kid (x0 : Unit) (x1 : Int) : Option ((List Kid)) :=
 bif decide (x1 < (0 : Int)) then
  none
 else
  bif decide (wrapA IntKind.i64 (x1 - wrapA IntKind.i64 ((0 : Int) - (0 : Int))) > (0 : Int)) then
   bif decide ((0 : Int) ≤ wrapA IntKind.i64 (x1 - wrapA IntKind.i64 ((0 : Int) - (0 : Int)))) then
    bif decide (wrapA IntKind.i64 (x1 - wrapA IntKind.i64 ((0 : Int) - (0 : Int))) ≤ maxElems) then
     some (List.take (Int.toNat (0 : Int)) (List.replicate (wrapA IntKind.i64 (x1 - wrapA IntKind.i64 ((0 : Int) - (0 : Int)))).toNat (Kid.mk (0 : Int) (0 : Int))))
    else
     none
   else
    none
  else
   some (([] : List Kid))
noncomputable def C_slices_Grow_thread_Kid (x : Unit × Int) : Option ((List Kid)) := F_slices_Grow_thread_Kid x.1 x.2

/- slices.Concat[[]millstream/thread.Kid,millstream/thread.Kid] -/
noncomputable def S_slices_Concat_thread_Kid_11 (x0 : List Kid) (x1 : List (List Kid)) (x2 : Int) (x3 : Int) : Option (((List Kid) × (List (List Kid)) × Int × Int) ⊕ (((List Kid)))) :=
 bif decide (x3 < x2) then
  bif decide ((0 : Int) ≤ x3) then
   bif decide (x3 < (↑x1.length : Int)) then
    bif fewB (x0.length + List.length (x1.getD x3.toNat ([] : List Kid))) then
     some (Sum.inl (x0 ++ x1.getD x3.toNat ([] : List Kid), x1, x2, wrapA IntKind.i64 (x3 + (1 : Int))))
    else
     none
   else
    none
  else
   none
 else
  some (Sum.inr x0)
noncomputable def T_slices_Concat_thread_Kid_11 (x : (List Kid) × (List (List Kid)) × Int × Int) : Option (((List Kid) × (List (List Kid)) × Int × Int) ⊕ (((List Kid)))) := S_slices_Concat_thread_Kid_11 x.1 x.2.1 x.2.2.1 x.2.2.2
noncomputable def W_slices_Concat_thread_Kid_11 (x : (List Kid) × (List (List Kid)) × Int × Int) : Option (((List Kid))) := whileM T_slices_Concat_thread_Kid_11 x
noncomputable def S_slices_Concat_thread_Kid_3 (x0 : List (List Kid)) (x1 : Int) (x2 : List (List Kid)) (x3 : Int) (x4 : Int) : Option (((List (List Kid)) × Int × (List (List Kid)) × Int × Int) ⊕ (((List (List Kid)) × Int))) :=
 bif decide (x4 < x3) then
  bif decide ((0 : Int) ≤ x4) then
   bif decide (x4 < (↑x2.length : Int)) then
    bif decide (wrapA IntKind.i64 (x1 + (↑(List.length (x2.getD x4.toNat ([] : List Kid))) : Int)) < (0 : Int)) then
     none
    else
     some (Sum.inl (x0, wrapA IntKind.i64 (x1 + (↑(List.length (x2.getD x4.toNat ([] : List Kid))) : Int)), x2, x3, wrapA IntKind.i64 (x4 + (1 : Int))))
   else
    none
  else
   none
 else
  some (Sum.inr (x0, x1))
noncomputable def T_slices_Concat_thread_Kid_3 (x : (List (List Kid)) × Int × (List (List Kid)) × Int × Int) : Option (((List (List Kid)) × Int × (List (List Kid)) × Int × Int) ⊕ (((List (List Kid)) × Int))) := S_slices_Concat_thread_Kid_3 x.1 x.2.1 x.2.2.1 x.2.2.2.1 x.2.2.2.2
noncomputable def W_slices_Concat_thread_Kid_3 (x : (List (List Kid)) × Int × (List (List Kid)) × Int × Int) : Option (((List (List Kid)) × Int)) := whileM T_slices_Concat_thread_Kid_3 x
noncomputable def F_slices_Concat_thread_Kid (x0 : List (List Kid)) : Option ((List Kid)) :=
 match W_slices_Concat_thread_Kid_3 (x0, (0 : Int), x0, (↑x0.length : Int), (0 : Int)) with
 | some y1 =>
  match C_slices_Grow_thread_Kid ((), y1.snd) with
  | some y2 =>
   match W_slices_Concat_thread_Kid_11 (y2, y1.fst, (↑(List.length y1.fst) : Int), (0 : Int)) with
   | some y3 =>
    some (y3)
   | none => none
  | none => none
 | none => none
noncomputable def C_slices_Concat_thread_Kid (x : (List (List Kid))) : Option ((List Kid)) := F_slices_Concat_thread_Kid x

/- slices.Grow[[]millstream/batch.Entry,millstream/batch.Entry] -/
noncomputable def F_slices_Grow_batch_Entry (x0 : Unit) (x1 : Int) : Option ((List Entry)) :=
 bif decide (x1 < (0 : Int)) then
  none
 else
  bif decide (wrapA IntKind.i64 (x1 - wrapA IntKind.i64 ((0 : Int) - (0 : Int))) > (0 : Int)) then
   bif decide ((0 : Int) ≤ wrapA IntKind.i64 (x1 - wrapA IntKind.i64 ((0 : Int) - (0 : Int)))) then
    bif decide (wrapA IntKind.i64 (x1 - wrapA IntKind.i64 ((0 : Int) - (0 : Int))) ≤ maxElems) then
     some (List.take (Int.toNat (0 : Int)) (List.replicate (wrapA IntKind.i64 (x1 - wrapA IntKind.i64 ((0 : Int) - (0 : Int)))).toNat (Entry.mk (0 : Int) (Op.mk (0 : Int) (0 : Int)))))
    else
     none
   else
    none
  else
   some (([] : List Entry))
noncomputable def C_slices_Grow_batch_Entry (x : Unit × Int) : Option ((List Entry)) := F_slices_Grow_batch_Entry x.1 x.2

/- slices.Concat[[]millstream/batch.Entry,millstream/batch.Entry] -/
noncomputable def S_slices_Concat_batch_Entry_11 (x0 : List Entry) (x1 : List (List Entry)) (x2 : Int) (x3 : Int) : Option (((List Entry) × (List (List Entry)) × Int × Int) ⊕ (((List Entry)))) :=
 bif decide (x3 < x2) then
  bif decide ((0 : Int) ≤ x3) then
   bif decide (x3 < (↑x1.length : Int)) then
    bif fewB (x0.length + List.length (x1.getD x3.toNat ([] : List Entry))) then
     some (Sum.inl (x0 ++ x1.getD x3.toNat ([] : List Entry), x1, x2, wrapA IntKind.i64 (x3 + (1 : Int))))
    else
     none
   else
    none
  else
   none
 else
  some (Sum.inr x0)
noncomputable def T_slices_Concat_batch_Entry_11 (x : (List Entry) × (List (List Entry)) × Int × Int) : Option (((List Entry) × (List (List Entry)) × Int × Int) ⊕ (((List Entry)))) := S_slices_Concat_batch_Entry_11 x.1 x.2.1 x.2.2.1 x.2.2.2
noncomputable def W_slices_Concat_batch_Entry_11 (x : (List Entry) × (List (List Entry)) × Int × Int) : Option (((List Entry))) := whileM T_slices_Concat_batch_Entry_11 x
noncomputable def S_slices_Concat_batch_Entry_3 (x0 : List (List Entry)) (x1 : Int) (x2 : List (List Entry)) (x3 : Int) (x4 : Int) : Option (((List (List Entry)) × Int × (List (List Entry)) × Int × Int) ⊕ (((List (List Entry)) × Int))) :=
 bif decide (x4 < x3) then
  bif decide ((0 : Int) ≤ x4) then
   bif decide (x4 < (↑x2.length : Int)) then
    bif decide (wrapA IntKind.i64 (x1 + (↑(List.length (x2.getD x4.toNat ([] : List Entry))) : Int)) < (0 : Int)) then
     none
    else
     some (Sum.inl (x0, wrapA IntKind.i64 (x1 + (↑(List.length (x2.getD x4.toNat ([] : List Entry))) : Int)), x2, x3, wrapA IntKind.i64 (x4 + (1 : Int))))
   else
    none
  else
   none
 else
  some (Sum.inr (x0, x1))
noncomputable def T_slices_Concat_batch_Entry_3 (x : (List (List Entry)) × Int × (List (List Entry)) × Int × Int) : Option (((List (List Entry)) × Int × (List (List Entry)) × Int × Int) ⊕ (((List (List Entry)) × Int))) := S_slices_Concat_batch_Entry_3 x.1 x.2.1 x.2.2.1 x.2.2.2.1 x.2.2.2.2
noncomputable def W_slices_Concat_batch_Entry_3 (x : (List (List Entry)) × Int × (List (List Entry)) × Int × Int) : Option (((List (List Entry)) × Int)) := whileM T_slices_Concat_batch_Entry_3 x
noncomputable def F_slices_Concat_batch_Entry (x0 : List (List Entry)) : Option ((List Entry)) :=
 match W_slices_Concat_batch_Entry_3 (x0, (0 : Int), x0, (↑x0.length : Int), (0 : Int)) with
 | some y1 =>
  match C_slices_Grow_batch_Entry ((), y1.snd) with
  | some y2 =>
   match W_slices_Concat_batch_Entry_11 (y2, y1.fst, (↑(List.length y1.fst) : Int), (0 : Int)) with
   | some y3 =>
    some (y3)
   | none => none
  | none => none
 | none => none
noncomputable def C_slices_Concat_batch_Entry (x : (List (List Entry))) : Option ((List Entry)) := F_slices_Concat_batch_Entry x

/- millstream/batch.Join -/
noncomputable def F_batch_Join (x0 : List (List Entry)) : Option ((List Entry)) :=
 match C_slices_Concat_batch_Entry x0 with
 | some y1 =>
  some (y1)
 | none => none
noncomputable def C_batch_Join (x : (List (List Entry))) : Option ((List Entry)) := F_batch_Join x

/- millstream/gather.Take -/
noncomputable def F_gather_Take (x0 : Turn) (x1 : Int) (x2 : List Entry) : Option (Turn) :=
 match C_slices_Concat_thread_Kid (x0.th.kids :: (Kid.mk x1 (↑x0.th.batch.length : Int) :: ([] : List Kid)) :: ([] : List (List Kid))) with
 | some y1 =>
  match C_batch_Join (x0.th.batch :: x2 :: ([] : List (List Entry))) with
  | some y2 =>
   some ({ x0 with th := { x0.th with batch := y2, kids := y1 } })
  | none => none
 | none => none
noncomputable def C_gather_Take (x : Turn × Int × (List Entry)) : Option (Turn) := F_gather_Take x.1 x.2.1 x.2.2

/- millstream/wmem.at[[]millstream/batch.Entry] -/
noncomputable def F_wmem_at_lbatch_Entry (x0 : List (List Entry)) (x1 : Int) : Option ((List Entry) × Int) :=
 bif decide (x1 < (0 : Int)) then
  some ((([] : List Entry), (30 : Int)))
 else
  bif decide (x1 ≥ (↑x0.length : Int)) then
   some ((([] : List Entry), (30 : Int)))
  else
   bif decide ((0 : Int) ≤ x1) then
    bif decide (x1 < (↑x0.length : Int)) then
     some ((x0.getD x1.toNat ([] : List Entry), (0 : Int)))
    else
     none
   else
    none
noncomputable def C_wmem_at_lbatch_Entry (x : (List (List Entry)) × Int) : Option ((List Entry) × Int) := F_wmem_at_lbatch_Entry x.1 x.2

/- slices.Clone[[]millstream/batch.Entry,millstream/batch.Entry] -/
noncomputable def F_slices_Clone_batch_Entry (x0 : List Entry) : Option ((List Entry)) :=
 bif fewB ((0 : Nat) + x0.length) then
  some (x0)
 else
  none
noncomputable def C_slices_Clone_batch_Entry (x : (List Entry)) : Option ((List Entry)) := F_slices_Clone_batch_Entry x

/- millstream/wmem.Box -/
noncomputable def F_wmem_Box (x0 : Memo) (x1 : Int) : Option ((List Entry) × Int) :=
 match C_wmem_at_lbatch_Entry (x0.boxes, x1) with
 | some y1 =>
  match C_slices_Clone_batch_Entry y1.fst with
  | some y2 =>
   some ((y2, y1.snd))
  | none => none
 | none => none
noncomputable def C_wmem_Box (x : Memo × Int) : Option ((List Entry) × Int) := F_wmem_Box x.1 x.2

/- millstream/gather.collect -/
noncomputable def F_gather_collect (x0 : Turn) : Option (Turn) :=
 match C_wmem_Box (x0.m, x0.th.who) with
 | some y1 =>
  bif y1.snd != (0 : Int) then
   some (x0)
  else
   match C_gather_Take (x0, x0.th.who, y1.fst) with
   | some y2 =>
    some ({ y2 with th := { y2.th with phase := (10 : Int) } })
   | none => none
 | none => none
noncomputable def C_gather_collect (x : Turn) : Option (Turn) := F_gather_collect x

/- millstream/wmem.Store -/
noncomputable def F_wmem_Store (x0 : Memo) (x1 : Int) (x2 : Int) : Option (Memo × Int) :=
 match C_wmem_at_int (x0.words, x1) with
 | some y1 =>
  bif y1.snd != (0 : Int) then
   some ((x0, y1.snd))
  else
   match C_slices_Clone_int x0.words with
   | some y2 =>
    bif decide ((0 : Int) ≤ x1) then
     bif decide (x1 < (↑(List.length y2) : Int)) then
      some (({ x0 with words := List.set y2 x1.toNat x2 }, y1.snd))
     else
      none
    else
     none
   | none => none
 | none => none
noncomputable def C_wmem_Store (x : Memo × Int × Int) : Option (Memo × Int) := F_wmem_Store x.1 x.2.1 x.2.2

/- millstream/gather.free -/
noncomputable def F_gather_free (x0 : Turn) : Option (Turn) :=
 match C_gather_held x0 with
 | some y1 =>
  match C_wmem_Store (x0.m, y1, (0 : Int)) with
  | some y2 =>
   bif y2.snd != (0 : Int) then
    some (x0)
   else
    match C_gather_next { x0 with m := y2.fst } with
    | some y3 =>
     some (y3)
    | none => none
  | none => none
 | none => none
noncomputable def C_gather_free (x : Turn) : Option (Turn) := F_gather_free x

/- slices.Clone[[][]millstream/batch.Entry,[]millstream/batch.Entry] -/
noncomputable def F_slices_Clone_lbatch_Entry (x0 : List (List Entry)) : Option ((List (List Entry))) :=
 bif fewB ((0 : Nat) + x0.length) then
  some (x0)
 else
  none
noncomputable def C_slices_Clone_lbatch_Entry (x : (List (List Entry))) : Option ((List (List Entry))) := F_slices_Clone_lbatch_Entry x

/- millstream/wmem.Put -/
noncomputable def F_wmem_Put (x0 : Memo) (x1 : Int) (x2 : List Entry) : Option (Memo × Int) :=
 match C_wmem_at_lbatch_Entry (x0.boxes, x1) with
 | some y1 =>
  bif y1.snd != (0 : Int) then
   some ((x0, y1.snd))
  else
   match C_slices_Clone_lbatch_Entry x0.boxes with
   | some y2 =>
    match C_slices_Clone_batch_Entry x2 with
    | some y3 =>
     bif decide ((0 : Int) ≤ x1) then
      bif decide (x1 < (↑(List.length y2) : Int)) then
       some (({ x0 with boxes := List.set y2 x1.toNat y3 }, (0 : Int)))
      else
       none
     else
      none
    | none => none
   | none => none
 | none => none
noncomputable def C_wmem_Put (x : Memo × Int × (List Entry)) : Option (Memo × Int) := F_wmem_Put x.1 x.2.1 x.2.2

/- millstream/gather.publish -/
noncomputable def F_gather_publish (x0 : Turn) : Option (Turn) :=
 match C_wmem_Put (x0.m, x0.t, x0.th.batch) with
 | some y1 =>
  bif y1.snd != (0 : Int) then
   some (x0)
  else
   some ({ x0 with m := y1.fst, th := { x0.th with phase := (12 : Int) } })
 | none => none
noncomputable def C_gather_publish (x : Turn) : Option (Turn) := F_gather_publish x

/- millstream/code.Deposited -/
noncomputable def F_code_Deposited (x0 : Int) : Option (Int) :=
 match C_code_said_word (Said.mk (3 : Int) x0) with
 | some y1 =>
  some (y1)
 | none => none
noncomputable def C_code_Deposited (x : Int) : Option (Int) := F_code_Deposited x

/- millstream/gather.deposit -/
noncomputable def F_gather_deposit (x0 : Turn) : Option (Turn) :=
 match C_arena_Node (x0.c, x0.th.item, x0.th.stop) with
 | some y1 =>
  match C_code_Deposited x0.t with
  | some y2 =>
   match C_wmem_Store (x0.m, y1, y2) with
   | some y3 =>
    bif y3.snd != (0 : Int) then
     some (x0)
    else
     some ({ x0 with m := y3.fst, th := { x0.th with phase := (13 : Int) } })
   | none => none
  | none => none
 | none => none
noncomputable def C_gather_deposit (x : Turn) : Option (Turn) := F_gather_deposit x

/- millstream/gather.Step -/
noncomputable def F_gather_Step (x0 : Turn) : Option (Turn × Bool) :=
 bif x0.th.phase == (7 : Int) then
  match C_gather_look x0 with
  | some y1 =>
   some ((y1, true))
  | none => none
 else
  bif x0.th.phase == (8 : Int) then
   match C_gather_shut x0 with
   | some y1 =>
    some ((y1, true))
   | none => none
  else
   bif x0.th.phase == (9 : Int) then
    match C_gather_collect x0 with
    | some y1 =>
     some ((y1, true))
    | none => none
   else
    bif x0.th.phase == (10 : Int) then
     match C_gather_free x0 with
     | some y1 =>
      some ((y1, true))
     | none => none
    else
     bif x0.th.phase == (11 : Int) then
      match C_gather_publish x0 with
      | some y1 =>
       some ((y1, true))
      | none => none
     else
      bif x0.th.phase == (12 : Int) then
       match C_gather_deposit x0 with
       | some y1 =>
        some ((y1, true))
       | none => none
      else
       some ((x0, false))
noncomputable def C_gather_Step (x : Turn) : Option (Turn × Bool) := F_gather_Step x

/- millstream/millstreamlaw14.shown -/
noncomputable def F_law14_shown : Option (Bool) :=
 match C_arena_Build (Config.mk (2 : Int) (1 : Int) (2 : Int) (1 : Int) (0 : Int) (1 : Int) (0 : Int) (0 : Int) false (0 : Int) (0 : Int) (0 : Int)) with
 | some y1 =>
  bif (↑y1.words.length : Int) != (6 : Int) then
   some (false)
  else
   bif (↑y1.boxes.length : Int) != (2 : Int) then
    some (false)
   else
    match C_code_Deposited (1 : Int) with
    | some y2 =>
     bif decide ((1 : Int) < (↑y1.words.length : Int)) then
      bif decide ((1 : Int) < (↑y1.boxes.length : Int)) then
       match C_gather_Step (Turn.mk (Config.mk (2 : Int) (1 : Int) (2 : Int) (1 : Int) (0 : Int) (1 : Int) (0 : Int) (0 : Int) false (0 : Int) (0 : Int) (0 : Int)) (0 : Int) (0 : Int) (Memo.mk (y1.words.set (Int.toNat (1 : Int)) y2) (y1.boxes.set (Int.toNat (1 : Int)) (Entry.mk (1 : Int) (Op.mk (1 : Int) (7 : Int)) :: ([] : List Entry)))) (Thread.mk (7 : Int) (0 : Int) (Op.mk (0 : Int) (0 : Int)) (Entry.mk (0 : Int) (Op.mk (1 : Int) (2 : Int)) :: ([] : List Entry)) ([] : List Kid) ((1 : Int) :: ([] : List Int)) (0 : Int) (0 : Int) (0 : Int) (0 : Int) (0 : Int) (0 : Int) (0 : Int) (0 : Int) (0 : Int) (0 : Int)) (Tape.mk ([] : List Int) (0 : Int)) ([] : List Mark) false) with
       | some y3 =>
        match C_gather_Step y3.fst with
        | some y4 =>
         match C_gather_Step y4.fst with
         | some y5 =>
          bif y3.snd then
           bif y4.snd then
            bif y5.snd then
             bif y3.fst.th.phase == (9 : Int) then
              bif y3.fst.th.who == (1 : Int) then
               bif y4.fst.th.phase == (10 : Int) then
                bif (↑y4.fst.th.batch.length : Int) == (2 : Int) then
                 bif (↑y4.fst.th.kids.length : Int) == (1 : Int) then
                  bif decide ((0 : Int) < (↑y4.fst.th.kids.length : Int)) then
                   bif (y4.fst.th.kids.getD (Int.toNat (0 : Int)) dKid).t == (1 : Int) && ((y4.fst.th.kids.getD (Int.toNat (0 : Int)) dKid).ahead == (1 : Int) && true) then
                    bif y5.fst.th.phase == (2 : Int) then
                     bif (↑y5.fst.m.words.length : Int) == (6 : Int) then
                      bif decide ((1 : Int) < (↑y5.fst.m.words.length : Int)) then
                       bif y5.fst.m.words.getD (Int.toNat (1 : Int)) (0 : Int) == (0 : Int) then
                        some ((↑(Entry.mk (0 : Int) (Op.mk (1 : Int) (2 : Int)) :: ([] : List Entry)).length : Int) == (1 : Int))
                       else
                        some (false)
                      else
                       none
                     else
                      some (false)
                    else
                     some (false)
                   else
                    some (false)
                  else
                   none
                 else
                  some (false)
                else
                 some (false)
               else
                some (false)
              else
               some (false)
             else
              some (false)
            else
             some (false)
           else
            some (false)
          else
           some (false)
         | none => none
        | none => none
       | none => none
      else
       none
     else
      none
    | none => none
 | none => none
noncomputable def C_law14_shown (x : Unit) : Option (Bool) := F_law14_shown

/- millstream/millstreamref02.Join -/
noncomputable def S_ref02_Join_3 (x0 : List (List Entry)) (x1 : List Entry) (x2 : Int) : Option (((List (List Entry)) × (List Entry) × Int) ⊕ (((List Entry)))) :=
 bif decide (x2 < (↑x0.length : Int)) then
  bif decide ((0 : Int) ≤ x2) then
   bif decide (x2 < (↑x0.length : Int)) then
    bif fewB (x1.length + List.length (x0.getD x2.toNat ([] : List Entry))) then
     some (Sum.inl (x0, x1 ++ x0.getD x2.toNat ([] : List Entry), wrapA IntKind.i64 (x2 + (1 : Int))))
    else
     none
   else
    none
  else
   none
 else
  some (Sum.inr x1)
noncomputable def T_ref02_Join_3 (x : (List (List Entry)) × (List Entry) × Int) : Option (((List (List Entry)) × (List Entry) × Int) ⊕ (((List Entry)))) := S_ref02_Join_3 x.1 x.2.1 x.2.2
noncomputable def W_ref02_Join_3 (x : (List (List Entry)) × (List Entry) × Int) : Option (((List Entry))) := whileM T_ref02_Join_3 x
noncomputable def F_ref02_Join (x0 : List (List Entry)) : Option ((List Entry)) :=
 match W_ref02_Join_3 (x0, ([] : List Entry), (0 : Int)) with
 | some y1 =>
  some (y1)
 | none => none
noncomputable def C_ref02_Join (x : (List (List Entry))) : Option ((List Entry)) := F_ref02_Join x

/- millstream/millstreamref14.Take -/
noncomputable def F_ref14_Take (x0 : Turn) (x1 : Int) (x2 : List Entry) : Option (Turn) :=
 bif fewB ((0 : Nat) + x0.th.kids.length) then
  bif fewB (x0.th.kids.length + (Kid.mk x1 (↑x0.th.batch.length : Int) :: ([] : List Kid)).length) then
   match C_ref02_Join (x0.th.batch :: x2 :: ([] : List (List Entry))) with
   | some y1 =>
    some ({ x0 with th := { x0.th with batch := y1, kids := x0.th.kids ++ Kid.mk x1 (↑x0.th.batch.length : Int) :: ([] : List Kid) } })
   | none => none
  else
   none
 else
  none
noncomputable def C_ref14_Take (x : Turn × Int × (List Entry)) : Option (Turn) := F_ref14_Take x.1 x.2.1 x.2.2

/- millstream/millstreamref14.held -/
noncomputable def F_ref14_held (x0 : Turn) : Option (Int) :=
 bif decide (x0.th.at_ < (0 : Int)) then
  some ((-1 : Int))
 else
  bif decide (x0.th.at_ ≥ (↑x0.th.held.length : Int)) then
   some ((-1 : Int))
  else
   bif decide ((0 : Int) ≤ x0.th.at_) then
    bif decide (x0.th.at_ < (↑x0.th.held.length : Int)) then
     match C_ref06_Node (x0.c, x0.th.item, x0.th.held.getD x0.th.at_.toNat (0 : Int)) with
     | some y1 =>
      some (y1)
     | none => none
    else
     none
   else
    none
noncomputable def C_ref14_held (x : Turn) : Option (Int) := F_ref14_held x

/- millstream/millstreamref08.Who -/
noncomputable def F_ref08_Who (x0 : Int) : Option (Int) :=
 match C_ref08_Kind x0 with
 | some y1 =>
  bif decide (y1 < (1 : Int)) then
   some ((-1 : Int))
  else
   bif decide (y1 > (3 : Int)) then
    some ((-1 : Int))
   else
    some (wrapA IntKind.i64 (wrapA IntKind.i64 (x0.tdiv (8 : Int)) - (1 : Int)))
 | none => none
noncomputable def C_ref08_Who (x : Int) : Option (Int) := F_ref08_Who x

/- millstream/millstreamref14.next -/
noncomputable def F_ref14_next (x0 : Turn) : Option (Turn) :=
 match C_ref13_Down { x0 with th := { x0.th with at_ := wrapA IntKind.i64 (x0.th.at_ + (1 : Int)) } } with
 | some y1 =>
  some (y1)
 | none => none
noncomputable def C_ref14_next (x : Turn) : Option (Turn) := F_ref14_next x

/- millstream/millstreamref03.Box -/
noncomputable def F_ref03_Box (x0 : Memo) (x1 : Int) : Option ((List Entry) × Int) :=
 bif decide (x1 < (0 : Int)) then
  some ((([] : List Entry), (30 : Int)))
 else
  bif decide (x1 ≥ (↑x0.boxes.length : Int)) then
   some ((([] : List Entry), (30 : Int)))
  else
   bif decide ((0 : Int) ≤ x1) then
    bif decide (x1 < (↑x0.boxes.length : Int)) then
     bif fewB ((0 : Nat) + List.length (x0.boxes.getD x1.toNat ([] : List Entry))) then
      some ((x0.boxes.getD x1.toNat ([] : List Entry), (0 : Int)))
     else
      none
    else
     none
   else
    none
noncomputable def C_ref03_Box (x : Memo × Int) : Option ((List Entry) × Int) := F_ref03_Box x.1 x.2

/- millstream/millstreamref03.Put -/
noncomputable def F_ref03_Put (x0 : Memo) (x1 : Int) (x2 : List Entry) : Option (Memo × Int) :=
 bif decide (x1 < (0 : Int)) then
  some ((x0, (30 : Int)))
 else
  bif decide (x1 ≥ (↑x0.boxes.length : Int)) then
   some ((x0, (30 : Int)))
  else
   bif fewB ((0 : Nat) + x0.boxes.length) then
    bif fewB ((0 : Nat) + x2.length) then
     bif decide ((0 : Int) ≤ x1) then
      bif decide (x1 < (↑x0.boxes.length : Int)) then
       some (({ x0 with boxes := x0.boxes.set x1.toNat x2 }, (0 : Int)))
      else
       none
     else
      none
    else
     none
   else
    none
noncomputable def C_ref03_Put (x : Memo × Int × (List Entry)) : Option (Memo × Int) := F_ref03_Put x.1 x.2.1 x.2.2

/- millstream/millstreamref14.Step -/
noncomputable def F_ref14_Step (x0 : Turn) : Option (Turn × Bool) :=
 match C_ref14_held x0 with
 | some y1 =>
  bif x0.th.phase == (7 : Int) then
   match C_ref03_Load (x0.m, y1) with
   | some y2 =>
    bif y2.snd != (0 : Int) then
     some ((x0, true))
    else
     match C_ref08_First x0.t with
     | some y3 =>
      bif y2.fst == y3 then
       some (({ x0 with th := { x0.th with phase := (8 : Int) } }, true))
      else
       match C_ref08_Kind y2.fst with
       | some y4 =>
        bif y4 == (3 : Int) then
         match C_ref08_Who y2.fst with
         | some y5 =>
          some (({ x0 with th := { x0.th with phase := (9 : Int), who := y5 } }, true))
         | none => none
        else
         some ((x0, true))
       | none => none
     | none => none
   | none => none
  else
   bif x0.th.phase == (8 : Int) then
    match C_ref08_First x0.t with
    | some y2 =>
     match C_ref03_Cas (x0.m, y1, y2, (0 : Int)) with
     | some y3 =>
      bif y3.snd.snd != (0 : Int) then
       some ((x0, true))
      else
       bif y3.snd.fst then
        match C_ref14_next { x0 with m := y3.fst } with
        | some y4 =>
         some ((y4, true))
        | none => none
       else
        some (({ x0 with m := y3.fst, th := { x0.th with phase := (7 : Int) } }, true))
     | none => none
    | none => none
   else
    bif x0.th.phase == (9 : Int) then
     match C_ref03_Box (x0.m, x0.th.who) with
     | some y2 =>
      bif y2.snd != (0 : Int) then
       some ((x0, true))
      else
       match C_ref14_Take (x0, x0.th.who, y2.fst) with
       | some y3 =>
        some (({ y3 with th := { y3.th with phase := (10 : Int) } }, true))
       | none => none
     | none => none
    else
     bif x0.th.phase == (10 : Int) then
      match C_ref03_Store (x0.m, y1, (0 : Int)) with
      | some y2 =>
       bif y2.snd != (0 : Int) then
        some ((x0, true))
       else
        match C_ref14_next { x0 with m := y2.fst } with
        | some y3 =>
         some ((y3, true))
        | none => none
      | none => none
     else
      bif x0.th.phase == (11 : Int) then
       match C_ref03_Put (x0.m, x0.t, x0.th.batch) with
       | some y2 =>
        bif y2.snd != (0 : Int) then
         some ((x0, true))
        else
         some (({ x0 with m := y2.fst, th := { x0.th with phase := (12 : Int) } }, true))
       | none => none
      else
       bif x0.th.phase == (12 : Int) then
        match C_ref06_Node (x0.c, x0.th.item, x0.th.stop) with
        | some y2 =>
         match C_ref08_Deposited x0.t with
         | some y3 =>
          match C_ref03_Store (x0.m, y2, y3) with
          | some y4 =>
           bif y4.snd != (0 : Int) then
            some ((x0, true))
           else
            some (({ x0 with m := y4.fst, th := { x0.th with phase := (13 : Int) } }, true))
          | none => none
         | none => none
        | none => none
       else
        some ((x0, false))
 | none => none
noncomputable def C_ref14_Step (x : Turn) : Option (Turn × Bool) := F_ref14_Step x

/- millstream/millstreamlaw14.entries -/
noncomputable def S_law14_entries_3 (x0 : List Entry) (x1 : List Entry) (x2 : Int) : Option (((List Entry) × (List Entry) × Int) ⊕ (((List Entry)))) :=
 bif decide (x2 < (↑x0.length : Int)) then
  bif decide ((0 : Int) ≤ x2) then
   bif decide (x2 < (↑x0.length : Int)) then
    bif decide ((0 : Int) ≤ x2) then
     bif decide (x2 < (↑x0.length : Int)) then
      bif fewB (x1.length + (x0.getD x2.toNat dEntry :: ([] : List Entry)).length) then
       some (Sum.inl (x0, x1 ++ x0.getD x2.toNat dEntry :: ([] : List Entry), wrapA IntKind.i64 (x2 + (1 : Int))))
      else
       none
     else
      none
    else
     none
   else
    none
  else
   none
 else
  some (Sum.inr x1)
noncomputable def T_law14_entries_3 (x : (List Entry) × (List Entry) × Int) : Option (((List Entry) × (List Entry) × Int) ⊕ (((List Entry)))) := S_law14_entries_3 x.1 x.2.1 x.2.2
noncomputable def W_law14_entries_3 (x : (List Entry) × (List Entry) × Int) : Option (((List Entry))) := whileM T_law14_entries_3 x
noncomputable def F_law14_entries (x0 : List Entry) : Option ((List Entry)) :=
 match W_law14_entries_3 (x0, ([] : List Entry), (0 : Int)) with
 | some y1 =>
  some (y1)
 | none => none
noncomputable def C_law14_entries (x : (List Entry)) : Option ((List Entry)) := F_law14_entries x

/- millstream/millstreamlaw14.memory -/
noncomputable def S_law14_memory_3 (x0 : Memo) (x1 : Memo) (x2 : Memo) (x3 : Int) : Option ((Memo × Memo × Memo × Int) ⊕ ((Memo × Memo))) :=
 bif decide (x3 < (↑x0.boxes.length : Int)) then
  bif decide ((0 : Int) ≤ x3) then
   bif decide (x3 < (↑x0.boxes.length : Int)) then
    match C_law14_entries (x0.boxes.getD x3.toNat ([] : List Entry)) with
    | some y1 =>
     bif fewB (x2.boxes.length + (y1 :: ([] : List (List Entry))).length) then
      some (Sum.inl (x0, x1, { x2 with boxes := x2.boxes ++ y1 :: ([] : List (List Entry)) }, wrapA IntKind.i64 (x3 + (1 : Int))))
     else
      none
    | none => none
   else
    none
  else
   none
 else
  some (Sum.inr (x1, x2))
noncomputable def T_law14_memory_3 (x : Memo × Memo × Memo × Int) : Option ((Memo × Memo × Memo × Int) ⊕ ((Memo × Memo))) := S_law14_memory_3 x.1 x.2.1 x.2.2.1 x.2.2.2
noncomputable def W_law14_memory_3 (x : Memo × Memo × Memo × Int) : Option ((Memo × Memo)) := whileM T_law14_memory_3 x
noncomputable def F_law14_memory (x0 : Memo) : Option (Memo) :=
 match W_law14_memory_3 (x0, Memo.mk ([] : List Int) ([] : List (List Entry)), { x0 with boxes := ([] : List (List Entry)) }, (0 : Int)) with
 | some y1 =>
  some (y1.snd)
 | none => none
noncomputable def C_law14_memory (x : Memo) : Option (Memo) := F_law14_memory x

/- millstream/millstreamlaw14.fiber -/
noncomputable def S_law14_fiber_3 (x0 : Thread) (x1 : Thread) (x2 : Thread) (x3 : Int) : Option ((Thread × Thread × Thread × Int) ⊕ ((Thread × Thread))) :=
 bif decide (x3 < (↑x0.kids.length : Int)) then
  bif decide ((0 : Int) ≤ x3) then
   bif decide (x3 < (↑x0.kids.length : Int)) then
    bif fewB (x2.kids.length + (x0.kids.getD x3.toNat dKid :: ([] : List Kid)).length) then
     some (Sum.inl (x0, x1, { x2 with kids := x2.kids ++ x0.kids.getD x3.toNat dKid :: ([] : List Kid) }, wrapA IntKind.i64 (x3 + (1 : Int))))
    else
     none
   else
    none
  else
   none
 else
  some (Sum.inr (x1, x2))
noncomputable def T_law14_fiber_3 (x : Thread × Thread × Thread × Int) : Option ((Thread × Thread × Thread × Int) ⊕ ((Thread × Thread))) := S_law14_fiber_3 x.1 x.2.1 x.2.2.1 x.2.2.2
noncomputable def W_law14_fiber_3 (x : Thread × Thread × Thread × Int) : Option ((Thread × Thread)) := whileM T_law14_fiber_3 x
noncomputable def F_law14_fiber (x0 : Thread) : Option (Thread) :=
 match C_law14_entries x0.batch with
 | some y1 =>
  match W_law14_fiber_3 (x0, Thread.mk (0 : Int) (0 : Int) (Op.mk (0 : Int) (0 : Int)) ([] : List Entry) ([] : List Kid) ([] : List Int) (0 : Int) (0 : Int) (0 : Int) (0 : Int) (0 : Int) (0 : Int) (0 : Int) (0 : Int) (0 : Int) (0 : Int), { x0 with batch := y1, kids := ([] : List Kid) }, (0 : Int)) with
  | some y2 =>
   some (y2.snd)
  | none => none
 | none => none
noncomputable def C_law14_fiber (x : Thread) : Option (Thread) := F_law14_fiber x

/- millstream/millstreamlaw14.marks -/
noncomputable def S_law14_marks_3 (x0 : List Mark) (x1 : List Mark) (x2 : Int) : Option (((List Mark) × (List Mark) × Int) ⊕ (((List Mark)))) :=
 bif decide (x2 < (↑x0.length : Int)) then
  bif decide ((0 : Int) ≤ x2) then
   bif decide (x2 < (↑x0.length : Int)) then
    bif decide ((0 : Int) ≤ x2) then
     bif decide (x2 < (↑x0.length : Int)) then
      bif decide ((0 : Int) ≤ x2) then
       bif decide (x2 < (↑x0.length : Int)) then
        bif decide ((0 : Int) ≤ x2) then
         bif decide (x2 < (↑x0.length : Int)) then
          bif decide ((0 : Int) ≤ x2) then
           bif decide (x2 < (↑x0.length : Int)) then
            bif fewB (x1.length + (x0.getD x2.toNat dMark :: ([] : List Mark)).length) then
             some (Sum.inl (x0, x1 ++ x0.getD x2.toNat dMark :: ([] : List Mark), wrapA IntKind.i64 (x2 + (1 : Int))))
            else
             none
           else
            none
          else
           none
         else
          none
        else
         none
       else
        none
      else
       none
     else
      none
    else
     none
   else
    none
  else
   none
 else
  some (Sum.inr x1)
noncomputable def T_law14_marks_3 (x : (List Mark) × (List Mark) × Int) : Option (((List Mark) × (List Mark) × Int) ⊕ (((List Mark)))) := S_law14_marks_3 x.1 x.2.1 x.2.2
noncomputable def W_law14_marks_3 (x : (List Mark) × (List Mark) × Int) : Option (((List Mark))) := whileM T_law14_marks_3 x
noncomputable def F_law14_marks (x0 : List Mark) : Option ((List Mark)) :=
 match W_law14_marks_3 (x0, ([] : List Mark), (0 : Int)) with
 | some y1 =>
  some (y1)
 | none => none
noncomputable def C_law14_marks (x : (List Mark)) : Option ((List Mark)) := F_law14_marks x

/- millstream/millstreamlaw14.its -/
noncomputable def F_law14_its (x0 : Turn) : Option (Turn) :=
 match C_law14_memory x0.m with
 | some y1 =>
  match C_law14_fiber x0.th with
  | some y2 =>
   match C_law14_marks x0.log with
   | some y3 =>
    some ({ x0 with m := y1, th := y2, log := y3 })
   | none => none
  | none => none
 | none => none
noncomputable def C_law14_its (x : Turn) : Option (Turn) := F_law14_its x

/- millstream/millstreamlaw14.GatherSteps -/
noncomputable def F_law14_GatherSteps (x0 : Turn) (x1 : Int) (x2 : List Entry) : Option (Bool) :=
 match C_law14_big x0 with
 | some y1 =>
  bif y1 then
   match C_law14_shown () with
   | some y2 =>
    some (y2)
   | none => none
  else
   match C_law14_may x0 with
   | some y2 =>
    bif !y2 then
     match C_law14_shown () with
     | some y3 =>
      some (y3)
     | none => none
    else
     bif decide ((↑x2.length : Int) > (20 : Int)) then
      match C_law14_shown () with
      | some y3 =>
       some (y3)
      | none => none
     else
      match C_law14_shown () with
      | some y3 =>
       bif !y3 then
        match C_law14_shown () with
        | some y4 =>
         some (y4)
        | none => none
       else
        match C_gather_Step x0 with
        | some y4 =>
         match C_law14_its x0 with
         | some y5 =>
          match C_ref14_Step y5 with
          | some y6 =>
           bif y4.snd == y6.snd then
            match C_law14_its y4.fst with
            | some y7 =>
             match C_ref10_Alike (y7, y6.fst) with
             | some y8 =>
              bif y8 then
               match C_gather_Take (x0, x1, x2) with
               | some y9 =>
                match C_law14_its y9 with
                | some y10 =>
                 match C_law14_its x0 with
                 | some y11 =>
                  match C_law14_entries x2 with
                  | some y12 =>
                   match C_ref14_Take (y11, x1, y12) with
                   | some y13 =>
                    match C_ref10_Alike (y10, y13) with
                    | some y14 =>
                     some (y14)
                    | none => none
                   | none => none
                  | none => none
                 | none => none
                | none => none
               | none => none
              else
               some (false)
             | none => none
            | none => none
           else
            some (false)
          | none => none
         | none => none
        | none => none
      | none => none
   | none => none
 | none => none
noncomputable def C_law14_GatherSteps (x : Turn × Int × (List Entry)) : Option (Bool) := F_law14_GatherSteps x.1 x.2.1 x.2.2

/- millstream/millstreamlaw14.GatherAll -/
noncomputable def S_law14_GatherAll_39 (x0 : Turn) (x1 : Config) (x2 : Turn) (x3 : Int) : Option ((Turn × Config × Turn × Int) ⊕ ((Turn × Turn) ⊕ (Bool))) :=
 bif decide (x3 < (↑x0.th.held.length : Int)) then
  bif decide ((0 : Int) ≤ x3) then
   bif decide (x3 < (↑x0.th.held.length : Int)) then
    match C_ref06_Node (x1, x0.th.item, x0.th.held.getD x3.toNat (0 : Int)) with
    | some y1 =>
     bif decide ((0 : Int) ≤ y1) then
      bif decide (y1 < (↑x2.m.words.length : Int)) then
       bif x2.m.words.getD (Int.toNat y1) (0 : Int) != (0 : Int) then
        some (Sum.inr (Sum.inr false))
       else
        some (Sum.inl (x0, x1, x2, wrapA IntKind.i64 (x3 + (1 : Int))))
      else
       none
     else
      none
    | none => none
   else
    none
  else
   none
 else
  some (Sum.inr (Sum.inl (x0, x2)))
noncomputable def T_law14_GatherAll_39 (x : Turn × Config × Turn × Int) : Option ((Turn × Config × Turn × Int) ⊕ ((Turn × Turn) ⊕ (Bool))) := S_law14_GatherAll_39 x.1 x.2.1 x.2.2.1 x.2.2.2
noncomputable def W_law14_GatherAll_39 (x : Turn × Config × Turn × Int) : Option ((Turn × Turn) ⊕ (Bool)) := whileM T_law14_GatherAll_39 x
noncomputable def S_law14_GatherAll_30 (x0 : Turn) (x1 : Config) (x2 : List Int) (x3 : List Entry) (x4 : Int) (x5 : Turn) (x6 : Int) : Option ((Turn × Config × (List Int) × (List Entry) × Int × Turn × Int) ⊕ ((Turn × Config × (List Int) × (List Entry) × Turn) ⊕ (Bool))) :=
 bif decide (x6 < x4) then
  match C_gather_Step x5 with
  | some y1 =>
   bif !y1.snd then
    some (Sum.inr (Sum.inr false))
   else
    some (Sum.inl (x0, x1, x2, x3, x4, y1.fst, wrapA IntKind.i64 (x6 + (1 : Int))))
  | none => none
 else
  some (Sum.inr (Sum.inl (x0, x1, x2, x3, x5)))
noncomputable def T_law14_GatherAll_30 (x : Turn × Config × (List Int) × (List Entry) × Int × Turn × Int) : Option ((Turn × Config × (List Int) × (List Entry) × Int × Turn × Int) ⊕ ((Turn × Config × (List Int) × (List Entry) × Turn) ⊕ (Bool))) := S_law14_GatherAll_30 x.1 x.2.1 x.2.2.1 x.2.2.2.1 x.2.2.2.2.1 x.2.2.2.2.2.1 x.2.2.2.2.2.2
noncomputable def W_law14_GatherAll_30 (x : Turn × Config × (List Int) × (List Entry) × Int × Turn × Int) : Option ((Turn × Config × (List Int) × (List Entry) × Turn) ⊕ (Bool)) := whileM T_law14_GatherAll_30 x
noncomputable def S_law14_GatherAll_12 (x0 : List Int) (x1 : Turn) (x2 : Config) (x3 : List Int) (x4 : List Entry) (x5 : Int) (x6 : Int) (x7 : Int) (x8 : Int) : Option (((List Int) × Turn × Config × (List Int) × (List Entry) × Int × Int × Int × Int) ⊕ (((List Int) × Turn × Config × (List Int) × (List Entry) × Int × Int × Int) ⊕ (Bool))) :=
 bif decide (x8 < x6) then
  bif decide ((0 : Int) ≤ x8) then
   bif decide (x8 < (↑x1.th.held.length : Int)) then
    bif decide ((0 : Int) ≤ x6) then
     bif decide (x6 < (↑x1.th.held.length : Int)) then
      bif x1.th.held.getD x8.toNat (0 : Int) == x1.th.held.getD x6.toNat (0 : Int) then
       some (Sum.inr (Sum.inr true))
      else
       some (Sum.inl (x0, x1, x2, x3, x4, x5, x6, x7, wrapA IntKind.i64 (x8 + (1 : Int))))
     else
      none
    else
     none
   else
    none
  else
   none
 else
  some (Sum.inr (Sum.inl (x0, x1, x2, x3, x4, x5, x6, x7)))
noncomputable def T_law14_GatherAll_12 (x : (List Int) × Turn × Config × (List Int) × (List Entry) × Int × Int × Int × Int) : Option (((List Int) × Turn × Config × (List Int) × (List Entry) × Int × Int × Int × Int) ⊕ (((List Int) × Turn × Config × (List Int) × (List Entry) × Int × Int × Int) ⊕ (Bool))) := S_law14_GatherAll_12 x.1 x.2.1 x.2.2.1 x.2.2.2.1 x.2.2.2.2.1 x.2.2.2.2.2.1 x.2.2.2.2.2.2.1 x.2.2.2.2.2.2.2.1 x.2.2.2.2.2.2.2.2
noncomputable def W_law14_GatherAll_12 (x : (List Int) × Turn × Config × (List Int) × (List Entry) × Int × Int × Int × Int) : Option (((List Int) × Turn × Config × (List Int) × (List Entry) × Int × Int × Int) ⊕ (Bool)) := whileM T_law14_GatherAll_12 x
noncomputable def S_law14_GatherAll_8 (x0 : List Int) (x1 : Turn) (x2 : Config) (x3 : List Int) (x4 : List Entry) (x5 : Int) (x6 : Int) : Option (((List Int) × Turn × Config × (List Int) × (List Entry) × Int × Int) ⊕ ((Turn × Config × (List Int) × (List Entry) × Int) ⊕ (Bool))) :=
 bif decide (x6 < (↑x1.th.held.length : Int)) then
  bif decide ((0 : Int) ≤ x6) then
   bif decide (x6 < (↑x1.th.held.length : Int)) then
    match C_ref06_Node (x2, x1.th.item, x1.th.held.getD x6.toNat (0 : Int)) with
    | some y1 =>
     match W_law14_GatherAll_12 (x0, x1, x2, x3, x4, x5, x6, y1, (0 : Int)) with
     | some (.inl y2) =>
      bif decide (y2.snd.snd.snd.snd.snd.snd.snd < (0 : Int)) then
       some (Sum.inr (Sum.inr true))
      else
       bif decide ((0 : Int) ≤ y2.snd.snd.snd.snd.snd.snd.fst) then
        bif decide (y2.snd.snd.snd.snd.snd.snd.fst < (↑(List.length y2.fst) : Int)) then
         bif decide (wrapA IntKind.i64 (y2.snd.fst.c.threads + (1 : Int)) = (0 : Int)) then
          none
         else
          bif (IntKind.i64.wrap (List.getD y2.fst (Int.toNat y2.snd.snd.snd.snd.snd.snd.fst) (0 : Int))).tmod (wrapA IntKind.i64 (y2.snd.fst.c.threads + (1 : Int))) == y2.snd.fst.c.threads then
           match C_code_First y2.snd.fst.t with
           | some y3 =>
            bif decide ((0 : Int) ≤ y2.snd.snd.snd.snd.snd.snd.snd) then
             bif decide (y2.snd.snd.snd.snd.snd.snd.snd < (↑(List.length y2.snd.snd.snd.fst) : Int)) then
              some (Sum.inl (y2.fst, y2.snd.fst, y2.snd.snd.fst, List.set y2.snd.snd.snd.fst (Int.toNat y2.snd.snd.snd.snd.snd.snd.snd) y3, y2.snd.snd.snd.snd.fst, wrapA IntKind.i64 (y2.snd.snd.snd.snd.snd.fst + (2 : Int)), wrapA IntKind.i64 (y2.snd.snd.snd.snd.snd.snd.fst + (1 : Int))))
             else
              none
            else
             none
           | none => none
          else
           match C_code_Deposited ((IntKind.i64.wrap (List.getD y2.fst (Int.toNat y2.snd.snd.snd.snd.snd.snd.fst) (0 : Int))).tmod (wrapA IntKind.i64 (y2.snd.fst.c.threads + (1 : Int)))) with
           | some y3 =>
            bif decide ((0 : Int) ≤ y2.snd.snd.snd.snd.snd.snd.snd) then
             bif decide (y2.snd.snd.snd.snd.snd.snd.snd < (↑(List.length y2.snd.snd.snd.fst) : Int)) then
              bif decide ((0 : Int) ≤ (IntKind.i64.wrap (List.getD y2.fst (Int.toNat y2.snd.snd.snd.snd.snd.snd.fst) (0 : Int))).tmod (wrapA IntKind.i64 (y2.snd.fst.c.threads + (1 : Int)))) then
               bif decide ((IntKind.i64.wrap (List.getD y2.fst (Int.toNat y2.snd.snd.snd.snd.snd.snd.fst) (0 : Int))).tmod (wrapA IntKind.i64 (y2.snd.fst.c.threads + (1 : Int))) < (↑y2.snd.fst.m.boxes.length : Int)) then
                match C_law14_entries (y2.snd.fst.m.boxes.getD ((IntKind.i64.wrap (List.getD y2.fst (Int.toNat y2.snd.snd.snd.snd.snd.snd.fst) (0 : Int))).tmod (wrapA IntKind.i64 (y2.snd.fst.c.threads + (1 : Int)))).toNat ([] : List Entry)) with
                | some y4 =>
                 bif fewB (List.length y2.snd.snd.snd.snd.fst + List.length y4) then
                  some (Sum.inl (y2.fst, y2.snd.fst, y2.snd.snd.fst, List.set y2.snd.snd.snd.fst (Int.toNat y2.snd.snd.snd.snd.snd.snd.snd) y3, y2.snd.snd.snd.snd.fst ++ y4, wrapA IntKind.i64 (y2.snd.snd.snd.snd.snd.fst + (3 : Int)), wrapA IntKind.i64 (y2.snd.snd.snd.snd.snd.snd.fst + (1 : Int))))
                 else
                  none
                | none => none
               else
                none
              else
               none
             else
              none
            else
             none
           | none => none
        else
         none
       else
        none
     | some (.inr y3) =>
      some (Sum.inr (Sum.inr y3))
     | none => none
    | none => none
   else
    none
  else
   none
 else
  some (Sum.inr (Sum.inl (x1, x2, x3, x4, x5)))
noncomputable def T_law14_GatherAll_8 (x : (List Int) × Turn × Config × (List Int) × (List Entry) × Int × Int) : Option (((List Int) × Turn × Config × (List Int) × (List Entry) × Int × Int) ⊕ ((Turn × Config × (List Int) × (List Entry) × Int) ⊕ (Bool))) := S_law14_GatherAll_8 x.1 x.2.1 x.2.2.1 x.2.2.2.1 x.2.2.2.2.1 x.2.2.2.2.2.1 x.2.2.2.2.2.2
noncomputable def W_law14_GatherAll_8 (x : (List Int) × Turn × Config × (List Int) × (List Entry) × Int × Int) : Option ((Turn × Config × (List Int) × (List Entry) × Int) ⊕ (Bool)) := whileM T_law14_GatherAll_8 x
noncomputable def F_law14_GatherAll (x0 : Turn) (x1 : List Int) : Option (Bool) :=
 match C_law14_big x0 with
 | some y1 =>
  bif y1 then
   match C_law14_shown () with
   | some y2 =>
    some (y2)
   | none => none
  else
   match C_law14_may x0 with
   | some y2 =>
    bif !y2 then
     match C_law14_shown () with
     | some y3 =>
      some (y3)
     | none => none
    else
     bif decide ((↑x0.th.held.length : Int) > (4 : Int)) then
      match C_law14_shown () with
      | some y3 =>
       some (y3)
      | none => none
     else
      bif decide ((↑x1.length : Int) < (↑x0.th.held.length : Int)) then
       match C_law14_shown () with
       | some y3 =>
        some (y3)
       | none => none
      else
       match C_law14_shown () with
       | some y3 =>
        bif !y3 then
         match C_law14_shown () with
         | some y4 =>
          some (y4)
         | none => none
        else
         bif fewB ((0 : Nat) + x0.m.words.length) then
          match C_law14_entries x0.th.batch with
          | some y4 =>
           match W_law14_GatherAll_8 (x1, x0, x0.c, x0.m.words, y4, (0 : Int), (0 : Int)) with
           | some (.inl y5) =>
            match W_law14_GatherAll_30 ({ y5.fst with m := { y5.fst.m with words := y5.snd.snd.fst }, th := { y5.fst.th with phase := (7 : Int), at_ := (0 : Int) } }, y5.snd.fst, y5.snd.snd.fst, y5.snd.snd.snd.fst, y5.snd.snd.snd.snd, { y5.fst with m := { y5.fst.m with words := y5.snd.snd.fst }, th := { y5.fst.th with phase := (7 : Int), at_ := (0 : Int) } }, (0 : Int)) with
            | some (.inl y6) =>
             bif (↑y6.snd.snd.snd.snd.m.words.length : Int) != (↑(List.length y6.snd.snd.fst) : Int) then
              some (false)
             else
              bif decide ((↑y6.snd.snd.snd.snd.th.batch.length : Int) > (100 : Int)) then
               some (false)
              else
               match C_law14_entries y6.snd.snd.snd.snd.th.batch with
               | some y7 =>
                match C_ref02_Same (y7, y6.snd.snd.snd.fst) with
                | some y8 =>
                 bif !y8 then
                  some (false)
                 else
                  match W_law14_GatherAll_39 (y6.fst, y6.snd.fst, y6.snd.snd.snd.snd, (0 : Int)) with
                  | some (.inl y9) =>
                   bif (↑y9.fst.th.held.length : Int) == (0 : Int) then
                    some (true)
                   else
                    bif y9.snd.th.phase == (11 : Int) then
                     bif decide (y9.fst.th.stop > (0 : Int)) then
                      some (true)
                     else
                      bif y9.snd.th.phase == (2 : Int) then
                       some (decide (y9.fst.th.stop ≤ (0 : Int)))
                      else
                       some (false)
                    else
                     bif y9.snd.th.phase == (2 : Int) then
                      some (decide (y9.fst.th.stop ≤ (0 : Int)))
                     else
                      some (false)
                  | some (.inr y10) =>
                   some (y10)
                  | none => none
                | none => none
               | none => none
            | some (.inr y7) =>
             some (y7)
            | none => none
           | some (.inr y6) =>
            some (y6)
           | none => none
          | none => none
         else
          none
       | none => none
   | none => none
 | none => none
noncomputable def C_law14_GatherAll (x : Turn × (List Int)) : Option (Bool) := F_law14_GatherAll x.1 x.2

/- millstream/millstreamlaw14.GatherLeaves -/
noncomputable def S_law14_GatherLeaves_13 (x0 : Turn) (x1 : Int) (x2 : Turn) (x3 : Turn) (x4 : Int) : Option ((Turn × Int × Turn × Turn × Int) ⊕ ((Turn × Int × Turn × Turn) ⊕ (Bool))) :=
 bif decide (x4 < (↑x0.m.words.length : Int)) then
  bif x4 != x1 then
   bif decide ((0 : Int) ≤ x4) then
    bif decide (x4 < (↑x3.m.words.length : Int)) then
     bif decide ((0 : Int) ≤ x4) then
      bif decide (x4 < (↑x0.m.words.length : Int)) then
       bif x3.m.words.getD x4.toNat (0 : Int) != x0.m.words.getD x4.toNat (0 : Int) then
        some (Sum.inr (Sum.inr false))
       else
        some (Sum.inl (x0, x1, x2, x3, wrapA IntKind.i64 (x4 + (1 : Int))))
      else
       none
     else
      none
    else
     none
   else
    none
  else
   some (Sum.inl (x0, x1, x2, x3, wrapA IntKind.i64 (x4 + (1 : Int))))
 else
  some (Sum.inr (Sum.inl (x0, x1, x2, x3)))
noncomputable def T_law14_GatherLeaves_13 (x : Turn × Int × Turn × Turn × Int) : Option ((Turn × Int × Turn × Turn × Int) ⊕ ((Turn × Int × Turn × Turn) ⊕ (Bool))) := S_law14_GatherLeaves_13 x.1 x.2.1 x.2.2.1 x.2.2.2.1 x.2.2.2.2
noncomputable def W_law14_GatherLeaves_13 (x : Turn × Int × Turn × Turn × Int) : Option ((Turn × Int × Turn × Turn) ⊕ (Bool)) := whileM T_law14_GatherLeaves_13 x
noncomputable def F_law14_GatherLeaves (x0 : Turn) : Option (Bool) :=
 match C_law14_may x0 with
 | some y1 =>
  bif y1 then
   match C_ref06_Node (x0.c, x0.th.item, x0.th.stop) with
   | some y2 =>
    match C_law14_big x0 with
    | some y3 =>
     bif y3 then
      match C_law14_shown () with
      | some y4 =>
       some (y4)
      | none => none
     else
      bif decide (y2 < (0 : Int)) then
       match C_law14_shown () with
       | some y4 =>
        some (y4)
       | none => none
      else
       match C_law14_shown () with
       | some y4 =>
        bif !y4 then
         match C_law14_shown () with
         | some y5 =>
          some (y5)
         | none => none
        else
         match C_gather_Step { x0 with th := { x0.th with phase := (11 : Int) } } with
         | some y5 =>
          match C_gather_Step y5.fst with
          | some y6 =>
           bif !y5.snd then
            some (false)
           else
            bif !y6.snd then
             some (false)
            else
             bif (↑y6.fst.m.boxes.length : Int) != (↑x0.m.boxes.length : Int) then
              some (false)
             else
              bif (↑y6.fst.m.words.length : Int) != (↑x0.m.words.length : Int) then
               some (false)
              else
               bif decide ((0 : Int) ≤ x0.t) then
                bif decide (x0.t < (↑y6.fst.m.boxes.length : Int)) then
                 bif decide ((↑(List.length (y6.fst.m.boxes.getD x0.t.toNat ([] : List Entry))) : Int) > (100 : Int)) then
                  some (false)
                 else
                  match W_law14_GatherLeaves_13 ({ x0 with th := { x0.th with phase := (11 : Int) } }, y2, y5.fst, y6.fst, (0 : Int)) with
                  | some (.inl y7) =>
                   bif decide ((0 : Int) ≤ y7.fst.t) then
                    bif decide (y7.fst.t < (↑y7.snd.snd.snd.m.boxes.length : Int)) then
                     match C_law14_entries (y7.snd.snd.snd.m.boxes.getD y7.fst.t.toNat ([] : List Entry)) with
                     | some y8 =>
                      match C_law14_entries y7.fst.th.batch with
                      | some y9 =>
                       match C_ref02_Same (y8, y9) with
                       | some y10 =>
                        bif y10 then
                         bif decide ((0 : Int) ≤ y7.snd.fst) then
                          bif decide (y7.snd.fst < (↑y7.snd.snd.snd.m.words.length : Int)) then
                           match C_code_Deposited y7.fst.t with
                           | some y11 =>
                            bif y7.snd.snd.snd.m.words.getD (Int.toNat y7.snd.fst) (0 : Int) == y11 then
                             bif y7.snd.snd.snd.th.phase == (13 : Int) then
                              some (y7.snd.snd.fst.th.phase == (12 : Int))
                             else
                              some (false)
                            else
                             some (false)
                           | none => none
                          else
                           none
                         else
                          none
                        else
                         some (false)
                       | none => none
                      | none => none
                     | none => none
                    else
                     none
                   else
                    none
                  | some (.inr y8) =>
                   some (y8)
                  | none => none
                else
                 none
               else
                none
          | none => none
         | none => none
       | none => none
    | none => none
   | none => none
  else
   match C_law14_big x0 with
   | some y2 =>
    bif y2 then
     match C_law14_shown () with
     | some y3 =>
      some (y3)
     | none => none
    else
     match C_law14_shown () with
     | some y3 =>
      some (y3)
     | none => none
   | none => none
 | none => none
noncomputable def C_law14_GatherLeaves (x : Turn) : Option (Bool) := F_law14_GatherLeaves x

/- millstream/millstreamlaw14.GatherWaits -/
noncomputable def F_law14_GatherWaits (x0 : Turn) (x1 : Int) : Option (Bool) :=
 match C_law14_big x0 with
 | some y1 =>
  bif y1 then
   match C_law14_shown () with
   | some y2 =>
    some (y2)
   | none => none
  else
   match C_law14_may x0 with
   | some y2 =>
    bif !y2 then
     match C_law14_shown () with
     | some y3 =>
      some (y3)
     | none => none
    else
     bif decide (x0.th.at_ < (0 : Int)) then
      match C_law14_shown () with
      | some y3 =>
       some (y3)
      | none => none
     else
      bif decide (x0.th.at_ ≥ (↑x0.th.held.length : Int)) then
       match C_law14_shown () with
       | some y3 =>
        some (y3)
       | none => none
      else
       match C_law14_shown () with
       | some y3 =>
        bif !y3 then
         match C_law14_shown () with
         | some y4 =>
          some (y4)
         | none => none
        else
         bif decide ((0 : Int) ≤ x0.th.at_) then
          bif decide (x0.th.at_ < (↑x0.th.held.length : Int)) then
           match C_ref06_Node (x0.c, x0.th.item, x0.th.held.getD x0.th.at_.toNat (0 : Int)) with
           | some y4 =>
            bif decide (y4 < (0 : Int)) then
             some (true)
            else
             bif fewB ((0 : Nat) + x0.m.words.length) then
              bif decide (x0.c.threads = (0 : Int)) then
               none
              else
               match C_code_Joined ((IntKind.i64.wrap x1).tmod x0.c.threads) with
               | some y5 =>
                bif decide ((0 : Int) ≤ y4) then
                 bif decide (y4 < (↑x0.m.words.length : Int)) then
                  match C_gather_Step { x0 with m := { x0.m with words := x0.m.words.set (Int.toNat y4) y5 }, th := { x0.th with phase := (7 : Int) } } with
                  | some y6 =>
                   match C_gather_Step { x0 with m := { x0.m with words := x0.m.words.set (Int.toNat y4) y5 }, th := { x0.th with phase := (8 : Int) } } with
                   | some y7 =>
                    bif y6.snd then
                     bif y7.snd then
                      match C_law14_its y6.fst with
                      | some y8 =>
                       match C_law14_its { x0 with m := { x0.m with words := x0.m.words.set (Int.toNat y4) y5 }, th := { x0.th with phase := (7 : Int) } } with
                       | some y9 =>
                        match C_ref10_Alike (y8, y9) with
                        | some y10 =>
                         bif y10 then
                          match C_law14_its y7.fst with
                          | some y11 =>
                           match C_law14_its { x0 with m := { x0.m with words := x0.m.words.set (Int.toNat y4) y5 }, th := { x0.th with phase := (7 : Int) } } with
                           | some y12 =>
                            match C_ref10_Alike (y11, y12) with
                            | some y13 =>
                             some (y13)
                            | none => none
                           | none => none
                          | none => none
                         else
                          some (false)
                        | none => none
                       | none => none
                      | none => none
                     else
                      some (false)
                    else
                     some (false)
                   | none => none
                  | none => none
                 else
                  none
                else
                 none
               | none => none
             else
              none
           | none => none
          else
           none
         else
          none
       | none => none
   | none => none
 | none => none
noncomputable def C_law14_GatherWaits (x : Turn × Int) : Option (Bool) := F_law14_GatherWaits x.1 x.2

/- millstream/millstreamlaw14.GatherRace -/
noncomputable def F_law14_GatherRace (x0 : Turn) (x1 : Int) : Option (Bool) :=
 match C_law14_big x0 with
 | some y1 =>
  bif y1 then
   match C_law14_shown () with
   | some y2 =>
    some (y2)
   | none => none
  else
   match C_law14_may x0 with
   | some y2 =>
    bif !y2 then
     match C_law14_shown () with
     | some y3 =>
      some (y3)
     | none => none
    else
     bif decide (x0.th.at_ < (0 : Int)) then
      match C_law14_shown () with
      | some y3 =>
       some (y3)
      | none => none
     else
      bif decide (x0.th.at_ ≥ (↑x0.th.held.length : Int)) then
       match C_law14_shown () with
       | some y3 =>
        some (y3)
       | none => none
      else
       match C_law14_shown () with
       | some y3 =>
        bif !y3 then
         match C_law14_shown () with
         | some y4 =>
          some (y4)
         | none => none
        else
         bif decide ((0 : Int) ≤ x0.th.at_) then
          bif decide (x0.th.at_ < (↑x0.th.held.length : Int)) then
           match C_ref06_Node (x0.c, x0.th.item, x0.th.held.getD x0.th.at_.toNat (0 : Int)) with
           | some y4 =>
            bif decide (y4 < (0 : Int)) then
             some (true)
            else
             bif fewB ((0 : Nat) + x0.m.words.length) then
              match C_code_First x0.t with
              | some y5 =>
               bif decide ((0 : Int) ≤ y4) then
                bif decide (y4 < (↑x0.m.words.length : Int)) then
                 match C_gather_Step { x0 with m := { x0.m with words := x0.m.words.set (Int.toNat y4) y5 }, th := { x0.th with phase := (7 : Int) } } with
                 | some y6 =>
                  bif fewB ((0 : Nat) + (x0.m.words.set (Int.toNat y4) y5).length) then
                   bif decide (x0.c.threads = (0 : Int)) then
                    none
                   else
                    match C_code_Joined ((IntKind.i64.wrap x1).tmod x0.c.threads) with
                    | some y7 =>
                     bif decide ((0 : Int) ≤ y4) then
                      bif decide (y4 < (↑(x0.m.words.set (Int.toNat y4) y5).length : Int)) then
                       match C_gather_Step { y6.fst with m := { y6.fst.m with words := (x0.m.words.set (Int.toNat y4) y5).set (Int.toNat y4) y7 } } with
                       | some y8 =>
                        match C_gather_Step y8.fst with
                        | some y9 =>
                         bif y6.fst.th.phase == (8 : Int) then
                          bif y8.fst.th.phase == (7 : Int) then
                           bif y8.fst.th.at_ == x0.th.at_ then
                            bif (↑y8.fst.m.words.length : Int) == (↑((x0.m.words.set (Int.toNat y4) y5).set (Int.toNat y4) y7).length : Int) then
                             bif decide ((0 : Int) ≤ y4) then
                              bif decide (y4 < (↑y8.fst.m.words.length : Int)) then
                               bif decide ((0 : Int) ≤ y4) then
                                bif decide (y4 < (↑((x0.m.words.set (Int.toNat y4) y5).set (Int.toNat y4) y7).length : Int)) then
                                 bif y8.fst.m.words.getD (Int.toNat y4) (0 : Int) == ((x0.m.words.set (Int.toNat y4) y5).set (Int.toNat y4) y7).getD (Int.toNat y4) (0 : Int) then
                                  match C_law14_its y9.fst with
                                  | some y10 =>
                                   match C_law14_its y8.fst with
                                   | some y11 =>
                                    match C_ref10_Alike (y10, y11) with
                                    | some y12 =>
                                     some (y12)
                                    | none => none
                                   | none => none
                                  | none => none
                                 else
                                  some (false)
                                else
                                 none
                               else
                                none
                              else
                               none
                             else
                              none
                            else
                             some (false)
                           else
                            some (false)
                          else
                           some (false)
                         else
                          some (false)
                        | none => none
                       | none => none
                      else
                       none
                     else
                      none
                    | none => none
                  else
                   none
                 | none => none
                else
                 none
               else
                none
              | none => none
             else
              none
           | none => none
          else
           none
         else
          none
       | none => none
   | none => none
 | none => none
noncomputable def C_law14_GatherRace (x : Turn × Int) : Option (Bool) := F_law14_GatherRace x.1 x.2

/- millstream/millstreamlaw15.big -/
noncomputable def S_law15_big_2 (x0 : Turn) (x1 : Int) : Option ((Turn × Int) ⊕ ((Turn) ⊕ (Bool))) :=
 bif decide (x1 < (↑x0.m.boxes.length : Int)) then
  bif decide (x1 < (20 : Int)) then
   bif decide ((0 : Int) ≤ x1) then
    bif decide (x1 < (↑x0.m.boxes.length : Int)) then
     bif decide ((↑(List.length (x0.m.boxes.getD x1.toNat ([] : List Entry))) : Int) > (20 : Int)) then
      some (Sum.inr (Sum.inr true))
     else
      some (Sum.inl (x0, wrapA IntKind.i64 (x1 + (1 : Int))))
    else
     none
   else
    none
  else
   some (Sum.inr (Sum.inl x0))
 else
  some (Sum.inr (Sum.inl x0))
noncomputable def T_law15_big_2 (x : Turn × Int) : Option ((Turn × Int) ⊕ ((Turn) ⊕ (Bool))) := S_law15_big_2 x.1 x.2
noncomputable def W_law15_big_2 (x : Turn × Int) : Option ((Turn) ⊕ (Bool)) := whileM T_law15_big_2 x
noncomputable def F_law15_big (x0 : Turn) : Option (Bool) :=
 match W_law15_big_2 (x0, (0 : Int)) with
 | some (.inl y1) =>
  bif decide ((↑y1.m.words.length : Int) > (400 : Int)) then
   some (true)
  else
   bif decide ((↑y1.m.boxes.length : Int) > (16 : Int)) then
    some (true)
   else
    bif decide ((↑y1.th.batch.length : Int) > (20 : Int)) then
     some (true)
    else
     bif decide ((↑y1.th.kids.length : Int) > (20 : Int)) then
      some (true)
     else
      bif decide ((↑y1.th.held.length : Int) > (20 : Int)) then
       some (true)
      else
       bif decide ((↑y1.tape.l.length : Int) > (100 : Int)) then
        some (true)
       else
        some (decide ((↑y1.log.length : Int) > (50 : Int)))
 | some (.inr y2) =>
  some (y2)
 | none => none
noncomputable def C_law15_big (x : Turn) : Option (Bool) := F_law15_big x

/- millstream/millstreamlaw15.may -/
noncomputable def F_law15_may (x0 : Turn) : Option (Bool) :=
 match C_ref05_Check x0.c with
 | some y1 =>
  bif y1 == (0 : Int) then
   bif decide (x0.t ≥ (0 : Int)) then
    bif decide (x0.t < x0.c.threads) then
     match C_ref06_Size x0.c with
     | some y2 =>
      bif (↑x0.m.words.length : Int) == y2 then
       bif (↑x0.m.boxes.length : Int) == x0.c.threads then
        bif decide (x0.th.item ≥ (0 : Int)) then
         some (decide (x0.th.item < x0.c.items))
        else
         some (false)
       else
        some (false)
      else
       some (false)
     | none => none
    else
     some (false)
   else
    some (false)
  else
   some (false)
 | none => none
noncomputable def C_law15_may (x : Turn) : Option (Bool) := F_law15_may x

/- millstream/millstreamlaw15.layered -/
noncomputable def F_law15_layered (x0 : Turn) : Option (Bool) :=
 match C_law15_may x0 with
 | some y1 =>
  bif y1 then
   bif decide (x0.th.layer ≥ (1 : Int)) then
    some (decide (x0.th.layer ≤ (3 : Int)))
   else
    some (false)
  else
   some (false)
 | none => none
noncomputable def C_law15_layered (x : Turn) : Option (Bool) := F_law15_layered x

/- millstream/code.Open -/
noncomputable def F_code_Open (x0 : Int) (x1 : Int) : Option (Int) :=
 match C_code_said_word (Said.mk (4 : Int) (wrapA IntKind.i64 (wrapA IntKind.i64 (x0 * (2 : Int) ^ min (Int.toNat (4 : Int)) IntKind.i64.bits) + x1))) with
 | some y1 =>
  some (y1)
 | none => none
noncomputable def C_code_Open (x : Int × Int) : Option (Int) := F_code_Open x.1 x.2

/- millstream/arena.Line -/
noncomputable def F_arena_Line (x0 : Config) (x1 : Int) : Option (Int) :=
 bif decide (x1 < (0 : Int)) then
  some ((-1 : Int))
 else
  bif decide (x1 ≥ x0.threads) then
   some ((-1 : Int))
  else
   match C_arena_of x0 with
   | some y1 =>
    some (wrapA IntKind.i64 (y1.lines + wrapA IntKind.i64 ((2 : Int) * x1)))
   | none => none
noncomputable def C_arena_Line (x : Config × Int) : Option (Int) := F_arena_Line x.1 x.2

/- (*millstream/collide.diver).line -/
noncomputable def F_collide_diver_line (x0 : Turn × Int) (x1 : Int) : Option (Int) :=
 match C_arena_Line (x0.fst.c, x1) with
 | some y1 =>
  some (y1)
 | none => none
noncomputable def C_collide_diver_line (x : (Turn × Int) × Int) : Option (Int) := F_collide_diver_line x.1 x.2

/- millstream/commit.Onward -/
noncomputable def F_commit_Onward (x0 : Turn) : Option (Turn) :=
 bif decide (x0.th.layer < x0.c.layers) then
  match C_thread_Late { x0 with th := { x0.th with phase := (2 : Int) } } with
  | some y1 =>
   bif !y1 then
    some ({ x0 with th := { x0.th with phase := (17 : Int), layer := wrapA IntKind.i64 (x0.th.layer + (1 : Int)) } })
   else
    some ({ x0 with th := { x0.th with phase := (2 : Int) } })
  | none => none
 else
  some ({ x0 with th := { x0.th with phase := (2 : Int) } })
noncomputable def C_commit_Onward (x : Turn) : Option (Turn) := F_commit_Onward x

/- millstream/tape.Below -/
noncomputable def F_tape_Below (x0 : Tape) (x1 : Int) : Option (Int × Tape) :=
 bif decide (x1 < (1 : Int)) then
  some (((0 : Int), x0))
 else
  match C_tape_Next x0 with
  | some y1 =>
   bif decide (x1 = (0 : Int)) then
    none
   else
    bif decide (Int.tmod y1.fst x1 < (0 : Int)) then
     some ((wrapA IntKind.i64 (Int.tmod y1.fst x1 + x1), y1.snd))
    else
     some ((Int.tmod y1.fst x1, y1.snd))
  | none => none
noncomputable def C_tape_Below (x : Tape × Int) : Option (Int × Tape) := F_tape_Below x.1 x.2

/- millstream/wmem.Swap -/
noncomputable def F_wmem_Swap (x0 : Memo) (x1 : Int) (x2 : Int) : Option (Memo × Int × Int) :=
 match C_wmem_at_int (x0.words, x1) with
 | some y1 =>
  bif y1.snd != (0 : Int) then
   some ((x0, (0 : Int), y1.snd))
  else
   match C_slices_Clone_int x0.words with
   | some y2 =>
    bif decide ((0 : Int) ≤ x1) then
     bif decide (x1 < (↑(List.length y2) : Int)) then
      some (({ x0 with words := List.set y2 x1.toNat x2 }, y1))
     else
      none
    else
     none
   | none => none
 | none => none
noncomputable def C_wmem_Swap (x : Memo × Int × Int) : Option (Memo × Int × Int) := F_wmem_Swap x.1 x.2.1 x.2.2

/- millstream/arena.Slot -/
noncomputable def F_arena_Slot (x0 : Config) (x1 : Int) (x2 : Int) (x3 : Int) : Option (Int) :=
 bif decide (x1 < (0 : Int)) then
  some ((-1 : Int))
 else
  bif decide (x1 ≥ x0.items) then
   some ((-1 : Int))
  else
   bif decide (x2 < (1 : Int)) then
    some ((-1 : Int))
   else
    bif decide (x2 ≥ wrapA IntKind.i64 ((1 : Int) + x0.layers)) then
     some ((-1 : Int))
    else
     bif decide (x3 < (0 : Int)) then
      some ((-1 : Int))
     else
      bif decide (x3 ≥ x0.width) then
       some ((-1 : Int))
      else
       match C_arena_of x0 with
       | some y1 =>
        match C_arena_of x0 with
        | some y2 =>
         some (wrapA IntKind.i64 (wrapA IntKind.i64 (wrapA IntKind.i64 (wrapA IntKind.i64 (x1 * y1.block) + y2.slots) + wrapA IntKind.i64 (wrapA IntKind.i64 (x2 - (1 : Int)) * x0.width)) + x3))
        | none => none
       | none => none
noncomputable def C_arena_Slot (x : Config × Int × Int × Int) : Option (Int) := F_arena_Slot x.1 x.2.1 x.2.2.1 x.2.2.2

/- millstream/collide.Step -/
noncomputable def F_collide_Step (x0 : Turn) : Option (Turn × Bool) :=
 match C_code_Open (x0.th.item, x0.th.layer) with
 | some y1 =>
  bif x0.th.phase == (17 : Int) then
   match C_wmem_Put (x0.m, x0.t, x0.th.batch) with
   | some y2 =>
    bif y2.snd == (0 : Int) then
     some (({ x0 with m := y2.fst, th := { x0.th with phase := (18 : Int) } }, true))
    else
     some ((x0, true))
   | none => none
  else
   bif x0.th.phase == (18 : Int) then
    match C_collide_diver_line ((x0, y1), x0.t) with
    | some y2 =>
     match C_wmem_Store (x0.m, y2, y1) with
     | some y3 =>
      bif y3.snd == (0 : Int) then
       some (({ x0 with m := y3.fst, th := { x0.th with phase := (19 : Int) } }, true))
      else
       some ((x0, true))
     | none => none
    | none => none
   else
    bif x0.th.phase == (19 : Int) then
     match C_tape_Below (x0.tape, x0.th.width) with
     | some y2 =>
      match C_arena_Slot (x0.c, x0.th.item, x0.th.layer, y2.fst) with
      | some y3 =>
       match C_wmem_Swap (x0.m, y3, wrapA IntKind.i64 (x0.t + (1 : Int))) with
       | some y4 =>
        bif y4.snd.snd != (0 : Int) then
         some ((x0, true))
        else
         bif decide (y4.snd.fst < (1 : Int)) then
          some (({ x0 with m := y4.fst, th := { x0.th with phase := (23 : Int), left := x0.c.spin }, tape := y2.snd }, true))
         else
          bif decide (y4.snd.fst > x0.c.threads) then
           some (({ x0 with m := y4.fst, th := { x0.th with phase := (23 : Int), left := x0.c.spin }, tape := y2.snd }, true))
          else
           bif y4.snd.fst == wrapA IntKind.i64 (x0.t + (1 : Int)) then
            some (({ x0 with m := y4.fst, th := { x0.th with phase := (23 : Int), left := x0.c.spin }, tape := y2.snd }, true))
           else
            some (({ x0 with m := y4.fst, th := { x0.th with phase := (20 : Int), who := wrapA IntKind.i64 (y4.snd.fst - (1 : Int)) }, tape := y2.snd }, true))
       | none => none
      | none => none
     | none => none
    else
     bif x0.th.phase == (20 : Int) then
      match C_collide_diver_line ((x0, y1), x0.t) with
      | some y2 =>
       match C_wmem_Cas (x0.m, y2, y1, (0 : Int)) with
       | some y3 =>
        bif y3.snd.snd != (0 : Int) then
         some ((x0, true))
        else
         bif y3.snd.fst then
          bif x0.th.phase == (26 : Int) then
           match C_commit_Onward { x0 with m := y3.fst, th := { x0.th with phase := (21 : Int), width := if x0.th.width.fdiv ((2 : Int) ^ min (Int.toNat (1 : Int)) IntKind.i64.bits) > (1 : Int) then x0.th.width.fdiv ((2 : Int) ^ min (Int.toNat (1 : Int)) IntKind.i64.bits) else (1 : Int) } } with
           | some y4 =>
            some ((y4, true))
           | none => none
          else
           some (({ x0 with m := y3.fst, th := { x0.th with phase := (21 : Int) } }, true))
         else
          some (({ x0 with m := y3.fst, th := { x0.th with phase := (13 : Int) } }, true))
       | none => none
      | none => none
     else
      bif x0.th.phase == (21 : Int) then
       match C_collide_diver_line ((x0, y1), x0.th.who) with
       | some y2 =>
        match C_wmem_Cas (x0.m, y2, y1, (0 : Int)) with
        | some y3 =>
         bif y3.snd.snd != (0 : Int) then
          some ((x0, true))
         else
          bif y3.snd.fst then
           bif x0.th.phase == (26 : Int) then
            match C_commit_Onward { x0 with m := y3.fst, th := { x0.th with phase := (22 : Int), width := if x0.th.width.fdiv ((2 : Int) ^ min (Int.toNat (1 : Int)) IntKind.i64.bits) > (1 : Int) then x0.th.width.fdiv ((2 : Int) ^ min (Int.toNat (1 : Int)) IntKind.i64.bits) else (1 : Int) } } with
            | some y4 =>
             some ((y4, true))
            | none => none
           else
            some (({ x0 with m := y3.fst, th := { x0.th with phase := (22 : Int) } }, true))
          else
           some (({ x0 with m := y3.fst, th := { x0.th with phase := (24 : Int) } }, true))
        | none => none
       | none => none
      else
       bif x0.th.phase == (22 : Int) then
        match C_wmem_Box (x0.m, x0.th.who) with
        | some y2 =>
         bif y2.snd == (0 : Int) then
          match C_gather_Take (x0, x0.th.who, y2.fst) with
          | some y3 =>
           some (({ y3 with th := { y3.th with phase := (25 : Int) } }, true))
          | none => none
         else
          some ((x0, true))
        | none => none
       else
        bif x0.th.phase == (23 : Int) then
         match C_collide_diver_line ((x0, y1), x0.t) with
         | some y2 =>
          match C_wmem_Load (x0.m, y2) with
          | some y3 =>
           bif y3.snd != (0 : Int) then
            some ((x0, true))
           else
            bif y3.fst != y1 then
             some (({ x0 with th := { x0.th with phase := (13 : Int) } }, true))
            else
             bif decide (x0.th.left > (0 : Int)) then
              match C_thread_Late x0 with
              | some y4 =>
               bif !y4 then
                some (({ x0 with th := { x0.th with left := wrapA IntKind.i64 (x0.th.left - (1 : Int)) } }, true))
               else
                some (({ x0 with th := { x0.th with phase := (26 : Int) } }, true))
              | none => none
             else
              some (({ x0 with th := { x0.th with phase := (26 : Int) } }, true))
          | none => none
         | none => none
        else
         bif x0.th.phase == (24 : Int) then
          match C_collide_diver_line ((x0, y1), x0.t) with
          | some y2 =>
           match C_wmem_Store (x0.m, y2, y1) with
           | some y3 =>
            bif y3.snd == (0 : Int) then
             some (({ x0 with m := y3.fst, th := { x0.th with phase := (23 : Int), left := x0.c.spin } }, true))
            else
             some ((x0, true))
           | none => none
          | none => none
         else
          bif x0.th.phase == (26 : Int) then
           match C_collide_diver_line ((x0, y1), x0.t) with
           | some y2 =>
            match C_wmem_Cas (x0.m, y2, y1, (0 : Int)) with
            | some y3 =>
             bif y3.snd.snd != (0 : Int) then
              some ((x0, true))
             else
              bif y3.snd.fst then
               bif x0.th.phase == (26 : Int) then
                match C_commit_Onward { x0 with m := y3.fst, th := { x0.th with phase := (26 : Int), width := if x0.th.width.fdiv ((2 : Int) ^ min (Int.toNat (1 : Int)) IntKind.i64.bits) > (1 : Int) then x0.th.width.fdiv ((2 : Int) ^ min (Int.toNat (1 : Int)) IntKind.i64.bits) else (1 : Int) } } with
                | some y4 =>
                 some ((y4, true))
                | none => none
               else
                some (({ x0 with m := y3.fst, th := { x0.th with phase := (26 : Int) } }, true))
              else
               some (({ x0 with m := y3.fst, th := { x0.th with phase := (13 : Int) } }, true))
            | none => none
           | none => none
          else
           some ((x0, false))
 | none => none
noncomputable def C_collide_Step (x : Turn) : Option (Turn × Bool) := F_collide_Step x

/- millstream/millstreamlaw15.shown -/
noncomputable def S_law15_shown_12 (x0 : Config) (x1 : Memo) (x2 : Turn) (x3 : List Int) (x4 : Int) : Option ((Config × Memo × Turn × (List Int) × Int) ⊕ ((Config × Memo × Turn × (List Int)) ⊕ (Bool))) :=
 bif decide (x4 < (5 : Int)) then
  match C_collide_Step x2 with
  | some y1 =>
   bif !y1.snd then
    some (Sum.inr (Sum.inr false))
   else
    bif (↑y1.fst.m.words.length : Int) != (6 : Int) then
     some (Sum.inr (Sum.inr false))
    else
     bif fewB (x3.length + (y1.fst.th.phase :: ([] : List Int)).length) then
      some (Sum.inl (x0, x1, y1.fst, x3 ++ y1.fst.th.phase :: ([] : List Int), wrapA IntKind.i64 (x4 + (1 : Int))))
     else
      none
  | none => none
 else
  some (Sum.inr (Sum.inl (x0, x1, x2, x3)))
noncomputable def T_law15_shown_12 (x : Config × Memo × Turn × (List Int) × Int) : Option ((Config × Memo × Turn × (List Int) × Int) ⊕ ((Config × Memo × Turn × (List Int)) ⊕ (Bool))) := S_law15_shown_12 x.1 x.2.1 x.2.2.1 x.2.2.2.1 x.2.2.2.2
noncomputable def W_law15_shown_12 (x : Config × Memo × Turn × (List Int) × Int) : Option ((Config × Memo × Turn × (List Int)) ⊕ (Bool)) := whileM T_law15_shown_12 x
noncomputable def F_law15_shown : Option (Bool) :=
 match C_arena_Build (Config.mk (2 : Int) (1 : Int) (3 : Int) (0 : Int) (1 : Int) (1 : Int) (1 : Int) (0 : Int) false (0 : Int) (0 : Int) (0 : Int)) with
 | some y1 =>
  bif (↑y1.words.length : Int) != (6 : Int) then
   some (false)
  else
   bif (↑y1.boxes.length : Int) != (2 : Int) then
    some (false)
   else
    match C_code_Open ((0 : Int), (1 : Int)) with
    | some y2 =>
     bif decide ((1 : Int) < (↑y1.words.length : Int)) then
      bif decide ((4 : Int) < (↑(y1.words.set (Int.toNat (1 : Int)) (2 : Int)).length : Int)) then
       bif decide ((1 : Int) < (↑y1.boxes.length : Int)) then
        match W_law15_shown_12 (Config.mk (2 : Int) (1 : Int) (3 : Int) (0 : Int) (1 : Int) (1 : Int) (1 : Int) (0 : Int) false (0 : Int) (0 : Int) (0 : Int), Memo.mk ((y1.words.set (Int.toNat (1 : Int)) (2 : Int)).set (Int.toNat (4 : Int)) y2) (y1.boxes.set (Int.toNat (1 : Int)) (Entry.mk (1 : Int) (Op.mk (1 : Int) (7 : Int)) :: ([] : List Entry))), Turn.mk (Config.mk (2 : Int) (1 : Int) (3 : Int) (0 : Int) (1 : Int) (1 : Int) (1 : Int) (0 : Int) false (0 : Int) (0 : Int) (0 : Int)) (0 : Int) (0 : Int) (Memo.mk ((y1.words.set (Int.toNat (1 : Int)) (2 : Int)).set (Int.toNat (4 : Int)) y2) (y1.boxes.set (Int.toNat (1 : Int)) (Entry.mk (1 : Int) (Op.mk (1 : Int) (7 : Int)) :: ([] : List Entry)))) (Thread.mk (18 : Int) (0 : Int) (Op.mk (0 : Int) (0 : Int)) (Entry.mk (0 : Int) (Op.mk (1 : Int) (2 : Int)) :: ([] : List Entry)) ([] : List Kid) ([] : List Int) (0 : Int) (0 : Int) (0 : Int) (1 : Int) (0 : Int) (1 : Int) (0 : Int) (0 : Int) (0 : Int) (0 : Int)) (Tape.mk ([] : List Int) (0 : Int)) ([] : List Mark) false, ([] : List Int), (0 : Int)) with
        | some (.inl y3) =>
         match C_collide_Step (Turn.mk y3.fst (0 : Int) (0 : Int) y3.snd.fst (Thread.mk (0 : Int) (0 : Int) (Op.mk (0 : Int) (0 : Int)) ([] : List Entry) ([] : List Kid) ([] : List Int) (0 : Int) (0 : Int) (0 : Int) (1 : Int) (0 : Int) (0 : Int) (0 : Int) (0 : Int) (0 : Int) (0 : Int)) (Tape.mk ([] : List Int) (0 : Int)) ([] : List Mark) false) with
         | some y4 =>
          bif !y4.snd then
           bif decide ((0 : Int) < (↑(List.length y3.snd.snd.snd) : Int)) then
            bif List.getD y3.snd.snd.snd (Int.toNat (0 : Int)) (0 : Int) == (19 : Int) then
             bif decide ((1 : Int) < (↑(List.length y3.snd.snd.snd) : Int)) then
              bif List.getD y3.snd.snd.snd (Int.toNat (1 : Int)) (0 : Int) == (20 : Int) then
               bif decide ((2 : Int) < (↑(List.length y3.snd.snd.snd) : Int)) then
                bif List.getD y3.snd.snd.snd (Int.toNat (2 : Int)) (0 : Int) == (21 : Int) then
                 bif decide ((3 : Int) < (↑(List.length y3.snd.snd.snd) : Int)) then
                  bif List.getD y3.snd.snd.snd (Int.toNat (3 : Int)) (0 : Int) == (22 : Int) then
                   bif decide ((4 : Int) < (↑(List.length y3.snd.snd.snd) : Int)) then
                    bif List.getD y3.snd.snd.snd (Int.toNat (4 : Int)) (0 : Int) == (25 : Int) then
                     bif (↑y3.snd.snd.fst.th.batch.length : Int) == (2 : Int) then
                      bif decide ((2 : Int) < (↑y3.snd.snd.fst.m.words.length : Int)) then
                       bif y3.snd.snd.fst.m.words.getD (Int.toNat (2 : Int)) (0 : Int) == (0 : Int) then
                        bif decide ((4 : Int) < (↑y3.snd.snd.fst.m.words.length : Int)) then
                         bif y3.snd.snd.fst.m.words.getD (Int.toNat (4 : Int)) (0 : Int) == (0 : Int) then
                          bif decide ((1 : Int) < (↑y3.snd.snd.fst.m.words.length : Int)) then
                           some (y3.snd.snd.fst.m.words.getD (Int.toNat (1 : Int)) (0 : Int) == (1 : Int))
                          else
                           none
                         else
                          some (false)
                        else
                         none
                       else
                        some (false)
                      else
                       none
                     else
                      some (false)
                    else
                     some (false)
                   else
                    none
                  else
                   some (false)
                 else
                  none
                else
                 some (false)
               else
                none
              else
               some (false)
             else
              none
            else
             some (false)
           else
            none
          else
           some (false)
         | none => none
        | some (.inr y4) =>
         some (y4)
        | none => none
       else
        none
      else
       none
     else
      none
    | none => none
 | none => none
noncomputable def C_law15_shown (x : Unit) : Option (Bool) := F_law15_shown

/- millstream/millstreamref06.Line -/
noncomputable def F_ref06_Line (x0 : Config) (x1 : Int) : Option (Int) :=
 bif decide (x1 < (0 : Int)) then
  some ((-1 : Int))
 else
  bif decide (x1 ≥ x0.threads) then
   some ((-1 : Int))
  else
   match C_ref06_block x0 with
   | some y1 =>
    some (wrapA IntKind.i64 (wrapA IntKind.i64 (x0.items * y1) + wrapA IntKind.i64 ((2 : Int) * x1)))
   | none => none
noncomputable def C_ref06_Line (x : Config × Int) : Option (Int) := F_ref06_Line x.1 x.2

/- millstream/millstreamref15.stored -/
noncomputable def F_ref15_stored (x0 : Turn) (x1 : Int) : Option (Turn) :=
 match C_ref06_Line (x0.c, x0.t) with
 | some y1 =>
  match C_ref08_Open (x0.th.item, x0.th.layer) with
  | some y2 =>
   match C_ref03_Store (x0.m, y1, y2) with
   | some y3 =>
    bif y3.snd != (0 : Int) then
     some (x0)
    else
     bif x1 == (23 : Int) then
      some ({ x0 with m := y3.fst, th := { x0.th with phase := x1, left := x0.c.spin } })
     else
      some ({ x0 with m := y3.fst, th := { x0.th with phase := x1 } })
   | none => none
  | none => none
 | none => none
noncomputable def C_ref15_stored (x : Turn × Int) : Option (Turn) := F_ref15_stored x.1 x.2

/- millstream/millstreamref06.Slot -/
noncomputable def F_ref06_Slot (x0 : Config) (x1 : Int) (x2 : Int) (x3 : Int) : Option (Int) :=
 bif decide (x1 < (0 : Int)) then
  some ((-1 : Int))
 else
  bif decide (x1 ≥ x0.items) then
   some ((-1 : Int))
  else
   bif decide (x2 < (1 : Int)) then
    some ((-1 : Int))
   else
    bif decide (x2 > x0.layers) then
     some ((-1 : Int))
    else
     bif decide (x3 < (0 : Int)) then
      some ((-1 : Int))
     else
      bif decide (x3 ≥ x0.width) then
       some ((-1 : Int))
      else
       match C_ref06_block x0 with
       | some y1 =>
        match C_ref06_Nodes x0 with
        | some y2 =>
         some (wrapA IntKind.i64 (wrapA IntKind.i64 (wrapA IntKind.i64 (wrapA IntKind.i64 (wrapA IntKind.i64 (x1 * y1) + (1 : Int)) + y2) + wrapA IntKind.i64 (wrapA IntKind.i64 (x2 - (1 : Int)) * x0.width)) + x3))
        | none => none
       | none => none
noncomputable def C_ref06_Slot (x : Config × Int × Int × Int) : Option (Int) := F_ref06_Slot x.1 x.2.1 x.2.2.1 x.2.2.2

/- millstream/millstreamref04.Next -/
noncomputable def F_ref04_Next (x0 : Tape) : Option (Int × Tape) :=
 bif decide (x0.at_ < (0 : Int)) then
  some (((0 : Int), x0))
 else
  bif decide (x0.at_ ≥ (↑x0.l.length : Int)) then
   some (((0 : Int), x0))
  else
   bif decide ((0 : Int) ≤ x0.at_) then
    bif decide (x0.at_ < (↑x0.l.length : Int)) then
     some ((x0.l.getD x0.at_.toNat (0 : Int), { x0 with at_ := wrapA IntKind.i64 (x0.at_ + (1 : Int)) }))
    else
     none
   else
    none
noncomputable def C_ref04_Next (x : Tape) : Option (Int × Tape) := F_ref04_Next x

/- millstream/millstreamref04.Below -/
noncomputable def F_ref04_Below (x0 : Tape) (x1 : Int) : Option (Int × Tape) :=
 bif decide (x1 < (1 : Int)) then
  some (((0 : Int), x0))
 else
  match C_ref04_Next x0 with
  | some y1 =>
   bif decide (x1 = (0 : Int)) then
    none
   else
    bif decide (Int.tmod y1.fst x1 < (0 : Int)) then
     some ((wrapA IntKind.i64 (Int.tmod y1.fst x1 + x1), y1.snd))
    else
     some ((Int.tmod y1.fst x1, y1.snd))
  | none => none
noncomputable def C_ref04_Below (x : Tape × Int) : Option (Int × Tape) := F_ref04_Below x.1 x.2

/- millstream/millstreamref03.Swap -/
noncomputable def F_ref03_Swap (x0 : Memo) (x1 : Int) (x2 : Int) : Option (Memo × Int × Int) :=
 match C_ref03_Load (x0, x1) with
 | some y1 =>
  match C_ref03_Store (x0, x1, x2) with
  | some y2 =>
   some ((y2.fst, y1))
  | none => none
 | none => none
noncomputable def C_ref03_Swap (x : Memo × Int × Int) : Option (Memo × Int × Int) := F_ref03_Swap x.1 x.2.1 x.2.2

/- millstream/millstreamref15.swap -/
noncomputable def F_ref15_swap (x0 : Turn) : Option (Turn) :=
 match C_ref04_Below (x0.tape, x0.th.width) with
 | some y1 =>
  match C_ref06_Slot (x0.c, x0.th.item, x0.th.layer, y1.fst) with
  | some y2 =>
   match C_ref03_Swap (x0.m, y2, wrapA IntKind.i64 (x0.t + (1 : Int))) with
   | some y3 =>
    bif y3.snd.snd != (0 : Int) then
     some (x0)
    else
     bif decide (y3.snd.fst ≥ (1 : Int)) then
      bif decide (y3.snd.fst ≤ x0.c.threads) then
       bif y3.snd.fst != wrapA IntKind.i64 (x0.t + (1 : Int)) then
        some ({ x0 with m := y3.fst, th := { x0.th with phase := (20 : Int), who := wrapA IntKind.i64 (y3.snd.fst - (1 : Int)) }, tape := y1.snd })
       else
        some ({ x0 with m := y3.fst, th := { x0.th with phase := (23 : Int), left := x0.c.spin }, tape := y1.snd })
      else
       some ({ x0 with m := y3.fst, th := { x0.th with phase := (23 : Int), left := x0.c.spin }, tape := y1.snd })
     else
      some ({ x0 with m := y3.fst, th := { x0.th with phase := (23 : Int), left := x0.c.spin }, tape := y1.snd })
   | none => none
  | none => none
 | none => none
noncomputable def C_ref15_swap (x : Turn) : Option (Turn) := F_ref15_swap x

/- millstream/millstreamref15.compared -/
noncomputable def F_ref15_compared (x0 : Turn) (x1 : Int) (x2 : Int) (x3 : Int) : Option (Turn) :=
 match C_ref06_Line (x0.c, x1) with
 | some y1 =>
  match C_ref08_Open (x0.th.item, x0.th.layer) with
  | some y2 =>
   match C_ref03_Cas (x0.m, y1, y2, (0 : Int)) with
   | some y3 =>
    bif y3.snd.snd != (0 : Int) then
     some (x0)
    else
     bif y3.snd.fst then
      some ({ x0 with m := y3.fst, th := { x0.th with phase := x2 } })
     else
      some ({ x0 with m := y3.fst, th := { x0.th with phase := x3 } })
   | none => none
  | none => none
 | none => none
noncomputable def C_ref15_compared (x : Turn × Int × Int × Int) : Option (Turn) := F_ref15_compared x.1 x.2.1 x.2.2.1 x.2.2.2

/- millstream/millstreamref15.spin -/
noncomputable def F_ref15_spin (x0 : Turn) : Option (Turn) :=
 match C_ref06_Line (x0.c, x0.t) with
 | some y1 =>
  match C_ref03_Load (x0.m, y1) with
  | some y2 =>
   bif y2.snd != (0 : Int) then
    some (x0)
   else
    match C_ref08_Open (x0.th.item, x0.th.layer) with
    | some y3 =>
     bif y2.fst != y3 then
      some ({ x0 with th := { x0.th with phase := (13 : Int) } })
     else
      bif decide (x0.th.left < (1 : Int)) then
       some ({ x0 with th := { x0.th with phase := (26 : Int) } })
      else
       match C_ref10_Late x0 with
       | some y4 =>
        bif y4 then
         some ({ x0 with th := { x0.th with phase := (26 : Int) } })
        else
         some ({ x0 with th := { x0.th with left := wrapA IntKind.i64 (x0.th.left - (1 : Int)) } })
       | none => none
    | none => none
  | none => none
 | none => none
noncomputable def C_ref15_spin (x : Turn) : Option (Turn) := F_ref15_spin x

/- millstream/millstreamref15.half -/
noncomputable def F_ref15_half (x0 : Int) : Option (Int) :=
 bif decide (x0 < (0 : Int)) then
  some ((-1 : Int))
 else
  some (wrapA IntKind.i64 (x0.tdiv (2 : Int)))
noncomputable def C_ref15_half (x : Int) : Option (Int) := F_ref15_half x

/- millstream/millstreamref12.Onward -/
noncomputable def F_ref12_Onward (x0 : Turn) : Option (Turn) :=
 bif decide (x0.th.layer < x0.c.layers) then
  match C_ref10_Late x0 with
  | some y1 =>
   bif !y1 then
    some ({ x0 with th := { x0.th with phase := (17 : Int), layer := wrapA IntKind.i64 (x0.th.layer + (1 : Int)) } })
   else
    some ({ x0 with th := { x0.th with phase := (2 : Int) } })
  | none => none
 else
  some ({ x0 with th := { x0.th with phase := (2 : Int) } })
noncomputable def C_ref12_Onward (x : Turn) : Option (Turn) := F_ref12_Onward x

/- millstream/millstreamref15.Step -/
noncomputable def F_ref15_Step (x0 : Turn) : Option (Turn × Bool) :=
 bif x0.th.phase == (17 : Int) then
  match C_ref03_Put (x0.m, x0.t, x0.th.batch) with
  | some y1 =>
   bif y1.snd == (0 : Int) then
    some (({ x0 with m := y1.fst, th := { x0.th with phase := (18 : Int) } }, true))
   else
    some ((x0, true))
  | none => none
 else
  bif x0.th.phase == (18 : Int) then
   match C_ref15_stored (x0, (19 : Int)) with
   | some y1 =>
    some ((y1, true))
   | none => none
  else
   bif x0.th.phase == (19 : Int) then
    match C_ref15_swap x0 with
    | some y1 =>
     some ((y1, true))
    | none => none
   else
    bif x0.th.phase == (20 : Int) then
     match C_ref15_compared (x0, x0.t, (21 : Int), (13 : Int)) with
     | some y1 =>
      some ((y1, true))
     | none => none
    else
     bif x0.th.phase == (21 : Int) then
      match C_ref15_compared (x0, x0.th.who, (22 : Int), (24 : Int)) with
      | some y1 =>
       some ((y1, true))
      | none => none
     else
      bif x0.th.phase == (22 : Int) then
       match C_ref03_Box (x0.m, x0.th.who) with
       | some y1 =>
        bif y1.snd == (0 : Int) then
         match C_ref14_Take (x0, x0.th.who, y1.fst) with
         | some y2 =>
          some (({ y2 with th := { y2.th with phase := (25 : Int) } }, true))
         | none => none
        else
         some ((x0, true))
       | none => none
      else
       bif x0.th.phase == (23 : Int) then
        match C_ref15_spin x0 with
        | some y1 =>
         some ((y1, true))
        | none => none
       else
        bif x0.th.phase == (24 : Int) then
         match C_ref15_stored (x0, (23 : Int)) with
         | some y1 =>
          some ((y1, true))
         | none => none
        else
         bif x0.th.phase == (26 : Int) then
          match C_ref15_compared (x0, x0.t, (2 : Int), (13 : Int)) with
          | some y1 =>
           bif y1.th.phase == (2 : Int) then
            match C_ref15_half y1.th.width with
            | some y2 =>
             match C_ref12_Onward { y1 with th := { y1.th with width := if y2 > (1 : Int) then y2 else (1 : Int) } } with
             | some y3 =>
              some ((y3, true))
             | none => none
            | none => none
           else
            some ((y1, true))
          | none => none
         else
          some ((x0, false))
noncomputable def C_ref15_Step (x : Turn) : Option (Turn × Bool) := F_ref15_Step x

/- millstream/millstreamlaw15.entries -/
noncomputable def S_law15_entries_3 (x0 : List Entry) (x1 : List Entry) (x2 : Int) : Option (((List Entry) × (List Entry) × Int) ⊕ (((List Entry)))) :=
 bif decide (x2 < (↑x0.length : Int)) then
  bif decide ((0 : Int) ≤ x2) then
   bif decide (x2 < (↑x0.length : Int)) then
    bif decide ((0 : Int) ≤ x2) then
     bif decide (x2 < (↑x0.length : Int)) then
      bif fewB (x1.length + (x0.getD x2.toNat dEntry :: ([] : List Entry)).length) then
       some (Sum.inl (x0, x1 ++ x0.getD x2.toNat dEntry :: ([] : List Entry), wrapA IntKind.i64 (x2 + (1 : Int))))
      else
       none
     else
      none
    else
     none
   else
    none
  else
   none
 else
  some (Sum.inr x1)
noncomputable def T_law15_entries_3 (x : (List Entry) × (List Entry) × Int) : Option (((List Entry) × (List Entry) × Int) ⊕ (((List Entry)))) := S_law15_entries_3 x.1 x.2.1 x.2.2
noncomputable def W_law15_entries_3 (x : (List Entry) × (List Entry) × Int) : Option (((List Entry))) := whileM T_law15_entries_3 x
noncomputable def F_law15_entries (x0 : List Entry) : Option ((List Entry)) :=
 match W_law15_entries_3 (x0, ([] : List Entry), (0 : Int)) with
 | some y1 =>
  some (y1)
 | none => none
noncomputable def C_law15_entries (x : (List Entry)) : Option ((List Entry)) := F_law15_entries x

/- millstream/millstreamlaw15.memory -/
noncomputable def S_law15_memory_3 (x0 : Memo) (x1 : Memo) (x2 : Memo) (x3 : Int) : Option ((Memo × Memo × Memo × Int) ⊕ ((Memo × Memo))) :=
 bif decide (x3 < (↑x0.boxes.length : Int)) then
  bif decide ((0 : Int) ≤ x3) then
   bif decide (x3 < (↑x0.boxes.length : Int)) then
    match C_law15_entries (x0.boxes.getD x3.toNat ([] : List Entry)) with
    | some y1 =>
     bif fewB (x2.boxes.length + (y1 :: ([] : List (List Entry))).length) then
      some (Sum.inl (x0, x1, { x2 with boxes := x2.boxes ++ y1 :: ([] : List (List Entry)) }, wrapA IntKind.i64 (x3 + (1 : Int))))
     else
      none
    | none => none
   else
    none
  else
   none
 else
  some (Sum.inr (x1, x2))
noncomputable def T_law15_memory_3 (x : Memo × Memo × Memo × Int) : Option ((Memo × Memo × Memo × Int) ⊕ ((Memo × Memo))) := S_law15_memory_3 x.1 x.2.1 x.2.2.1 x.2.2.2
noncomputable def W_law15_memory_3 (x : Memo × Memo × Memo × Int) : Option ((Memo × Memo)) := whileM T_law15_memory_3 x
noncomputable def F_law15_memory (x0 : Memo) : Option (Memo) :=
 match W_law15_memory_3 (x0, Memo.mk ([] : List Int) ([] : List (List Entry)), { x0 with boxes := ([] : List (List Entry)) }, (0 : Int)) with
 | some y1 =>
  some (y1.snd)
 | none => none
noncomputable def C_law15_memory (x : Memo) : Option (Memo) := F_law15_memory x

/- millstream/millstreamlaw15.fiber -/
noncomputable def S_law15_fiber_3 (x0 : Thread) (x1 : Thread) (x2 : Thread) (x3 : Int) : Option ((Thread × Thread × Thread × Int) ⊕ ((Thread × Thread))) :=
 bif decide (x3 < (↑x0.kids.length : Int)) then
  bif decide ((0 : Int) ≤ x3) then
   bif decide (x3 < (↑x0.kids.length : Int)) then
    bif fewB (x2.kids.length + (x0.kids.getD x3.toNat dKid :: ([] : List Kid)).length) then
     some (Sum.inl (x0, x1, { x2 with kids := x2.kids ++ x0.kids.getD x3.toNat dKid :: ([] : List Kid) }, wrapA IntKind.i64 (x3 + (1 : Int))))
    else
     none
   else
    none
  else
   none
 else
  some (Sum.inr (x1, x2))
noncomputable def T_law15_fiber_3 (x : Thread × Thread × Thread × Int) : Option ((Thread × Thread × Thread × Int) ⊕ ((Thread × Thread))) := S_law15_fiber_3 x.1 x.2.1 x.2.2.1 x.2.2.2
noncomputable def W_law15_fiber_3 (x : Thread × Thread × Thread × Int) : Option ((Thread × Thread)) := whileM T_law15_fiber_3 x
noncomputable def F_law15_fiber (x0 : Thread) : Option (Thread) :=
 match C_law15_entries x0.batch with
 | some y1 =>
  match W_law15_fiber_3 (x0, Thread.mk (0 : Int) (0 : Int) (Op.mk (0 : Int) (0 : Int)) ([] : List Entry) ([] : List Kid) ([] : List Int) (0 : Int) (0 : Int) (0 : Int) (0 : Int) (0 : Int) (0 : Int) (0 : Int) (0 : Int) (0 : Int) (0 : Int), { x0 with batch := y1, kids := ([] : List Kid) }, (0 : Int)) with
  | some y2 =>
   some (y2.snd)
  | none => none
 | none => none
noncomputable def C_law15_fiber (x : Thread) : Option (Thread) := F_law15_fiber x

/- millstream/millstreamlaw15.marks -/
noncomputable def S_law15_marks_3 (x0 : List Mark) (x1 : List Mark) (x2 : Int) : Option (((List Mark) × (List Mark) × Int) ⊕ (((List Mark)))) :=
 bif decide (x2 < (↑x0.length : Int)) then
  bif decide ((0 : Int) ≤ x2) then
   bif decide (x2 < (↑x0.length : Int)) then
    bif decide ((0 : Int) ≤ x2) then
     bif decide (x2 < (↑x0.length : Int)) then
      bif decide ((0 : Int) ≤ x2) then
       bif decide (x2 < (↑x0.length : Int)) then
        bif decide ((0 : Int) ≤ x2) then
         bif decide (x2 < (↑x0.length : Int)) then
          bif decide ((0 : Int) ≤ x2) then
           bif decide (x2 < (↑x0.length : Int)) then
            bif fewB (x1.length + (x0.getD x2.toNat dMark :: ([] : List Mark)).length) then
             some (Sum.inl (x0, x1 ++ x0.getD x2.toNat dMark :: ([] : List Mark), wrapA IntKind.i64 (x2 + (1 : Int))))
            else
             none
           else
            none
          else
           none
         else
          none
        else
         none
       else
        none
      else
       none
     else
      none
    else
     none
   else
    none
  else
   none
 else
  some (Sum.inr x1)
noncomputable def T_law15_marks_3 (x : (List Mark) × (List Mark) × Int) : Option (((List Mark) × (List Mark) × Int) ⊕ (((List Mark)))) := S_law15_marks_3 x.1 x.2.1 x.2.2
noncomputable def W_law15_marks_3 (x : (List Mark) × (List Mark) × Int) : Option (((List Mark))) := whileM T_law15_marks_3 x
noncomputable def F_law15_marks (x0 : List Mark) : Option ((List Mark)) :=
 match W_law15_marks_3 (x0, ([] : List Mark), (0 : Int)) with
 | some y1 =>
  some (y1)
 | none => none
noncomputable def C_law15_marks (x : (List Mark)) : Option ((List Mark)) := F_law15_marks x

/- millstream/millstreamlaw15.its -/
noncomputable def F_law15_its (x0 : Turn) : Option (Turn) :=
 match C_law15_memory x0.m with
 | some y1 =>
  match C_law15_fiber x0.th with
  | some y2 =>
   match C_law15_marks x0.log with
   | some y3 =>
    some ({ x0 with m := y1, th := y2, log := y3 })
   | none => none
  | none => none
 | none => none
noncomputable def C_law15_its (x : Turn) : Option (Turn) := F_law15_its x

/- millstream/millstreamlaw15.CollideSteps -/
noncomputable def F_law15_CollideSteps (x0 : Turn) : Option (Bool) :=
 match C_law15_big x0 with
 | some y1 =>
  bif y1 then
   match C_law15_shown () with
   | some y2 =>
    some (y2)
   | none => none
  else
   match C_law15_layered x0 with
   | some y2 =>
    bif !y2 then
     match C_law15_shown () with
     | some y3 =>
      some (y3)
     | none => none
    else
     match C_law15_shown () with
     | some y3 =>
      bif !y3 then
       match C_law15_shown () with
       | some y4 =>
        some (y4)
       | none => none
      else
       match C_collide_Step x0 with
       | some y4 =>
        match C_law15_its x0 with
        | some y5 =>
         match C_ref15_Step y5 with
         | some y6 =>
          bif y4.snd == y6.snd then
           match C_law15_its y4.fst with
           | some y7 =>
            match C_ref10_Alike (y7, y6.fst) with
            | some y8 =>
             some (y8)
            | none => none
           | none => none
          else
           some (false)
         | none => none
        | none => none
       | none => none
     | none => none
   | none => none
 | none => none
noncomputable def C_law15_CollideSteps (x : Turn) : Option (Bool) := F_law15_CollideSteps x

/- millstream/millstreamlaw15.CollideAlone -/
noncomputable def S_law15_CollideAlone_13 (x0 : Turn) (x1 : Config) (x2 : List Int) (x3 : Turn) (x4 : Int) : Option ((Turn × Config × (List Int) × Turn × Int) ⊕ ((Turn × Config × (List Int) × Turn × Int) ⊕ (Bool))) :=
 bif x3.th.phase != (26 : Int) then
  bif decide (x4 < (60 : Int)) then
   match C_collide_Step x3 with
   | some y1 =>
    bif !y1.snd then
     some (Sum.inr (Sum.inr false))
    else
     some (Sum.inl (x0, x1, x2, y1.fst, wrapA IntKind.i64 (x4 + (1 : Int))))
   | none => none
  else
   some (Sum.inr (Sum.inl (x0, x1, x2, x3, x4)))
 else
  some (Sum.inr (Sum.inl (x0, x1, x2, x3, x4)))
noncomputable def T_law15_CollideAlone_13 (x : Turn × Config × (List Int) × Turn × Int) : Option ((Turn × Config × (List Int) × Turn × Int) ⊕ ((Turn × Config × (List Int) × Turn × Int) ⊕ (Bool))) := S_law15_CollideAlone_13 x.1 x.2.1 x.2.2.1 x.2.2.2.1 x.2.2.2.2
noncomputable def W_law15_CollideAlone_13 (x : Turn × Config × (List Int) × Turn × Int) : Option ((Turn × Config × (List Int) × Turn × Int) ⊕ (Bool)) := whileM T_law15_CollideAlone_13 x
noncomputable def S_law15_CollideAlone_6 (x0 : Turn) (x1 : Config) (x2 : List Int) (x3 : Int) : Option ((Turn × Config × (List Int) × Int) ⊕ ((Turn × Config × (List Int)))) :=
 bif decide (x3 < x0.c.width) then
  match C_ref06_Slot (x1, x0.th.item, x0.th.layer, x3) with
  | some y1 =>
   bif decide ((0 : Int) ≤ y1) then
    bif decide (y1 < (↑x2.length : Int)) then
     some (Sum.inl (x0, x1, x2.set (Int.toNat y1) (0 : Int), wrapA IntKind.i64 (x3 + (1 : Int))))
    else
     none
   else
    none
  | none => none
 else
  some (Sum.inr (x0, x1, x2))
noncomputable def T_law15_CollideAlone_6 (x : Turn × Config × (List Int) × Int) : Option ((Turn × Config × (List Int) × Int) ⊕ ((Turn × Config × (List Int)))) := S_law15_CollideAlone_6 x.1 x.2.1 x.2.2.1 x.2.2.2
noncomputable def W_law15_CollideAlone_6 (x : Turn × Config × (List Int) × Int) : Option ((Turn × Config × (List Int))) := whileM T_law15_CollideAlone_6 x
noncomputable def F_law15_CollideAlone (x0 : Turn) : Option (Bool) :=
 match C_law15_big x0 with
 | some y1 =>
  bif y1 then
   match C_law15_shown () with
   | some y2 =>
    some (y2)
   | none => none
  else
   match C_law15_layered x0 with
   | some y2 =>
    bif !y2 then
     match C_law15_shown () with
     | some y3 =>
      some (y3)
     | none => none
    else
     bif decide (x0.th.layer > x0.c.layers) then
      match C_law15_shown () with
      | some y3 =>
       some (y3)
      | none => none
     else
      bif decide (x0.th.width < (1 : Int)) then
       match C_law15_shown () with
       | some y3 =>
        some (y3)
       | none => none
      else
       bif decide (x0.th.width > x0.c.width) then
        match C_law15_shown () with
        | some y3 =>
         some (y3)
        | none => none
       else
        bif x0.th.until_ != (0 : Int) then
         match C_law15_shown () with
         | some y3 =>
          some (y3)
         | none => none
        else
         match C_law15_shown () with
         | some y3 =>
          bif !y3 then
           match C_law15_shown () with
           | some y4 =>
            some (y4)
           | none => none
          else
           bif fewB ((0 : Nat) + x0.m.words.length) then
            match W_law15_CollideAlone_6 (x0, x0.c, x0.m.words, (0 : Int)) with
            | some y4 =>
             match W_law15_CollideAlone_13 ({ y4.fst with m := { y4.fst.m with words := y4.snd.snd }, th := { y4.fst.th with phase := (17 : Int) } }, y4.snd.fst, y4.snd.snd, { y4.fst with m := { y4.fst.m with words := y4.snd.snd }, th := { y4.fst.th with phase := (17 : Int) } }, (0 : Int)) with
             | some (.inl y5) =>
              match C_ref06_Line (y5.snd.fst, y5.fst.t) with
              | some y6 =>
               bif y5.snd.snd.snd.snd != wrapA IntKind.i64 ((4 : Int) + y5.fst.c.spin) then
                some (false)
               else
                bif (↑y5.snd.snd.snd.fst.m.words.length : Int) != (↑(List.length y5.snd.snd.fst) : Int) then
                 some (false)
                else
                 bif decide ((0 : Int) ≤ y6) then
                  bif decide (y6 < (↑y5.snd.snd.snd.fst.m.words.length : Int)) then
                   match C_code_Open (y5.fst.th.item, y5.fst.th.layer) with
                   | some y7 =>
                    bif y5.snd.snd.snd.fst.m.words.getD (Int.toNat y6) (0 : Int) != y7 then
                     some (false)
                    else
                     bif (↑y5.snd.snd.snd.fst.m.boxes.length : Int) != y5.fst.c.threads then
                      some (false)
                     else
                      bif decide ((0 : Int) ≤ y5.fst.t) then
                       bif decide (y5.fst.t < (↑y5.snd.snd.snd.fst.m.boxes.length : Int)) then
                        bif decide ((↑(List.length (y5.snd.snd.snd.fst.m.boxes.getD y5.fst.t.toNat ([] : List Entry))) : Int) > (50 : Int)) then
                         some (false)
                        else
                         bif decide ((0 : Int) ≤ y5.fst.t) then
                          bif decide (y5.fst.t < (↑y5.snd.snd.snd.fst.m.boxes.length : Int)) then
                           match C_law15_entries (y5.snd.snd.snd.fst.m.boxes.getD y5.fst.t.toNat ([] : List Entry)) with
                           | some y8 =>
                            match C_law15_entries y5.fst.th.batch with
                            | some y9 =>
                             match C_ref02_Same (y8, y9) with
                             | some y10 =>
                              bif !y10 then
                               some (false)
                              else
                               match C_collide_Step y5.snd.snd.snd.fst with
                               | some y11 =>
                                bif !y11.snd then
                                 some (false)
                                else
                                 bif (↑y11.fst.m.words.length : Int) != (↑(List.length y5.snd.snd.fst) : Int) then
                                  some (false)
                                 else
                                  bif decide ((0 : Int) ≤ y6) then
                                   bif decide (y6 < (↑y11.fst.m.words.length : Int)) then
                                    bif y11.fst.m.words.getD (Int.toNat y6) (0 : Int) != (0 : Int) then
                                     some (false)
                                    else
                                     bif y11.fst.th.width != if wrapA IntKind.i64 (y5.fst.th.width.tdiv (2 : Int)) > (1 : Int) then wrapA IntKind.i64 (y5.fst.th.width.tdiv (2 : Int)) else (1 : Int) then
                                      some (false)
                                     else
                                      bif decide (y5.fst.th.layer < y5.fst.c.layers) then
                                       bif y11.fst.th.phase == (17 : Int) then
                                        some (y11.fst.th.layer == wrapA IntKind.i64 (y5.fst.th.layer + (1 : Int)))
                                       else
                                        some (false)
                                      else
                                       bif y11.fst.th.phase == (2 : Int) then
                                        some (y11.fst.th.layer == y5.fst.th.layer)
                                       else
                                        some (false)
                                   else
                                    none
                                  else
                                   none
                               | none => none
                             | none => none
                            | none => none
                           | none => none
                          else
                           none
                         else
                          none
                       else
                        none
                      else
                       none
                   | none => none
                  else
                   none
                 else
                  none
              | none => none
             | some (.inr y6) =>
              some (y6)
             | none => none
            | none => none
           else
            none
         | none => none
   | none => none
 | none => none
noncomputable def C_law15_CollideAlone (x : Turn) : Option (Bool) := F_law15_CollideAlone x

/- millstream/millstreamlaw15.CollideMeets -/
noncomputable def S_law15_CollideMeets_23 (x0 : Bool) (x1 : Int) (x2 : Turn) (x3 : Int) (x4 : Int) (x5 : List Int) (x6 : Int) (x7 : Int) (x8 : Turn) (x9 : Int) : Option ((Bool × Int × Turn × Int × Int × (List Int) × Int × Int × Turn × Int) ⊕ ((Bool × Int × Turn × Int × Int × Int × Int × Turn) ⊕ (Bool))) :=
 bif decide (x9 < (4 : Int)) then
  match C_collide_Step x8 with
  | some y1 =>
   bif !y1.snd then
    some (Sum.inr (Sum.inr false))
   else
    bif (↑y1.fst.m.words.length : Int) != (↑x5.length : Int) then
     some (Sum.inr (Sum.inr false))
    else
     some (Sum.inl (x0, x1, x2, x3, x4, x5, x6, x7, y1.fst, wrapA IntKind.i64 (x9 + (1 : Int))))
  | none => none
 else
  some (Sum.inr (Sum.inl (x0, x1, x2, x3, x4, x6, x7, x8)))
noncomputable def T_law15_CollideMeets_23 (x : Bool × Int × Turn × Int × Int × (List Int) × Int × Int × Turn × Int) : Option ((Bool × Int × Turn × Int × Int × (List Int) × Int × Int × Turn × Int) ⊕ ((Bool × Int × Turn × Int × Int × Int × Int × Turn) ⊕ (Bool))) := S_law15_CollideMeets_23 x.1 x.2.1 x.2.2.1 x.2.2.2.1 x.2.2.2.2.1 x.2.2.2.2.2.1 x.2.2.2.2.2.2.1 x.2.2.2.2.2.2.2.1 x.2.2.2.2.2.2.2.2.1 x.2.2.2.2.2.2.2.2.2
noncomputable def W_law15_CollideMeets_23 (x : Bool × Int × Turn × Int × Int × (List Int) × Int × Int × Turn × Int) : Option ((Bool × Int × Turn × Int × Int × Int × Int × Turn) ⊕ (Bool)) := whileM T_law15_CollideMeets_23 x
noncomputable def S_law15_CollideMeets_10 (x0 : Bool) (x1 : Int) (x2 : Turn) (x3 : Config) (x4 : Int) (x5 : Int) (x6 : List Int) (x7 : Int) : Option ((Bool × Int × Turn × Config × Int × Int × (List Int) × Int) ⊕ ((Bool × Int × Turn × Config × Int × Int × (List Int)))) :=
 bif decide (x7 < x2.c.width) then
  match C_ref06_Slot (x3, x2.th.item, x2.th.layer, x7) with
  | some y1 =>
   bif decide ((0 : Int) ≤ y1) then
    bif decide (y1 < (↑x6.length : Int)) then
     some (Sum.inl (x0, x1, x2, x3, x4, x5, x6.set (Int.toNat y1) (wrapA IntKind.i64 (x4 + (1 : Int))), wrapA IntKind.i64 (x7 + (1 : Int))))
    else
     none
   else
    none
  | none => none
 else
  some (Sum.inr (x0, x1, x2, x3, x4, x5, x6))
noncomputable def T_law15_CollideMeets_10 (x : Bool × Int × Turn × Config × Int × Int × (List Int) × Int) : Option ((Bool × Int × Turn × Config × Int × Int × (List Int) × Int) ⊕ ((Bool × Int × Turn × Config × Int × Int × (List Int)))) := S_law15_CollideMeets_10 x.1 x.2.1 x.2.2.1 x.2.2.2.1 x.2.2.2.2.1 x.2.2.2.2.2.1 x.2.2.2.2.2.2.1 x.2.2.2.2.2.2.2
noncomputable def W_law15_CollideMeets_10 (x : Bool × Int × Turn × Config × Int × Int × (List Int) × Int) : Option ((Bool × Int × Turn × Config × Int × Int × (List Int))) := whileM T_law15_CollideMeets_10 x
noncomputable def F_law15_CollideMeets (x0 : Turn) (x1 : Int) (x2 : Bool) (x3 : Int) : Option (Bool) :=
 match C_law15_big x0 with
 | some y1 =>
  bif y1 then
   match C_law15_shown () with
   | some y2 =>
    some (y2)
   | none => none
  else
   match C_law15_layered x0 with
   | some y2 =>
    bif !y2 then
     match C_law15_shown () with
     | some y3 =>
      some (y3)
     | none => none
    else
     bif decide (x0.th.layer > x0.c.layers) then
      match C_law15_shown () with
      | some y3 =>
       some (y3)
      | none => none
     else
      bif decide (x0.th.width < (1 : Int)) then
       match C_law15_shown () with
       | some y3 =>
        some (y3)
       | none => none
      else
       bif decide (x0.th.width > x0.c.width) then
        match C_law15_shown () with
        | some y3 =>
         some (y3)
        | none => none
       else
        bif decide (x0.c.threads < (2 : Int)) then
         match C_law15_shown () with
         | some y3 =>
          some (y3)
         | none => none
        else
         match C_law15_shown () with
         | some y3 =>
          bif !y3 then
           match C_law15_shown () with
           | some y4 =>
            some (y4)
           | none => none
          else
           bif decide (wrapA IntKind.i64 (x0.c.threads - (1 : Int)) = (0 : Int)) then
            none
           else
            bif decide (x0.c.threads = (0 : Int)) then
             none
            else
             match C_code_Open (x0.th.item, x0.th.layer) with
             | some y4 =>
              bif !x2 then
               bif x3 == y4 then
                some (true)
               else
                bif fewB ((0 : Nat) + x0.m.words.length) then
                 match W_law15_CollideMeets_10 (x2, x3, x0, x0.c, (wrapA IntKind.i64 (wrapA IntKind.i64 (x0.t + (1 : Int)) + (IntKind.i64.wrap x1).tmod (wrapA IntKind.i64 (x0.c.threads - (1 : Int))))).tmod x0.c.threads, y4, x0.m.words, (0 : Int)) with
                 | some y5 =>
                  match C_ref06_Line (y5.snd.snd.snd.fst, y5.snd.snd.fst.t) with
                  | some y6 =>
                   match C_ref06_Line (y5.snd.snd.snd.fst, y5.snd.snd.snd.snd.fst) with
                   | some y7 =>
                    bif decide ((0 : Int) ≤ y6) then
                     bif decide (y6 < (↑(List.length y5.snd.snd.snd.snd.snd.snd) : Int)) then
                      bif decide ((0 : Int) ≤ y7) then
                       bif decide (y7 < (↑(List.set y5.snd.snd.snd.snd.snd.snd (Int.toNat y6) y5.snd.snd.snd.snd.snd.fst).length : Int)) then
                        bif y5.fst then
                         bif decide ((0 : Int) ≤ y7) then
                          bif decide (y7 < (↑((List.set y5.snd.snd.snd.snd.snd.snd (Int.toNat y6) y5.snd.snd.snd.snd.snd.fst).set (Int.toNat y7) y5.snd.fst).length : Int)) then
                           match W_law15_CollideMeets_23 (y5.fst, y5.snd.fst, { y5.snd.snd.fst with m := { y5.snd.snd.fst.m with words := ((List.set y5.snd.snd.snd.snd.snd.snd (Int.toNat y6) y5.snd.snd.snd.snd.snd.fst).set (Int.toNat y7) y5.snd.fst).set (Int.toNat y7) y5.snd.snd.snd.snd.snd.fst }, th := { y5.snd.snd.fst.th with phase := (19 : Int) } }, y5.snd.snd.snd.snd.fst, y5.snd.snd.snd.snd.snd.fst, ((List.set y5.snd.snd.snd.snd.snd.snd (Int.toNat y6) y5.snd.snd.snd.snd.snd.fst).set (Int.toNat y7) y5.snd.fst).set (Int.toNat y7) y5.snd.snd.snd.snd.snd.fst, y6, y7, { y5.snd.snd.fst with m := { y5.snd.snd.fst.m with words := ((List.set y5.snd.snd.snd.snd.snd.snd (Int.toNat y6) y5.snd.snd.snd.snd.snd.fst).set (Int.toNat y7) y5.snd.fst).set (Int.toNat y7) y5.snd.snd.snd.snd.snd.fst }, th := { y5.snd.snd.fst.th with phase := (19 : Int) } }, (0 : Int)) with
                           | some (.inl y8) =>
                            bif decide ((↑y8.snd.snd.snd.snd.snd.snd.snd.th.batch.length : Int) > (60 : Int)) then
                             some (false)
                            else
                             bif decide ((↑y8.snd.snd.snd.snd.snd.snd.snd.th.kids.length : Int) > (30 : Int)) then
                              some (false)
                             else
                              bif !y8.fst then
                               bif y8.snd.snd.snd.snd.snd.snd.snd.th.phase == (23 : Int) then
                                bif decide ((0 : Int) ≤ y8.snd.snd.snd.snd.snd.fst) then
                                 bif decide (y8.snd.snd.snd.snd.snd.fst < (↑y8.snd.snd.snd.snd.snd.snd.snd.m.words.length : Int)) then
                                  bif y8.snd.snd.snd.snd.snd.snd.snd.m.words.getD (Int.toNat y8.snd.snd.snd.snd.snd.fst) (0 : Int) == y8.snd.snd.snd.snd.fst then
                                   bif decide ((0 : Int) ≤ y8.snd.snd.snd.snd.snd.snd.fst) then
                                    bif decide (y8.snd.snd.snd.snd.snd.snd.fst < (↑y8.snd.snd.snd.snd.snd.snd.snd.m.words.length : Int)) then
                                     bif y8.snd.snd.snd.snd.snd.snd.snd.m.words.getD (Int.toNat y8.snd.snd.snd.snd.snd.snd.fst) (0 : Int) == y8.snd.fst then
                                      some ((↑y8.snd.snd.snd.snd.snd.snd.snd.th.kids.length : Int) == (↑y8.snd.snd.fst.th.kids.length : Int))
                                     else
                                      some (false)
                                    else
                                     none
                                   else
                                    none
                                  else
                                   some (false)
                                 else
                                  none
                                else
                                 none
                               else
                                some (false)
                              else
                               match C_law15_entries y8.snd.snd.fst.th.batch with
                               | some y9 =>
                                bif decide ((0 : Int) ≤ y8.snd.snd.snd.fst) then
                                 bif decide (y8.snd.snd.snd.fst < (↑y8.snd.snd.fst.m.boxes.length : Int)) then
                                  match C_law15_entries (y8.snd.snd.fst.m.boxes.getD (Int.toNat y8.snd.snd.snd.fst) ([] : List Entry)) with
                                  | some y10 =>
                                   bif fewB (List.length y9 + List.length y10) then
                                    bif y8.snd.snd.snd.snd.snd.snd.snd.th.phase == (25 : Int) then
                                     bif decide ((0 : Int) ≤ y8.snd.snd.snd.snd.snd.fst) then
                                      bif decide (y8.snd.snd.snd.snd.snd.fst < (↑y8.snd.snd.snd.snd.snd.snd.snd.m.words.length : Int)) then
                                       bif y8.snd.snd.snd.snd.snd.snd.snd.m.words.getD (Int.toNat y8.snd.snd.snd.snd.snd.fst) (0 : Int) == (0 : Int) then
                                        bif decide ((0 : Int) ≤ y8.snd.snd.snd.snd.snd.snd.fst) then
                                         bif decide (y8.snd.snd.snd.snd.snd.snd.fst < (↑y8.snd.snd.snd.snd.snd.snd.snd.m.words.length : Int)) then
                                          bif y8.snd.snd.snd.snd.snd.snd.snd.m.words.getD (Int.toNat y8.snd.snd.snd.snd.snd.snd.fst) (0 : Int) == (0 : Int) then
                                           match C_law15_entries y8.snd.snd.snd.snd.snd.snd.snd.th.batch with
                                           | some y11 =>
                                            match C_ref02_Same (y11, y9 ++ y10) with
                                            | some y12 =>
                                             bif y12 then
                                              bif (↑y8.snd.snd.snd.snd.snd.snd.snd.th.kids.length : Int) == wrapA IntKind.i64 ((↑y8.snd.snd.fst.th.kids.length : Int) + (1 : Int)) then
                                               bif decide ((↑y8.snd.snd.fst.th.kids.length : Int) < (↑y8.snd.snd.snd.snd.snd.snd.snd.th.kids.length : Int)) then
                                                some ((y8.snd.snd.snd.snd.snd.snd.snd.th.kids.getD (↑y8.snd.snd.fst.th.kids.length : Int).toNat dKid).t == y8.snd.snd.snd.fst && ((y8.snd.snd.snd.snd.snd.snd.snd.th.kids.getD (↑y8.snd.snd.fst.th.kids.length : Int).toNat dKid).ahead == (↑y8.snd.snd.fst.th.batch.length : Int) && true))
                                               else
                                                none
                                              else
                                               some (false)
                                             else
                                              some (false)
                                            | none => none
                                           | none => none
                                          else
                                           some (false)
                                         else
                                          none
                                        else
                                         none
                                       else
                                        some (false)
                                      else
                                       none
                                     else
                                      none
                                    else
                                     some (false)
                                   else
                                    none
                                  | none => none
                                 else
                                  none
                                else
                                 none
                               | none => none
                           | some (.inr y9) =>
                            some (y9)
                           | none => none
                          else
                           none
                         else
                          none
                        else
                         match W_law15_CollideMeets_23 (y5.fst, y5.snd.fst, { y5.snd.snd.fst with m := { y5.snd.snd.fst.m with words := (List.set y5.snd.snd.snd.snd.snd.snd (Int.toNat y6) y5.snd.snd.snd.snd.snd.fst).set (Int.toNat y7) y5.snd.fst }, th := { y5.snd.snd.fst.th with phase := (19 : Int) } }, y5.snd.snd.snd.snd.fst, y5.snd.snd.snd.snd.snd.fst, (List.set y5.snd.snd.snd.snd.snd.snd (Int.toNat y6) y5.snd.snd.snd.snd.snd.fst).set (Int.toNat y7) y5.snd.fst, y6, y7, { y5.snd.snd.fst with m := { y5.snd.snd.fst.m with words := (List.set y5.snd.snd.snd.snd.snd.snd (Int.toNat y6) y5.snd.snd.snd.snd.snd.fst).set (Int.toNat y7) y5.snd.fst }, th := { y5.snd.snd.fst.th with phase := (19 : Int) } }, (0 : Int)) with
                         | some (.inl y8) =>
                          bif decide ((↑y8.snd.snd.snd.snd.snd.snd.snd.th.batch.length : Int) > (60 : Int)) then
                           some (false)
                          else
                           bif decide ((↑y8.snd.snd.snd.snd.snd.snd.snd.th.kids.length : Int) > (30 : Int)) then
                            some (false)
                           else
                            bif !y8.fst then
                             bif y8.snd.snd.snd.snd.snd.snd.snd.th.phase == (23 : Int) then
                              bif decide ((0 : Int) ≤ y8.snd.snd.snd.snd.snd.fst) then
                               bif decide (y8.snd.snd.snd.snd.snd.fst < (↑y8.snd.snd.snd.snd.snd.snd.snd.m.words.length : Int)) then
                                bif y8.snd.snd.snd.snd.snd.snd.snd.m.words.getD (Int.toNat y8.snd.snd.snd.snd.snd.fst) (0 : Int) == y8.snd.snd.snd.snd.fst then
                                 bif decide ((0 : Int) ≤ y8.snd.snd.snd.snd.snd.snd.fst) then
                                  bif decide (y8.snd.snd.snd.snd.snd.snd.fst < (↑y8.snd.snd.snd.snd.snd.snd.snd.m.words.length : Int)) then
                                   bif y8.snd.snd.snd.snd.snd.snd.snd.m.words.getD (Int.toNat y8.snd.snd.snd.snd.snd.snd.fst) (0 : Int) == y8.snd.fst then
                                    some ((↑y8.snd.snd.snd.snd.snd.snd.snd.th.kids.length : Int) == (↑y8.snd.snd.fst.th.kids.length : Int))
                                   else
                                    some (false)
                                  else
                                   none
                                 else
                                  none
                                else
                                 some (false)
                               else
                                none
                              else
                               none
                             else
                              some (false)
                            else
                             match C_law15_entries y8.snd.snd.fst.th.batch with
                             | some y9 =>
                              bif decide ((0 : Int) ≤ y8.snd.snd.snd.fst) then
                               bif decide (y8.snd.snd.snd.fst < (↑y8.snd.snd.fst.m.boxes.length : Int)) then
                                match C_law15_entries (y8.snd.snd.fst.m.boxes.getD (Int.toNat y8.snd.snd.snd.fst) ([] : List Entry)) with
                                | some y10 =>
                                 bif fewB (List.length y9 + List.length y10) then
                                  bif y8.snd.snd.snd.snd.snd.snd.snd.th.phase == (25 : Int) then
                                   bif decide ((0 : Int) ≤ y8.snd.snd.snd.snd.snd.fst) then
                                    bif decide (y8.snd.snd.snd.snd.snd.fst < (↑y8.snd.snd.snd.snd.snd.snd.snd.m.words.length : Int)) then
                                     bif y8.snd.snd.snd.snd.snd.snd.snd.m.words.getD (Int.toNat y8.snd.snd.snd.snd.snd.fst) (0 : Int) == (0 : Int) then
                                      bif decide ((0 : Int) ≤ y8.snd.snd.snd.snd.snd.snd.fst) then
                                       bif decide (y8.snd.snd.snd.snd.snd.snd.fst < (↑y8.snd.snd.snd.snd.snd.snd.snd.m.words.length : Int)) then
                                        bif y8.snd.snd.snd.snd.snd.snd.snd.m.words.getD (Int.toNat y8.snd.snd.snd.snd.snd.snd.fst) (0 : Int) == (0 : Int) then
                                         match C_law15_entries y8.snd.snd.snd.snd.snd.snd.snd.th.batch with
                                         | some y11 =>
                                          match C_ref02_Same (y11, y9 ++ y10) with
                                          | some y12 =>
                                           bif y12 then
                                            bif (↑y8.snd.snd.snd.snd.snd.snd.snd.th.kids.length : Int) == wrapA IntKind.i64 ((↑y8.snd.snd.fst.th.kids.length : Int) + (1 : Int)) then
                                             bif decide ((↑y8.snd.snd.fst.th.kids.length : Int) < (↑y8.snd.snd.snd.snd.snd.snd.snd.th.kids.length : Int)) then
                                              some ((y8.snd.snd.snd.snd.snd.snd.snd.th.kids.getD (↑y8.snd.snd.fst.th.kids.length : Int).toNat dKid).t == y8.snd.snd.snd.fst && ((y8.snd.snd.snd.snd.snd.snd.snd.th.kids.getD (↑y8.snd.snd.fst.th.kids.length : Int).toNat dKid).ahead == (↑y8.snd.snd.fst.th.batch.length : Int) && true))
                                             else
                                              none
                                            else
                                             some (false)
                                           else
                                            some (false)
                                          | none => none
                                         | none => none
                                        else
                                         some (false)
                                       else
                                        none
                                      else
                                       none
                                     else
                                      some (false)
                                    else
                                     none
                                   else
                                    none
                                  else
                                   some (false)
                                 else
                                  none
                                | none => none
                               else
                                none
                              else
                               none
                             | none => none
                         | some (.inr y9) =>
                          some (y9)
                         | none => none
                       else
                        none
                      else
                       none
                     else
                      none
                    else
                     none
                   | none => none
                  | none => none
                 | none => none
                else
                 none
              else
               bif fewB ((0 : Nat) + x0.m.words.length) then
                match W_law15_CollideMeets_10 (x2, x3, x0, x0.c, (wrapA IntKind.i64 (wrapA IntKind.i64 (x0.t + (1 : Int)) + (IntKind.i64.wrap x1).tmod (wrapA IntKind.i64 (x0.c.threads - (1 : Int))))).tmod x0.c.threads, y4, x0.m.words, (0 : Int)) with
                | some y5 =>
                 match C_ref06_Line (y5.snd.snd.snd.fst, y5.snd.snd.fst.t) with
                 | some y6 =>
                  match C_ref06_Line (y5.snd.snd.snd.fst, y5.snd.snd.snd.snd.fst) with
                  | some y7 =>
                   bif decide ((0 : Int) ≤ y6) then
                    bif decide (y6 < (↑(List.length y5.snd.snd.snd.snd.snd.snd) : Int)) then
                     bif decide ((0 : Int) ≤ y7) then
                      bif decide (y7 < (↑(List.set y5.snd.snd.snd.snd.snd.snd (Int.toNat y6) y5.snd.snd.snd.snd.snd.fst).length : Int)) then
                       bif y5.fst then
                        bif decide ((0 : Int) ≤ y7) then
                         bif decide (y7 < (↑((List.set y5.snd.snd.snd.snd.snd.snd (Int.toNat y6) y5.snd.snd.snd.snd.snd.fst).set (Int.toNat y7) y5.snd.fst).length : Int)) then
                          match W_law15_CollideMeets_23 (y5.fst, y5.snd.fst, { y5.snd.snd.fst with m := { y5.snd.snd.fst.m with words := ((List.set y5.snd.snd.snd.snd.snd.snd (Int.toNat y6) y5.snd.snd.snd.snd.snd.fst).set (Int.toNat y7) y5.snd.fst).set (Int.toNat y7) y5.snd.snd.snd.snd.snd.fst }, th := { y5.snd.snd.fst.th with phase := (19 : Int) } }, y5.snd.snd.snd.snd.fst, y5.snd.snd.snd.snd.snd.fst, ((List.set y5.snd.snd.snd.snd.snd.snd (Int.toNat y6) y5.snd.snd.snd.snd.snd.fst).set (Int.toNat y7) y5.snd.fst).set (Int.toNat y7) y5.snd.snd.snd.snd.snd.fst, y6, y7, { y5.snd.snd.fst with m := { y5.snd.snd.fst.m with words := ((List.set y5.snd.snd.snd.snd.snd.snd (Int.toNat y6) y5.snd.snd.snd.snd.snd.fst).set (Int.toNat y7) y5.snd.fst).set (Int.toNat y7) y5.snd.snd.snd.snd.snd.fst }, th := { y5.snd.snd.fst.th with phase := (19 : Int) } }, (0 : Int)) with
                          | some (.inl y8) =>
                           bif decide ((↑y8.snd.snd.snd.snd.snd.snd.snd.th.batch.length : Int) > (60 : Int)) then
                            some (false)
                           else
                            bif decide ((↑y8.snd.snd.snd.snd.snd.snd.snd.th.kids.length : Int) > (30 : Int)) then
                             some (false)
                            else
                             bif !y8.fst then
                              bif y8.snd.snd.snd.snd.snd.snd.snd.th.phase == (23 : Int) then
                               bif decide ((0 : Int) ≤ y8.snd.snd.snd.snd.snd.fst) then
                                bif decide (y8.snd.snd.snd.snd.snd.fst < (↑y8.snd.snd.snd.snd.snd.snd.snd.m.words.length : Int)) then
                                 bif y8.snd.snd.snd.snd.snd.snd.snd.m.words.getD (Int.toNat y8.snd.snd.snd.snd.snd.fst) (0 : Int) == y8.snd.snd.snd.snd.fst then
                                  bif decide ((0 : Int) ≤ y8.snd.snd.snd.snd.snd.snd.fst) then
                                   bif decide (y8.snd.snd.snd.snd.snd.snd.fst < (↑y8.snd.snd.snd.snd.snd.snd.snd.m.words.length : Int)) then
                                    bif y8.snd.snd.snd.snd.snd.snd.snd.m.words.getD (Int.toNat y8.snd.snd.snd.snd.snd.snd.fst) (0 : Int) == y8.snd.fst then
                                     some ((↑y8.snd.snd.snd.snd.snd.snd.snd.th.kids.length : Int) == (↑y8.snd.snd.fst.th.kids.length : Int))
                                    else
                                     some (false)
                                   else
                                    none
                                  else
                                   none
                                 else
                                  some (false)
                                else
                                 none
                               else
                                none
                              else
                               some (false)
                             else
                              match C_law15_entries y8.snd.snd.fst.th.batch with
                              | some y9 =>
                               bif decide ((0 : Int) ≤ y8.snd.snd.snd.fst) then
                                bif decide (y8.snd.snd.snd.fst < (↑y8.snd.snd.fst.m.boxes.length : Int)) then
                                 match C_law15_entries (y8.snd.snd.fst.m.boxes.getD (Int.toNat y8.snd.snd.snd.fst) ([] : List Entry)) with
                                 | some y10 =>
                                  bif fewB (List.length y9 + List.length y10) then
                                   bif y8.snd.snd.snd.snd.snd.snd.snd.th.phase == (25 : Int) then
                                    bif decide ((0 : Int) ≤ y8.snd.snd.snd.snd.snd.fst) then
                                     bif decide (y8.snd.snd.snd.snd.snd.fst < (↑y8.snd.snd.snd.snd.snd.snd.snd.m.words.length : Int)) then
                                      bif y8.snd.snd.snd.snd.snd.snd.snd.m.words.getD (Int.toNat y8.snd.snd.snd.snd.snd.fst) (0 : Int) == (0 : Int) then
                                       bif decide ((0 : Int) ≤ y8.snd.snd.snd.snd.snd.snd.fst) then
                                        bif decide (y8.snd.snd.snd.snd.snd.snd.fst < (↑y8.snd.snd.snd.snd.snd.snd.snd.m.words.length : Int)) then
                                         bif y8.snd.snd.snd.snd.snd.snd.snd.m.words.getD (Int.toNat y8.snd.snd.snd.snd.snd.snd.fst) (0 : Int) == (0 : Int) then
                                          match C_law15_entries y8.snd.snd.snd.snd.snd.snd.snd.th.batch with
                                          | some y11 =>
                                           match C_ref02_Same (y11, y9 ++ y10) with
                                           | some y12 =>
                                            bif y12 then
                                             bif (↑y8.snd.snd.snd.snd.snd.snd.snd.th.kids.length : Int) == wrapA IntKind.i64 ((↑y8.snd.snd.fst.th.kids.length : Int) + (1 : Int)) then
                                              bif decide ((↑y8.snd.snd.fst.th.kids.length : Int) < (↑y8.snd.snd.snd.snd.snd.snd.snd.th.kids.length : Int)) then
                                               some ((y8.snd.snd.snd.snd.snd.snd.snd.th.kids.getD (↑y8.snd.snd.fst.th.kids.length : Int).toNat dKid).t == y8.snd.snd.snd.fst && ((y8.snd.snd.snd.snd.snd.snd.snd.th.kids.getD (↑y8.snd.snd.fst.th.kids.length : Int).toNat dKid).ahead == (↑y8.snd.snd.fst.th.batch.length : Int) && true))
                                              else
                                               none
                                             else
                                              some (false)
                                            else
                                             some (false)
                                           | none => none
                                          | none => none
                                         else
                                          some (false)
                                        else
                                         none
                                       else
                                        none
                                      else
                                       some (false)
                                     else
                                      none
                                    else
                                     none
                                   else
                                    some (false)
                                  else
                                   none
                                 | none => none
                                else
                                 none
                               else
                                none
                              | none => none
                          | some (.inr y9) =>
                           some (y9)
                          | none => none
                         else
                          none
                        else
                         none
                       else
                        match W_law15_CollideMeets_23 (y5.fst, y5.snd.fst, { y5.snd.snd.fst with m := { y5.snd.snd.fst.m with words := (List.set y5.snd.snd.snd.snd.snd.snd (Int.toNat y6) y5.snd.snd.snd.snd.snd.fst).set (Int.toNat y7) y5.snd.fst }, th := { y5.snd.snd.fst.th with phase := (19 : Int) } }, y5.snd.snd.snd.snd.fst, y5.snd.snd.snd.snd.snd.fst, (List.set y5.snd.snd.snd.snd.snd.snd (Int.toNat y6) y5.snd.snd.snd.snd.snd.fst).set (Int.toNat y7) y5.snd.fst, y6, y7, { y5.snd.snd.fst with m := { y5.snd.snd.fst.m with words := (List.set y5.snd.snd.snd.snd.snd.snd (Int.toNat y6) y5.snd.snd.snd.snd.snd.fst).set (Int.toNat y7) y5.snd.fst }, th := { y5.snd.snd.fst.th with phase := (19 : Int) } }, (0 : Int)) with
                        | some (.inl y8) =>
                         bif decide ((↑y8.snd.snd.snd.snd.snd.snd.snd.th.batch.length : Int) > (60 : Int)) then
                          some (false)
                         else
                          bif decide ((↑y8.snd.snd.snd.snd.snd.snd.snd.th.kids.length : Int) > (30 : Int)) then
                           some (false)
                          else
                           bif !y8.fst then
                            bif y8.snd.snd.snd.snd.snd.snd.snd.th.phase == (23 : Int) then
                             bif decide ((0 : Int) ≤ y8.snd.snd.snd.snd.snd.fst) then
                              bif decide (y8.snd.snd.snd.snd.snd.fst < (↑y8.snd.snd.snd.snd.snd.snd.snd.m.words.length : Int)) then
                               bif y8.snd.snd.snd.snd.snd.snd.snd.m.words.getD (Int.toNat y8.snd.snd.snd.snd.snd.fst) (0 : Int) == y8.snd.snd.snd.snd.fst then
                                bif decide ((0 : Int) ≤ y8.snd.snd.snd.snd.snd.snd.fst) then
                                 bif decide (y8.snd.snd.snd.snd.snd.snd.fst < (↑y8.snd.snd.snd.snd.snd.snd.snd.m.words.length : Int)) then
                                  bif y8.snd.snd.snd.snd.snd.snd.snd.m.words.getD (Int.toNat y8.snd.snd.snd.snd.snd.snd.fst) (0 : Int) == y8.snd.fst then
                                   some ((↑y8.snd.snd.snd.snd.snd.snd.snd.th.kids.length : Int) == (↑y8.snd.snd.fst.th.kids.length : Int))
                                  else
                                   some (false)
                                 else
                                  none
                                else
                                 none
                               else
                                some (false)
                              else
                               none
                             else
                              none
                            else
                             some (false)
                           else
                            match C_law15_entries y8.snd.snd.fst.th.batch with
                            | some y9 =>
                             bif decide ((0 : Int) ≤ y8.snd.snd.snd.fst) then
                              bif decide (y8.snd.snd.snd.fst < (↑y8.snd.snd.fst.m.boxes.length : Int)) then
                               match C_law15_entries (y8.snd.snd.fst.m.boxes.getD (Int.toNat y8.snd.snd.snd.fst) ([] : List Entry)) with
                               | some y10 =>
                                bif fewB (List.length y9 + List.length y10) then
                                 bif y8.snd.snd.snd.snd.snd.snd.snd.th.phase == (25 : Int) then
                                  bif decide ((0 : Int) ≤ y8.snd.snd.snd.snd.snd.fst) then
                                   bif decide (y8.snd.snd.snd.snd.snd.fst < (↑y8.snd.snd.snd.snd.snd.snd.snd.m.words.length : Int)) then
                                    bif y8.snd.snd.snd.snd.snd.snd.snd.m.words.getD (Int.toNat y8.snd.snd.snd.snd.snd.fst) (0 : Int) == (0 : Int) then
                                     bif decide ((0 : Int) ≤ y8.snd.snd.snd.snd.snd.snd.fst) then
                                      bif decide (y8.snd.snd.snd.snd.snd.snd.fst < (↑y8.snd.snd.snd.snd.snd.snd.snd.m.words.length : Int)) then
                                       bif y8.snd.snd.snd.snd.snd.snd.snd.m.words.getD (Int.toNat y8.snd.snd.snd.snd.snd.snd.fst) (0 : Int) == (0 : Int) then
                                        match C_law15_entries y8.snd.snd.snd.snd.snd.snd.snd.th.batch with
                                        | some y11 =>
                                         match C_ref02_Same (y11, y9 ++ y10) with
                                         | some y12 =>
                                          bif y12 then
                                           bif (↑y8.snd.snd.snd.snd.snd.snd.snd.th.kids.length : Int) == wrapA IntKind.i64 ((↑y8.snd.snd.fst.th.kids.length : Int) + (1 : Int)) then
                                            bif decide ((↑y8.snd.snd.fst.th.kids.length : Int) < (↑y8.snd.snd.snd.snd.snd.snd.snd.th.kids.length : Int)) then
                                             some ((y8.snd.snd.snd.snd.snd.snd.snd.th.kids.getD (↑y8.snd.snd.fst.th.kids.length : Int).toNat dKid).t == y8.snd.snd.snd.fst && ((y8.snd.snd.snd.snd.snd.snd.snd.th.kids.getD (↑y8.snd.snd.fst.th.kids.length : Int).toNat dKid).ahead == (↑y8.snd.snd.fst.th.batch.length : Int) && true))
                                            else
                                             none
                                           else
                                            some (false)
                                          else
                                           some (false)
                                         | none => none
                                        | none => none
                                       else
                                        some (false)
                                      else
                                       none
                                     else
                                      none
                                    else
                                     some (false)
                                   else
                                    none
                                  else
                                   none
                                 else
                                  some (false)
                                else
                                 none
                               | none => none
                              else
                               none
                             else
                              none
                            | none => none
                        | some (.inr y9) =>
                         some (y9)
                        | none => none
                      else
                       none
                     else
                      none
                    else
                     none
                   else
                    none
                  | none => none
                 | none => none
                | none => none
               else
                none
             | none => none
         | none => none
   | none => none
 | none => none
noncomputable def C_law15_CollideMeets (x : Turn × Int × Bool × Int) : Option (Bool) := F_law15_CollideMeets x.1 x.2.1 x.2.2.1 x.2.2.2

/- millstream/millstreamlaw15.CollideCaught -/
noncomputable def F_law15_CollideCaught (x0 : Turn) (x1 : Int) (x2 : Int) : Option (Bool) :=
 match C_law15_big x0 with
 | some y1 =>
  bif y1 then
   match C_law15_shown () with
   | some y2 =>
    some (y2)
   | none => none
  else
   match C_law15_layered x0 with
   | some y2 =>
    bif !y2 then
     match C_law15_shown () with
     | some y3 =>
      some (y3)
     | none => none
    else
     match C_code_Open (x0.th.item, x0.th.layer) with
     | some y3 =>
      bif x1 == y3 then
       match C_law15_shown () with
       | some y4 =>
        some (y4)
       | none => none
      else
       match C_law15_shown () with
       | some y4 =>
        bif !y4 then
         match C_law15_shown () with
         | some y5 =>
          some (y5)
         | none => none
        else
         bif fewB ((0 : Nat) + x0.m.words.length) then
          match C_ref06_Line (x0.c, x0.t) with
          | some y5 =>
           bif decide ((0 : Int) ≤ y5) then
            bif decide (y5 < (↑x0.m.words.length : Int)) then
             bif decide ((0 : Int) ≤ (IntKind.i64.wrap x2).tmod (3 : Int)) then
              bif decide ((IntKind.i64.wrap x2).tmod (3 : Int) < (↑((20 : Int) :: (23 : Int) :: (26 : Int) :: ([] : List Int)).length : Int)) then
               match C_collide_Step { x0 with m := { x0.m with words := x0.m.words.set (Int.toNat y5) x1 }, th := { x0.th with phase := ((20 : Int) :: (23 : Int) :: (26 : Int) :: ([] : List Int)).getD ((IntKind.i64.wrap x2).tmod (3 : Int)).toNat (0 : Int) } } with
               | some y6 =>
                bif y6.snd then
                 match C_law15_its y6.fst with
                 | some y7 =>
                  match C_law15_its { x0 with m := { x0.m with words := x0.m.words.set (Int.toNat y5) x1 }, th := { x0.th with phase := (13 : Int) } } with
                  | some y8 =>
                   match C_ref10_Alike (y7, y8) with
                   | some y9 =>
                    some (y9)
                   | none => none
                  | none => none
                 | none => none
                else
                 some (false)
               | none => none
              else
               none
             else
              none
            else
             none
           else
            none
          | none => none
         else
          none
       | none => none
     | none => none
   | none => none
 | none => none
noncomputable def C_law15_CollideCaught (x : Turn × Int × Int) : Option (Bool) := F_law15_CollideCaught x.1 x.2.1 x.2.2

/- millstream/millstreamlaw15.CollideSelf -/
noncomputable def S_law15_CollideSelf_8 (x0 : Int) (x1 : Turn) (x2 : Config) (x3 : List Int) (x4 : Int) : Option ((Int × Turn × Config × (List Int) × Int) ⊕ ((Turn × (List Int)))) :=
 bif decide (x4 < x1.c.width) then
  match C_ref06_Slot (x2, x1.th.item, x1.th.layer, x4) with
  | some y1 =>
   bif decide ((0 : Int) ≤ y1) then
    bif decide (y1 < (↑x3.length : Int)) then
     some (Sum.inl (x0, x1, x2, x3.set (Int.toNat y1) x0, wrapA IntKind.i64 (x4 + (1 : Int))))
    else
     none
   else
    none
  | none => none
 else
  some (Sum.inr (x1, x3))
noncomputable def T_law15_CollideSelf_8 (x : Int × Turn × Config × (List Int) × Int) : Option ((Int × Turn × Config × (List Int) × Int) ⊕ ((Turn × (List Int)))) := S_law15_CollideSelf_8 x.1 x.2.1 x.2.2.1 x.2.2.2.1 x.2.2.2.2
noncomputable def W_law15_CollideSelf_8 (x : Int × Turn × Config × (List Int) × Int) : Option ((Turn × (List Int))) := whileM T_law15_CollideSelf_8 x
noncomputable def F_law15_CollideSelf (x0 : Turn) (x1 : Int) : Option (Bool) :=
 match C_law15_big x0 with
 | some y1 =>
  bif y1 then
   match C_law15_shown () with
   | some y2 =>
    some (y2)
   | none => none
  else
   match C_law15_layered x0 with
   | some y2 =>
    bif !y2 then
     match C_law15_shown () with
     | some y3 =>
      some (y3)
     | none => none
    else
     bif decide (x0.th.layer > x0.c.layers) then
      match C_law15_shown () with
      | some y3 =>
       some (y3)
      | none => none
     else
      bif decide (x0.th.width < (1 : Int)) then
       match C_law15_shown () with
       | some y3 =>
        some (y3)
       | none => none
      else
       bif decide (x0.th.width > x0.c.width) then
        match C_law15_shown () with
        | some y3 =>
         some (y3)
        | none => none
       else
        match C_law15_shown () with
        | some y3 =>
         bif !y3 then
          match C_law15_shown () with
          | some y4 =>
           some (y4)
          | none => none
         else
          bif decide (x1 ≥ (1 : Int)) then
           bif decide (x1 ≤ x0.c.threads) then
            bif fewB ((0 : Nat) + x0.m.words.length) then
             match W_law15_CollideSelf_8 (wrapA IntKind.i64 (x0.t + (1 : Int)), x0, x0.c, x0.m.words, (0 : Int)) with
             | some y4 =>
              match C_collide_Step { y4.fst with m := { y4.fst.m with words := y4.snd }, th := { y4.fst.th with phase := (19 : Int) } } with
              | some y5 =>
               bif y5.snd then
                bif y5.fst.th.phase == (23 : Int) then
                 bif y5.fst.th.left == y4.fst.c.spin then
                  bif y5.fst.th.who == y4.fst.th.who then
                   some ((↑y5.fst.th.kids.length : Int) == (↑y4.fst.th.kids.length : Int))
                  else
                   some (false)
                 else
                  some (false)
                else
                 some (false)
               else
                some (false)
              | none => none
             | none => none
            else
             none
           else
            bif fewB ((0 : Nat) + x0.m.words.length) then
             match W_law15_CollideSelf_8 (x1, x0, x0.c, x0.m.words, (0 : Int)) with
             | some y4 =>
              match C_collide_Step { y4.fst with m := { y4.fst.m with words := y4.snd }, th := { y4.fst.th with phase := (19 : Int) } } with
              | some y5 =>
               bif y5.snd then
                bif y5.fst.th.phase == (23 : Int) then
                 bif y5.fst.th.left == y4.fst.c.spin then
                  bif y5.fst.th.who == y4.fst.th.who then
                   some ((↑y5.fst.th.kids.length : Int) == (↑y4.fst.th.kids.length : Int))
                  else
                   some (false)
                 else
                  some (false)
                else
                 some (false)
               else
                some (false)
              | none => none
             | none => none
            else
             none
          else
           bif fewB ((0 : Nat) + x0.m.words.length) then
            match W_law15_CollideSelf_8 (x1, x0, x0.c, x0.m.words, (0 : Int)) with
            | some y4 =>
             match C_collide_Step { y4.fst with m := { y4.fst.m with words := y4.snd }, th := { y4.fst.th with phase := (19 : Int) } } with
             | some y5 =>
              bif y5.snd then
               bif y5.fst.th.phase == (23 : Int) then
                bif y5.fst.th.left == y4.fst.c.spin then
                 bif y5.fst.th.who == y4.fst.th.who then
                  some ((↑y5.fst.th.kids.length : Int) == (↑y4.fst.th.kids.length : Int))
                 else
                  some (false)
                else
                 some (false)
               else
                some (false)
              else
               some (false)
             | none => none
            | none => none
           else
            none
        | none => none
   | none => none
 | none => none
noncomputable def C_law15_CollideSelf (x : Turn × Int) : Option (Bool) := F_law15_CollideSelf x.1 x.2

/- millstream/millstreamlaw15.CollideSpins -/
noncomputable def S_law15_CollideSpins_11 (x0 : Turn) (x1 : List Int) (x2 : Turn) (x3 : Int) : Option ((Turn × (List Int) × Turn × Int) ⊕ ((Turn × (List Int) × Turn × Int) ⊕ (Bool))) :=
 bif x2.th.phase == (23 : Int) then
  bif decide (x3 < (50 : Int)) then
   match C_collide_Step x2 with
   | some y1 =>
    bif !y1.snd then
     some (Sum.inr (Sum.inr false))
    else
     some (Sum.inl (x0, x1, y1.fst, wrapA IntKind.i64 (x3 + (1 : Int))))
   | none => none
  else
   some (Sum.inr (Sum.inl (x0, x1, x2, x3)))
 else
  some (Sum.inr (Sum.inl (x0, x1, x2, x3)))
noncomputable def T_law15_CollideSpins_11 (x : Turn × (List Int) × Turn × Int) : Option ((Turn × (List Int) × Turn × Int) ⊕ ((Turn × (List Int) × Turn × Int) ⊕ (Bool))) := S_law15_CollideSpins_11 x.1 x.2.1 x.2.2.1 x.2.2.2
noncomputable def W_law15_CollideSpins_11 (x : Turn × (List Int) × Turn × Int) : Option ((Turn × (List Int) × Turn × Int) ⊕ (Bool)) := whileM T_law15_CollideSpins_11 x
noncomputable def F_law15_CollideSpins (x0 : Turn) (x1 : Int) : Option (Bool) :=
 match C_law15_big x0 with
 | some y1 =>
  bif y1 then
   match C_law15_shown () with
   | some y2 =>
    some (y2)
   | none => none
  else
   match C_law15_layered x0 with
   | some y2 =>
    bif !y2 then
     match C_law15_shown () with
     | some y3 =>
      some (y3)
     | none => none
    else
     match C_law15_shown () with
     | some y3 =>
      bif !y3 then
       match C_law15_shown () with
       | some y4 =>
        some (y4)
       | none => none
      else
       bif fewB ((0 : Nat) + x0.m.words.length) then
        match C_ref06_Line (x0.c, x0.t) with
        | some y4 =>
         match C_code_Open (x0.th.item, x0.th.layer) with
         | some y5 =>
          bif decide ((0 : Int) ≤ y4) then
           bif decide (y4 < (↑x0.m.words.length : Int)) then
            match W_law15_CollideSpins_11 ({ x0 with m := { x0.m with words := x0.m.words.set (Int.toNat y4) y5 }, th := { x0.th with phase := (23 : Int), left := (IntKind.i64.wrap x1).tmod (30 : Int) } }, x0.m.words.set (Int.toNat y4) y5, { x0 with m := { x0.m with words := x0.m.words.set (Int.toNat y4) y5 }, th := { x0.th with phase := (23 : Int), left := (IntKind.i64.wrap x1).tmod (30 : Int) } }, (0 : Int)) with
            | some (.inl y6) =>
             match C_thread_Late y6.fst with
             | some y7 =>
              bif y7 then
               bif y6.snd.snd.snd == (1 : Int) then
                some (y6.snd.snd.fst.th.phase == (26 : Int))
               else
                some (false)
              else
               bif y6.snd.snd.snd == wrapA IntKind.i64 (y6.fst.th.left + (1 : Int)) then
                bif y6.snd.snd.fst.th.phase == (26 : Int) then
                 bif y6.snd.snd.fst.th.left == (0 : Int) then
                  some ((↑y6.snd.snd.fst.m.words.length : Int) == (↑(List.length y6.snd.fst) : Int))
                 else
                  some (false)
                else
                 some (false)
               else
                some (false)
             | none => none
            | some (.inr y7) =>
             some (y7)
            | none => none
           else
            none
          else
           none
         | none => none
        | none => none
       else
        none
     | none => none
   | none => none
 | none => none
noncomputable def C_law15_CollideSpins (x : Turn × Int) : Option (Bool) := F_law15_CollideSpins x.1 x.2

/- millstream/millstreamlaw15.CollideOther -/
noncomputable def S_law15_CollideOther_20 (x0 : Turn) (x1 : Config) (x2 : Turn) (x3 : Int) (x4 : Int) (x5 : Bool) (x6 : Int) : Option ((Turn × Config × Turn × Int × Int × Bool × Int) ⊕ ((Turn × Config × Turn × Int × Int × Bool))) :=
 bif decide (x6 < x0.c.width) then
  bif x5 then
   some (Sum.inl (x0, x1, x2, x3, x4, true, wrapA IntKind.i64 (x6 + (1 : Int))))
  else
   match C_ref06_Slot (x1, x0.th.item, x0.th.layer, x6) with
   | some y1 =>
    bif x4 == y1 then
     bif decide ((0 : Int) ≤ x4) then
      bif decide (x4 < (↑x2.m.words.length : Int)) then
       some (Sum.inl (x0, x1, x2, x3, x4, x2.m.words.getD x4.toNat (0 : Int) == wrapA IntKind.i64 (x0.t + (1 : Int)), wrapA IntKind.i64 (x6 + (1 : Int))))
      else
       none
     else
      none
    else
     some (Sum.inl (x0, x1, x2, x3, x4, false, wrapA IntKind.i64 (x6 + (1 : Int))))
   | none => none
 else
  some (Sum.inr (x0, x1, x2, x3, x4, x5))
noncomputable def T_law15_CollideOther_20 (x : Turn × Config × Turn × Int × Int × Bool × Int) : Option ((Turn × Config × Turn × Int × Int × Bool × Int) ⊕ ((Turn × Config × Turn × Int × Int × Bool))) := S_law15_CollideOther_20 x.1 x.2.1 x.2.2.1 x.2.2.2.1 x.2.2.2.2.1 x.2.2.2.2.2.1 x.2.2.2.2.2.2
noncomputable def W_law15_CollideOther_20 (x : Turn × Config × Turn × Int × Int × Bool × Int) : Option ((Turn × Config × Turn × Int × Int × Bool)) := whileM T_law15_CollideOther_20 x
noncomputable def S_law15_CollideOther_14 (x0 : Turn) (x1 : Config) (x2 : Turn) (x3 : Int) (x4 : Int) : Option ((Turn × Config × Turn × Int × Int) ⊕ ((Int) ⊕ (Bool))) :=
 bif decide (x4 < (↑x0.m.words.length : Int)) then
  bif decide ((0 : Int) ≤ x4) then
   bif decide (x4 < (↑x2.m.words.length : Int)) then
    bif decide ((0 : Int) ≤ x4) then
     bif decide (x4 < (↑x0.m.words.length : Int)) then
      bif x2.m.words.getD x4.toNat (0 : Int) == x0.m.words.getD x4.toNat (0 : Int) then
       some (Sum.inl (x0, x1, x2, x3, wrapA IntKind.i64 (x4 + (1 : Int))))
      else
       match C_ref06_Line (x1, x0.t) with
       | some y1 =>
        bif x4 == y1 then
         match W_law15_CollideOther_20 (x0, x1, x2, wrapA IntKind.i64 (x3 + (1 : Int)), x4, true, (0 : Int)) with
         | some y2 =>
          bif !y2.snd.snd.snd.snd.snd then
           some (Sum.inr (Sum.inr false))
          else
           some (Sum.inl (y2.fst, y2.snd.fst, y2.snd.snd.fst, y2.snd.snd.snd.fst, wrapA IntKind.i64 (y2.snd.snd.snd.snd.fst + (1 : Int))))
         | none => none
        else
         bif decide ((0 : Int) ≤ x4) then
          bif decide (x4 < (↑x2.m.words.length : Int)) then
           bif x2.m.words.getD x4.toNat (0 : Int) == (0 : Int) then
            bif decide ((0 : Int) ≤ x4) then
             bif decide (x4 < (↑x0.m.words.length : Int)) then
              match C_code_Open (x0.th.item, x0.th.layer) with
              | some y2 =>
               match W_law15_CollideOther_20 (x0, x1, x2, wrapA IntKind.i64 (x3 + (1 : Int)), x4, x0.m.words.getD x4.toNat (0 : Int) == y2, (0 : Int)) with
               | some y3 =>
                bif !y3.snd.snd.snd.snd.snd then
                 some (Sum.inr (Sum.inr false))
                else
                 some (Sum.inl (y3.fst, y3.snd.fst, y3.snd.snd.fst, y3.snd.snd.snd.fst, wrapA IntKind.i64 (y3.snd.snd.snd.snd.fst + (1 : Int))))
               | none => none
              | none => none
             else
              none
            else
             none
           else
            match W_law15_CollideOther_20 (x0, x1, x2, wrapA IntKind.i64 (x3 + (1 : Int)), x4, false, (0 : Int)) with
            | some y2 =>
             bif !y2.snd.snd.snd.snd.snd then
              some (Sum.inr (Sum.inr false))
             else
              some (Sum.inl (y2.fst, y2.snd.fst, y2.snd.snd.fst, y2.snd.snd.snd.fst, wrapA IntKind.i64 (y2.snd.snd.snd.snd.fst + (1 : Int))))
            | none => none
          else
           none
         else
          none
       | none => none
     else
      none
    else
     none
   else
    none
  else
   none
 else
  some (Sum.inr (Sum.inl x3))
noncomputable def T_law15_CollideOther_14 (x : Turn × Config × Turn × Int × Int) : Option ((Turn × Config × Turn × Int × Int) ⊕ ((Int) ⊕ (Bool))) := S_law15_CollideOther_14 x.1 x.2.1 x.2.2.1 x.2.2.2.1 x.2.2.2.2
noncomputable def W_law15_CollideOther_14 (x : Turn × Config × Turn × Int × Int) : Option ((Int) ⊕ (Bool)) := whileM T_law15_CollideOther_14 x
noncomputable def S_law15_CollideOther_8 (x0 : Turn) (x1 : Config) (x2 : Turn) (x3 : Int) : Option ((Turn × Config × Turn × Int) ⊕ ((Turn × Config × Turn) ⊕ (Bool))) :=
 bif decide (x3 < (↑x0.m.boxes.length : Int)) then
  bif x3 != x0.t then
   bif decide ((0 : Int) ≤ x3) then
    bif decide (x3 < (↑x0.m.boxes.length : Int)) then
     match C_law15_entries (x0.m.boxes.getD x3.toNat ([] : List Entry)) with
     | some y1 =>
      bif decide ((0 : Int) ≤ x3) then
       bif decide (x3 < (↑x2.m.boxes.length : Int)) then
        match C_law15_entries (x2.m.boxes.getD x3.toNat ([] : List Entry)) with
        | some y2 =>
         match C_ref02_Same (y1, y2) with
         | some y3 =>
          bif !y3 then
           some (Sum.inr (Sum.inr false))
          else
           some (Sum.inl (x0, x1, x2, wrapA IntKind.i64 (x3 + (1 : Int))))
         | none => none
        | none => none
       else
        none
      else
       none
     | none => none
    else
     none
   else
    none
  else
   some (Sum.inl (x0, x1, x2, wrapA IntKind.i64 (x3 + (1 : Int))))
 else
  some (Sum.inr (Sum.inl (x0, x1, x2)))
noncomputable def T_law15_CollideOther_8 (x : Turn × Config × Turn × Int) : Option ((Turn × Config × Turn × Int) ⊕ ((Turn × Config × Turn) ⊕ (Bool))) := S_law15_CollideOther_8 x.1 x.2.1 x.2.2.1 x.2.2.2
noncomputable def W_law15_CollideOther_8 (x : Turn × Config × Turn × Int) : Option ((Turn × Config × Turn) ⊕ (Bool)) := whileM T_law15_CollideOther_8 x
noncomputable def F_law15_CollideOther (x0 : Turn) : Option (Bool) :=
 match C_law15_big x0 with
 | some y1 =>
  bif y1 then
   match C_law15_shown () with
   | some y2 =>
    some (y2)
   | none => none
  else
   match C_law15_layered x0 with
   | some y2 =>
    bif !y2 then
     match C_law15_shown () with
     | some y3 =>
      some (y3)
     | none => none
    else
     match C_law15_shown () with
     | some y3 =>
      bif !y3 then
       match C_law15_shown () with
       | some y4 =>
        some (y4)
       | none => none
      else
       match C_collide_Step x0 with
       | some y4 =>
        bif (↑y4.fst.m.words.length : Int) != (↑x0.m.words.length : Int) then
         some (false)
        else
         bif (↑y4.fst.m.boxes.length : Int) != (↑x0.m.boxes.length : Int) then
          some (false)
         else
          match W_law15_CollideOther_8 (x0, x0.c, y4.fst, (0 : Int)) with
          | some (.inl y5) =>
           match W_law15_CollideOther_14 (y5.fst, y5.snd.fst, y5.snd.snd, (0 : Int), (0 : Int)) with
           | some (.inl y6) =>
            some (decide (y6 ≤ (1 : Int)))
           | some (.inr y7) =>
            some (y7)
           | none => none
          | some (.inr y6) =>
           some (y6)
          | none => none
       | none => none
     | none => none
   | none => none
 | none => none
noncomputable def C_law15_CollideOther (x : Turn) : Option (Bool) := F_law15_CollideOther x

end Go.Proofs.Mill
