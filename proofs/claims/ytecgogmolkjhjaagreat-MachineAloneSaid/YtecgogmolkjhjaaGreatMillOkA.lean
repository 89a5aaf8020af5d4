/- The functions compute this. -/
import Derived.Test.YtecgogmolkjhjaaGreatMillSeat2
import Derived.Test.YtecgogmolkjhjaaGreatMillFA
namespace Go.Proofs.Mill
set_option linter.all false
/- millstream/millstreamlaw16.big -/
noncomputable def e16 : Env := env1 []
theorem g16 : GoodEnv e16 := goodEnv mix1 ent1 goods_nil
noncomputable def l16_2 : LSpec := loop2 [1, 3] (valsCons (valBox celTurn) (valsOne (valInt .i64))) (⟨.exit 0, [1], (valsOne (valBox celTurn))⟩ : Way) (⟨.ret, [2], (valsOne (valBool))⟩ : Way) (whileM T_law16_big_2)
set_option maxRecDepth 100000 in
theorem lok16_2 : LoopOK e16 70 l16_2 (fnLoop e16.P 16 2) :=
  loop2_ok (L := assocL []) (rounds := 20) (depth := 6) (ts := [1, 3]) (v := (valsCons (valBox celTurn) (valsOne (valInt .i64)))) (a := ⟨.exit 0, [1], (valsOne (valBox celTurn))⟩) (b := ⟨.ret, [2], (valsOne (valBool))⟩) (step := T_law16_big_2) g16 rfl rfl loops_inNil (fun x => by kernel_rfl)
noncomputable def s16 : Spec := mkSpec (valsOne (valSt celTurn)) (resOne (valBool)) C_law16_big
set_option maxRecDepth 100000 in
theorem ok16 : SpecOK Tryz.prog 16 s16 :=
  mkSpec_ok (V := e16) (L := (assocL [(2, l16_2)])) (rounds := 20) (depth := 6) g16 (loops_fn (nt := 70) (by kernel_rfl) (ntB_ok (by kernel_rfl)) (loopsOK_cons lok16_2 loopsOK_nil)) (fun x => by kernel_rfl)

/- millstream/millstreamref05.Check -/
noncomputable def e23 : Env := env1 []
theorem g23 : GoodEnv e23 := goodEnv mix1 ent1 goods_nil
noncomputable def s23 : Spec := mkSpec (valsOne (valSt celConfig)) (resOne (valInt .i64)) C_ref05_Check
set_option maxRecDepth 100000 in
theorem ok23 : SpecOK Tryz.prog 23 s23 :=
  mkSpec_ok (V := e23) (L := nL) (rounds := 20) (depth := 6) g23 loops_none (fun x => by kernel_rfl)

/- millstream/millstreamref06.Nodes -/
noncomputable def e36 : Env := env1 []
theorem g36 : GoodEnv e36 := goodEnv mix1 ent1 goods_nil
noncomputable def l36_3 : LSpec := loop1 [1, 3, 4] (valsCons (valBox celConfig) (valsCons (valInt .i64) (valsOne (valInt .i64)))) (⟨.exit 0, [3], (valsOne (valInt .i64))⟩ : Way) (whileM T_ref06_Nodes_3)
set_option maxRecDepth 100000 in
theorem lok36_3 : LoopOK e36 15 l36_3 (fnLoop e36.P 36 3) :=
  loop1_ok (L := assocL []) (rounds := 20) (depth := 6) (ts := [1, 3, 4]) (v := (valsCons (valBox celConfig) (valsCons (valInt .i64) (valsOne (valInt .i64))))) (a := ⟨.exit 0, [3], (valsOne (valInt .i64))⟩) (step := T_ref06_Nodes_3) g36 rfl loops_inNil (fun x => by kernel_rfl)
noncomputable def s36 : Spec := mkSpec (valsOne (valSt celConfig)) (resOne (valInt .i64)) C_ref06_Nodes
set_option maxRecDepth 100000 in
theorem ok36 : SpecOK Tryz.prog 36 s36 :=
  mkSpec_ok (V := e36) (L := (assocL [(3, l36_3)])) (rounds := 20) (depth := 6) g36 (loops_fn (nt := 15) (by kernel_rfl) (ntB_ok (by kernel_rfl)) (loopsOK_cons lok36_3 loopsOK_nil)) (fun x => by kernel_rfl)

/- millstream/millstreamref06.block -/
noncomputable def e74 : Env := env1 [(36, s36)]
theorem g74 : GoodEnv e74 := goodEnv mix1 ent1 (goods_cons ok36 rfl goods_nil)
noncomputable def s74 : Spec := mkSpec (valsOne (valSt celConfig)) (resOne (valInt .i64)) C_ref06_block
set_option maxRecDepth 100000 in
theorem ok74 : SpecOK Tryz.prog 74 s74 :=
  mkSpec_ok (V := e74) (L := nL) (rounds := 20) (depth := 6) g74 loops_none (fun x => by kernel_rfl)

/- millstream/millstreamref06.Size -/
noncomputable def e34 : Env := env1 [(74, s74)]
theorem g34 : GoodEnv e34 := goodEnv mix1 ent1 (goods_cons ok74 rfl goods_nil)
noncomputable def s34 : Spec := mkSpec (valsOne (valSt celConfig)) (resOne (valInt .i64)) C_ref06_Size
set_option maxRecDepth 100000 in
theorem ok34 : SpecOK Tryz.prog 34 s34 :=
  mkSpec_ok (V := e34) (L := nL) (rounds := 20) (depth := 6) g34 loops_none (fun x => by kernel_rfl)

/- millstream/millstreamlaw16.may -/
noncomputable def e17 : Env := env1 [(23, s23), (34, s34)]
theorem g17 : GoodEnv e17 := goodEnv mix1 ent1 (goods_cons ok23 rfl (goods_cons ok34 rfl goods_nil))
noncomputable def s17 : Spec := mkSpec (valsOne (valSt celTurn)) (resOne (valBool)) C_law16_may
set_option maxRecDepth 100000 in
theorem ok17 : SpecOK Tryz.prog 17 s17 :=
  mkSpec_ok (V := e17) (L := nL) (rounds := 20) (depth := 6) g17 loops_none (fun x => by kernel_rfl)

/- millstream/millstreamref02.Same -/
noncomputable def e29 : Env := env1 []
theorem g29 : GoodEnv e29 := goodEnv mix1 ent1 goods_nil
noncomputable def l29_4 : LSpec := loop2 [0, 1, 5] (valsCons (valLst .entry) (valsCons (valLst .entry) (valsOne (valInt .i64)))) (⟨.exit 0, [], valsNil⟩ : Way) (⟨.ret, [4], (valsOne (valBool))⟩ : Way) (whileM T_ref02_Same_4)
set_option maxRecDepth 100000 in
theorem lok29_4 : LoopOK e29 26 l29_4 (fnLoop e29.P 29 4) :=
  loop2_ok (L := assocL []) (rounds := 20) (depth := 6) (ts := [0, 1, 5]) (v := (valsCons (valLst .entry) (valsCons (valLst .entry) (valsOne (valInt .i64))))) (a := ⟨.exit 0, [], valsNil⟩) (b := ⟨.ret, [4], (valsOne (valBool))⟩) (step := T_ref02_Same_4) g29 rfl rfl loops_inNil (fun x => by kernel_rfl)
noncomputable def s29 : Spec := mkSpec (valsCons (valLst .entry) (valsOne (valLst .entry))) (resOne (valBool)) C_ref02_Same
set_option maxRecDepth 100000 in
theorem ok29 : SpecOK Tryz.prog 29 s29 :=
  mkSpec_ok (V := e29) (L := (assocL [(4, l29_4)])) (rounds := 20) (depth := 6) g29 (loops_fn (nt := 26) (by kernel_rfl) (ntB_ok (by kernel_rfl)) (loopsOK_cons lok29_4 loopsOK_nil)) (fun x => by kernel_rfl)

/- millstream/millstreamref02.Ints -/
noncomputable def e94 : Env := env1 []
theorem g94 : GoodEnv e94 := goodEnv mix1 ent1 goods_nil
noncomputable def l94_4 : LSpec := loop2 [0, 1, 5] (valsCons (valLst .int) (valsCons (valLst .int) (valsOne (valInt .i64)))) (⟨.exit 0, [], valsNil⟩ : Way) (⟨.ret, [4], (valsOne (valBool))⟩ : Way) (whileM T_ref02_Ints_4)
set_option maxRecDepth 100000 in
theorem lok94_4 : LoopOK e94 26 l94_4 (fnLoop e94.P 94 4) :=
  loop2_ok (L := assocL []) (rounds := 20) (depth := 6) (ts := [0, 1, 5]) (v := (valsCons (valLst .int) (valsCons (valLst .int) (valsOne (valInt .i64))))) (a := ⟨.exit 0, [], valsNil⟩) (b := ⟨.ret, [4], (valsOne (valBool))⟩) (step := T_ref02_Ints_4) g94 rfl rfl loops_inNil (fun x => by kernel_rfl)
noncomputable def s94 : Spec := mkSpec (valsCons (valLst .int) (valsOne (valLst .int))) (resOne (valBool)) C_ref02_Ints
set_option maxRecDepth 100000 in
theorem ok94 : SpecOK Tryz.prog 94 s94 :=
  mkSpec_ok (V := e94) (L := (assocL [(4, l94_4)])) (rounds := 20) (depth := 6) g94 (loops_fn (nt := 26) (by kernel_rfl) (ntB_ok (by kernel_rfl)) (loopsOK_cons lok94_4 loopsOK_nil)) (fun x => by kernel_rfl)

/- millstream/millstreamref03.Same -/
noncomputable def e56 : Env := env1 [(29, s29), (94, s94)]
theorem g56 : GoodEnv e56 := goodEnv mix1 ent1 (goods_cons ok29 rfl (goods_cons ok94 rfl goods_nil))
noncomputable def l56_4 : LSpec := loop2 [2, 3, 5] (valsCons (valBox celMemo) (valsCons (valBox celMemo) (valsOne (valInt .i64)))) (⟨.exit 0, [], valsNil⟩ : Way) (⟨.ret, [4], (valsOne (valBool))⟩ : Way) (whileM T_ref03_Same_4)
set_option maxRecDepth 100000 in
theorem lok56_4 : LoopOK e56 40 l56_4 (fnLoop e56.P 56 4) :=
  loop2_ok (L := assocL []) (rounds := 20) (depth := 6) (ts := [2, 3, 5]) (v := (valsCons (valBox celMemo) (valsCons (valBox celMemo) (valsOne (valInt .i64))))) (a := ⟨.exit 0, [], valsNil⟩) (b := ⟨.ret, [4], (valsOne (valBool))⟩) (step := T_ref03_Same_4) g56 rfl rfl loops_inNil (fun x => by kernel_rfl)
noncomputable def s56 : Spec := mkSpec (valsCons (valSt celMemo) (valsOne (valSt celMemo))) (resOne (valBool)) C_ref03_Same
set_option maxRecDepth 100000 in
theorem ok56 : SpecOK Tryz.prog 56 s56 :=
  mkSpec_ok (V := e56) (L := (assocL [(4, l56_4)])) (rounds := 20) (depth := 6) g56 (loops_fn (nt := 40) (by kernel_rfl) (ntB_ok (by kernel_rfl)) (loopsOK_cons lok56_4 loopsOK_nil)) (fun x => by kernel_rfl)

/- millstream/millstreamref10.Same -/
noncomputable def e57 : Env := env1 [(29, s29), (94, s94)]
theorem g57 : GoodEnv e57 := goodEnv mix1 ent1 (goods_cons ok29 rfl (goods_cons ok94 rfl goods_nil))
noncomputable def l57_4 : LSpec := loop2 [2, 3, 5] (valsCons (valBox celThread) (valsCons (valBox celThread) (valsOne (valInt .i64)))) (⟨.exit 0, [2, 3], (valsCons (valBox celThread) (valsOne (valBox celThread)))⟩ : Way) (⟨.ret, [4], (valsOne (valBool))⟩ : Way) (whileM T_ref10_Same_4)
set_option maxRecDepth 100000 in
theorem lok57_4 : LoopOK e57 136 l57_4 (fnLoop e57.P 57 4) :=
  loop2_ok (L := assocL []) (rounds := 20) (depth := 6) (ts := [2, 3, 5]) (v := (valsCons (valBox celThread) (valsCons (valBox celThread) (valsOne (valInt .i64))))) (a := ⟨.exit 0, [2, 3], (valsCons (valBox celThread) (valsOne (valBox celThread)))⟩) (b := ⟨.ret, [4], (valsOne (valBool))⟩) (step := T_ref10_Same_4) g57 rfl rfl loops_inNil (fun x => by kernel_rfl)
noncomputable def s57 : Spec := mkSpec (valsCons (valSt celThread) (valsOne (valSt celThread))) (resOne (valBool)) C_ref10_Same
set_option maxRecDepth 100000 in
theorem ok57 : SpecOK Tryz.prog 57 s57 :=
  mkSpec_ok (V := e57) (L := (assocL [(4, l57_4)])) (rounds := 20) (depth := 6) g57 (loops_fn (nt := 136) (by kernel_rfl) (ntB_ok (by kernel_rfl)) (loopsOK_cons lok57_4 loopsOK_nil)) (fun x => by kernel_rfl)

/- millstream/millstreamref04.Same -/
noncomputable def e58 : Env := env1 []
theorem g58 : GoodEnv e58 := goodEnv mix1 ent1 goods_nil
noncomputable def l58_4 : LSpec := loop2 [2, 3, 5] (valsCons (valBox celTape) (valsCons (valBox celTape) (valsOne (valInt .i64)))) (⟨.exit 0, [], valsNil⟩ : Way) (⟨.ret, [4], (valsOne (valBool))⟩ : Way) (whileM T_ref04_Same_4)
set_option maxRecDepth 100000 in
theorem lok58_4 : LoopOK e58 38 l58_4 (fnLoop e58.P 58 4) :=
  loop2_ok (L := assocL []) (rounds := 20) (depth := 6) (ts := [2, 3, 5]) (v := (valsCons (valBox celTape) (valsCons (valBox celTape) (valsOne (valInt .i64))))) (a := ⟨.exit 0, [], valsNil⟩) (b := ⟨.ret, [4], (valsOne (valBool))⟩) (step := T_ref04_Same_4) g58 rfl rfl loops_inNil (fun x => by kernel_rfl)
noncomputable def s58 : Spec := mkSpec (valsCons (valSt celTape) (valsOne (valSt celTape))) (resOne (valBool)) C_ref04_Same
set_option maxRecDepth 100000 in
theorem ok58 : SpecOK Tryz.prog 58 s58 :=
  mkSpec_ok (V := e58) (L := (assocL [(4, l58_4)])) (rounds := 20) (depth := 6) g58 (loops_fn (nt := 38) (by kernel_rfl) (ntB_ok (by kernel_rfl)) (loopsOK_cons lok58_4 loopsOK_nil)) (fun x => by kernel_rfl)

/- millstream/millstreamref10.Marks -/
noncomputable def e59 : Env := env1 []
theorem g59 : GoodEnv e59 := goodEnv mix1 ent1 goods_nil
noncomputable def l59_4 : LSpec := loop2 [0, 1, 5] (valsCons (valLst .mark) (valsCons (valLst .mark) (valsOne (valInt .i64)))) (⟨.exit 0, [], valsNil⟩ : Way) (⟨.ret, [4], (valsOne (valBool))⟩ : Way) (whileM T_ref10_Marks_4)
set_option maxRecDepth 100000 in
theorem lok59_4 : LoopOK e59 26 l59_4 (fnLoop e59.P 59 4) :=
  loop2_ok (L := assocL []) (rounds := 20) (depth := 6) (ts := [0, 1, 5]) (v := (valsCons (valLst .mark) (valsCons (valLst .mark) (valsOne (valInt .i64))))) (a := ⟨.exit 0, [], valsNil⟩) (b := ⟨.ret, [4], (valsOne (valBool))⟩) (step := T_ref10_Marks_4) g59 rfl rfl loops_inNil (fun x => by kernel_rfl)
noncomputable def s59 : Spec := mkSpec (valsCons (valLst .mark) (valsOne (valLst .mark))) (resOne (valBool)) C_ref10_Marks
set_option maxRecDepth 100000 in
theorem ok59 : SpecOK Tryz.prog 59 s59 :=
  mkSpec_ok (V := e59) (L := (assocL [(4, l59_4)])) (rounds := 20) (depth := 6) g59 (loops_fn (nt := 26) (by kernel_rfl) (ntB_ok (by kernel_rfl)) (loopsOK_cons lok59_4 loopsOK_nil)) (fun x => by kernel_rfl)

/- millstream/millstreamref10.Alike -/
noncomputable def e19 : Env := env1 [(56, s56), (57, s57), (58, s58), (59, s59)]
theorem g19 : GoodEnv e19 := goodEnv mix1 ent1 (goods_cons ok56 rfl (goods_cons ok57 rfl (goods_cons ok58 rfl (goods_cons ok59 rfl goods_nil))))
noncomputable def s19 : Spec := mkSpec (valsCons (valSt celTurn) (valsOne (valSt celTurn))) (resOne (valBool)) C_ref10_Alike
set_option maxRecDepth 100000 in
theorem ok19 : SpecOK Tryz.prog 19 s19 :=
  mkSpec_ok (V := e19) (L := nL) (rounds := 20) (depth := 6) g19 loops_none (fun x => by kernel_rfl)

/- millstream/millstreamlaw16.entries -/
noncomputable def e30 : Env := env1 []
theorem g30 : GoodEnv e30 := goodEnv mix1 ent1 goods_nil
noncomputable def l30_3 : LSpec := loop1 [0, 3, 4] (valsCons (valLst .entry) (valsCons (valOwn 137 .entry) (valsOne (valInt .i64)))) (⟨.exit 0, [3], (valsOne (valOwn 137 .entry))⟩ : Way) (whileM T_law16_entries_3)
set_option maxRecDepth 100000 in
theorem lok30_3 : LoopOK e30 27 l30_3 (fnLoop e30.P 30 3) :=
  loop1_ok (L := assocL []) (rounds := 20) (depth := 6) (ts := [0, 3, 4]) (v := (valsCons (valLst .entry) (valsCons (valOwn 137 .entry) (valsOne (valInt .i64))))) (a := ⟨.exit 0, [3], (valsOne (valOwn 137 .entry))⟩) (step := T_law16_entries_3) g30 rfl loops_inNil (fun x => by kernel_rfl)
noncomputable def s30 : Spec := mkSpec (valsOne (valLst .entry)) (resOne (valOwn 137 .entry)) C_law16_entries
set_option maxRecDepth 100000 in
theorem ok30 : SpecOK Tryz.prog 30 s30 :=
  mkSpec_ok (V := e30) (L := (assocL [(3, l30_3)])) (rounds := 20) (depth := 6) g30 (loops_fn (nt := 27) (by kernel_rfl) (ntB_ok (by kernel_rfl)) (loopsOK_cons lok30_3 loopsOK_nil)) (fun x => by kernel_rfl)

/- millstream/millstreamlaw16.memory -/
noncomputable def e60 : Env := env1 [(30, s30)]
theorem g60 : GoodEnv e60 := goodEnv mix1 ent1 (goods_cons ok30 rfl goods_nil)
noncomputable def l60_3 : LSpec := loop1 [1, 2, 3, 4] (valsCons (valBox celMemo) (valsCons (valBox celMemo) (valsCons (valBox (celAs (celApp (celLst .int) (celOwn 47 (.lst .entry))) Memo (fun y => ⟨y.1, y.2⟩) (fun x => (x.words, x.boxes)) (fun _ => rfl))) (valsOne (valInt .i64))))) (⟨.exit 0, [2, 3], (valsCons (valBox celMemo) (valsOne (valBox (celAs (celApp (celLst .int) (celOwn 47 (.lst .entry))) Memo (fun y => ⟨y.1, y.2⟩) (fun x => (x.words, x.boxes)) (fun _ => rfl)))))⟩ : Way) (whileM T_law16_memory_3)
set_option maxRecDepth 100000 in
theorem lok60_3 : LoopOK e60 27 l60_3 (fnLoop e60.P 60 3) :=
  loop1_ok (L := assocL []) (rounds := 20) (depth := 6) (ts := [1, 2, 3, 4]) (v := (valsCons (valBox celMemo) (valsCons (valBox celMemo) (valsCons (valBox (celAs (celApp (celLst .int) (celOwn 47 (.lst .entry))) Memo (fun y => ⟨y.1, y.2⟩) (fun x => (x.words, x.boxes)) (fun _ => rfl))) (valsOne (valInt .i64)))))) (a := ⟨.exit 0, [2, 3], (valsCons (valBox celMemo) (valsOne (valBox (celAs (celApp (celLst .int) (celOwn 47 (.lst .entry))) Memo (fun y => ⟨y.1, y.2⟩) (fun x => (x.words, x.boxes)) (fun _ => rfl)))))⟩) (step := T_law16_memory_3) g60 rfl loops_inNil (fun x => by kernel_rfl)
noncomputable def s60 : Spec := mkSpec (valsOne (valSt celMemo)) (resOne (valSt celMemo)) C_law16_memory
set_option maxRecDepth 100000 in
theorem ok60 : SpecOK Tryz.prog 60 s60 :=
  mkSpec_ok (V := e60) (L := (assocL [(3, l60_3)])) (rounds := 20) (depth := 6) g60 (loops_fn (nt := 27) (by kernel_rfl) (ntB_ok (by kernel_rfl)) (loopsOK_cons lok60_3 loopsOK_nil)) (fun x => by kernel_rfl)

/- millstream/millstreamlaw16.fiber -/
noncomputable def e61 : Env := env1 [(30, s30)]
theorem g61 : GoodEnv e61 := goodEnv mix1 ent1 (goods_cons ok30 rfl goods_nil)
noncomputable def l61_3 : LSpec := loop1 [1, 2, 3, 4] (valsCons (valBox celThread) (valsCons (valBox celThread) (valsCons (valBox (celAs (celApp (celInt .i64) (celApp (celInt .i64) (celApp celOp (celApp (celLst .entry) (celApp (celOwn 160 .kid) (celApp (celLst .int) (celApp (celInt .i64) (celApp (celInt .i64) (celApp (celInt .i64) (celApp (celInt .i64) (celApp (celInt .i64) (celApp (celInt .i64) (celApp (celInt .i64) (celApp (celInt .i64) (celApp (celInt .i64) (celInt .i64)))))))))))))))) Thread (fun y => ⟨y.1, y.2.1, y.2.2.1, y.2.2.2.1, y.2.2.2.2.1, y.2.2.2.2.2.1, y.2.2.2.2.2.2.1, y.2.2.2.2.2.2.2.1, y.2.2.2.2.2.2.2.2.1, y.2.2.2.2.2.2.2.2.2.1, y.2.2.2.2.2.2.2.2.2.2.1, y.2.2.2.2.2.2.2.2.2.2.2.1, y.2.2.2.2.2.2.2.2.2.2.2.2.1, y.2.2.2.2.2.2.2.2.2.2.2.2.2.1, y.2.2.2.2.2.2.2.2.2.2.2.2.2.2.1, y.2.2.2.2.2.2.2.2.2.2.2.2.2.2.2⟩) (fun x => (x.phase, (x.item, (x.op, (x.batch, (x.kids, (x.held, (x.stop, (x.node, (x.at_, (x.layer, (x.left, (x.width, (x.who, (x.x, (x.y, x.until_)))))))))))))))) (fun _ => rfl))) (valsOne (valInt .i64))))) (⟨.exit 0, [2, 3], (valsCons (valBox celThread) (valsOne (valBox (celAs (celApp (celInt .i64) (celApp (celInt .i64) (celApp celOp (celApp (celLst .entry) (celApp (celOwn 160 .kid) (celApp (celLst .int) (celApp (celInt .i64) (celApp (celInt .i64) (celApp (celInt .i64) (celApp (celInt .i64) (celApp (celInt .i64) (celApp (celInt .i64) (celApp (celInt .i64) (celApp (celInt .i64) (celApp (celInt .i64) (celInt .i64)))))))))))))))) Thread (fun y => ⟨y.1, y.2.1, y.2.2.1, y.2.2.2.1, y.2.2.2.2.1, y.2.2.2.2.2.1, y.2.2.2.2.2.2.1, y.2.2.2.2.2.2.2.1, y.2.2.2.2.2.2.2.2.1, y.2.2.2.2.2.2.2.2.2.1, y.2.2.2.2.2.2.2.2.2.2.1, y.2.2.2.2.2.2.2.2.2.2.2.1, y.2.2.2.2.2.2.2.2.2.2.2.2.1, y.2.2.2.2.2.2.2.2.2.2.2.2.2.1, y.2.2.2.2.2.2.2.2.2.2.2.2.2.2.1, y.2.2.2.2.2.2.2.2.2.2.2.2.2.2.2⟩) (fun x => (x.phase, (x.item, (x.op, (x.batch, (x.kids, (x.held, (x.stop, (x.node, (x.at_, (x.layer, (x.left, (x.width, (x.who, (x.x, (x.y, x.until_)))))))))))))))) (fun _ => rfl)))))⟩ : Way) (whileM T_law16_fiber_3)
set_option maxRecDepth 100000 in
theorem lok61_3 : LoopOK e61 55 l61_3 (fnLoop e61.P 61 3) :=
  loop1_ok (L := assocL []) (rounds := 20) (depth := 6) (ts := [1, 2, 3, 4]) (v := (valsCons (valBox celThread) (valsCons (valBox celThread) (valsCons (valBox (celAs (celApp (celInt .i64) (celApp (celInt .i64) (celApp celOp (celApp (celLst .entry) (celApp (celOwn 160 .kid) (celApp (celLst .int) (celApp (celInt .i64) (celApp (celInt .i64) (celApp (celInt .i64) (celApp (celInt .i64) (celApp (celInt .i64) (celApp (celInt .i64) (celApp (celInt .i64) (celApp (celInt .i64) (celApp (celInt .i64) (celInt .i64)))))))))))))))) Thread (fun y => ⟨y.1, y.2.1, y.2.2.1, y.2.2.2.1, y.2.2.2.2.1, y.2.2.2.2.2.1, y.2.2.2.2.2.2.1, y.2.2.2.2.2.2.2.1, y.2.2.2.2.2.2.2.2.1, y.2.2.2.2.2.2.2.2.2.1, y.2.2.2.2.2.2.2.2.2.2.1, y.2.2.2.2.2.2.2.2.2.2.2.1, y.2.2.2.2.2.2.2.2.2.2.2.2.1, y.2.2.2.2.2.2.2.2.2.2.2.2.2.1, y.2.2.2.2.2.2.2.2.2.2.2.2.2.2.1, y.2.2.2.2.2.2.2.2.2.2.2.2.2.2.2⟩) (fun x => (x.phase, (x.item, (x.op, (x.batch, (x.kids, (x.held, (x.stop, (x.node, (x.at_, (x.layer, (x.left, (x.width, (x.who, (x.x, (x.y, x.until_)))))))))))))))) (fun _ => rfl))) (valsOne (valInt .i64)))))) (a := ⟨.exit 0, [2, 3], (valsCons (valBox celThread) (valsOne (valBox (celAs (celApp (celInt .i64) (celApp (celInt .i64) (celApp celOp (celApp (celLst .entry) (celApp (celOwn 160 .kid) (celApp (celLst .int) (celApp (celInt .i64) (celApp (celInt .i64) (celApp (celInt .i64) (celApp (celInt .i64) (celApp (celInt .i64) (celApp (celInt .i64) (celApp (celInt .i64) (celApp (celInt .i64) (celApp (celInt .i64) (celInt .i64)))))))))))))))) Thread (fun y => ⟨y.1, y.2.1, y.2.2.1, y.2.2.2.1, y.2.2.2.2.1, y.2.2.2.2.2.1, y.2.2.2.2.2.2.1, y.2.2.2.2.2.2.2.1, y.2.2.2.2.2.2.2.2.1, y.2.2.2.2.2.2.2.2.2.1, y.2.2.2.2.2.2.2.2.2.2.1, y.2.2.2.2.2.2.2.2.2.2.2.1, y.2.2.2.2.2.2.2.2.2.2.2.2.1, y.2.2.2.2.2.2.2.2.2.2.2.2.2.1, y.2.2.2.2.2.2.2.2.2.2.2.2.2.2.1, y.2.2.2.2.2.2.2.2.2.2.2.2.2.2.2⟩) (fun x => (x.phase, (x.item, (x.op, (x.batch, (x.kids, (x.held, (x.stop, (x.node, (x.at_, (x.layer, (x.left, (x.width, (x.who, (x.x, (x.y, x.until_)))))))))))))))) (fun _ => rfl)))))⟩) (step := T_law16_fiber_3) g61 rfl loops_inNil (fun x => by kernel_rfl)
noncomputable def s61 : Spec := mkSpec (valsOne (valSt celThread)) (resOne (valSt celThread)) C_law16_fiber
set_option maxRecDepth 100000 in
theorem ok61 : SpecOK Tryz.prog 61 s61 :=
  mkSpec_ok (V := e61) (L := (assocL [(3, l61_3)])) (rounds := 20) (depth := 6) g61 (loops_fn (nt := 55) (by kernel_rfl) (ntB_ok (by kernel_rfl)) (loopsOK_cons lok61_3 loopsOK_nil)) (fun x => by kernel_rfl)

/- millstream/millstreamlaw16.marks -/
noncomputable def e62 : Env := env1 []
theorem g62 : GoodEnv e62 := goodEnv mix1 ent1 goods_nil
noncomputable def l62_3 : LSpec := loop1 [0, 3, 4] (valsCons (valLst .mark) (valsCons (valOwn 162 .mark) (valsOne (valInt .i64)))) (⟨.exit 0, [3], (valsOne (valOwn 162 .mark))⟩ : Way) (whileM T_law16_marks_3)
set_option maxRecDepth 100000 in
theorem lok62_3 : LoopOK e62 42 l62_3 (fnLoop e62.P 62 3) :=
  loop1_ok (L := assocL []) (rounds := 20) (depth := 6) (ts := [0, 3, 4]) (v := (valsCons (valLst .mark) (valsCons (valOwn 162 .mark) (valsOne (valInt .i64))))) (a := ⟨.exit 0, [3], (valsOne (valOwn 162 .mark))⟩) (step := T_law16_marks_3) g62 rfl loops_inNil (fun x => by kernel_rfl)
noncomputable def s62 : Spec := mkSpec (valsOne (valLst .mark)) (resOne (valLst .mark)) C_law16_marks
set_option maxRecDepth 100000 in
theorem ok62 : SpecOK Tryz.prog 62 s62 :=
  mkSpec_ok (V := e62) (L := (assocL [(3, l62_3)])) (rounds := 20) (depth := 6) g62 (loops_fn (nt := 42) (by kernel_rfl) (ntB_ok (by kernel_rfl)) (loopsOK_cons lok62_3 loopsOK_nil)) (fun x => by kernel_rfl)

/- millstream/millstreamlaw16.its -/
noncomputable def e20 : Env := env1 [(60, s60), (61, s61), (62, s62)]
theorem g20 : GoodEnv e20 := goodEnv mix1 ent1 (goods_cons ok60 rfl (goods_cons ok61 rfl (goods_cons ok62 rfl goods_nil)))
noncomputable def s20 : Spec := mkSpec (valsOne (valSt celTurn)) (resOne (valSt celTurn)) C_law16_its
set_option maxRecDepth 100000 in
theorem ok20 : SpecOK Tryz.prog 20 s20 :=
  mkSpec_ok (V := e20) (L := nL) (rounds := 20) (depth := 6) g20 loops_none (fun x => by kernel_rfl)

/- millstream/millstreamref01.sum -/
noncomputable def e69 : Env := env1 []
theorem g69 : GoodEnv e69 := goodEnv mix1 ent1 goods_nil
noncomputable def s69 : Spec := mkSpec (valsCons (valInt .i64) (valsOne (valInt .i64))) (resTup (valsCons (valInt .i64) (valsOne (valBool)))) C_ref01_sum
set_option maxRecDepth 100000 in
theorem ok69 : SpecOK Tryz.prog 69 s69 :=
  mkSpec_ok (V := e69) (L := nL) (rounds := 20) (depth := 6) g69 loops_none (fun x => by kernel_rfl)

/- millstream/millstreamref01.Apply -/
noncomputable def e24 : Env := env1 [(69, s69)]
theorem g24 : GoodEnv e24 := goodEnv mix1 ent1 (goods_cons ok69 rfl goods_nil)
noncomputable def s24 : Spec := mkSpec (valsCons (valSt celOp) (valsCons (valInt .i64) (valsCons (valInt .i64) (valsOne (valInt .i64))))) (resTup (valsCons (valInt .i64) (valsOne (valBool)))) C_ref01_Apply
set_option maxRecDepth 100000 in
theorem ok24 : SpecOK Tryz.prog 24 s24 :=
  mkSpec_ok (V := e24) (L := nL) (rounds := 20) (depth := 6) g24 loops_none (fun x => by kernel_rfl)

/- millstream/wmem.made[int] -/
noncomputable def e118 : Env := env1 []
theorem g118 : GoodEnv e118 := goodEnv mix1 ent1 goods_nil
noncomputable def s118 : Spec := mkSpec (valsOne (valInt .i64)) (resOne (valOwn 3 .int)) C_wmem_made_int
set_option maxRecDepth 100000 in
theorem ok118 : SpecOK Tryz.prog 118 s118 :=
  mkSpec_ok (V := e118) (L := nL) (rounds := 20) (depth := 6) g118 loops_none (fun x => by kernel_rfl)

/- millstream/wmem.made[[]millstream/batch.Entry] -/
noncomputable def e119 : Env := env1 []
theorem g119 : GoodEnv e119 := goodEnv mix1 ent1 goods_nil
noncomputable def s119 : Spec := mkSpec (valsOne (valInt .i64)) (resOne (valOwn 30 (.lst .entry))) C_wmem_made_lbatch_Entry
set_option maxRecDepth 100000 in
theorem ok119 : SpecOK Tryz.prog 119 s119 :=
  mkSpec_ok (V := e119) (L := nL) (rounds := 20) (depth := 6) g119 loops_none (fun x => by kernel_rfl)

/- millstream/wmem.New -/
noncomputable def e70 : Env := env1 [(118, s118), (119, s119)]
theorem g70 : GoodEnv e70 := goodEnv mix1 ent1 (goods_cons ok118 rfl (goods_cons ok119 rfl goods_nil))
noncomputable def s70 : Spec := mkSpec (valsCons (valInt .i64) (valsOne (valInt .i64))) (resOne (valSt (celAs (celApp (celOwn 3 .int) (celOwn 30 (.lst .entry))) Memo (fun y => ⟨y.1, y.2⟩) (fun x => (x.words, x.boxes)) (fun _ => rfl)))) C_wmem_New
set_option maxRecDepth 100000 in
theorem ok70 : SpecOK Tryz.prog 70 s70 :=
  mkSpec_ok (V := e70) (L := nL) (rounds := 20) (depth := 6) g70 loops_none (fun x => by kernel_rfl)

/- millstream/arena.Nodes -/
noncomputable def e148 : Env := env1 []
theorem g148 : GoodEnv e148 := goodEnv mix1 ent1 goods_nil
noncomputable def s148 : Spec := mkSpec (valsOne (valSt celConfig)) (resOne (valInt .i64)) C_arena_Nodes
set_option maxRecDepth 100000 in
theorem ok148 : SpecOK Tryz.prog 148 s148 :=
  mkSpec_ok (V := e148) (L := nL) (rounds := 20) (depth := 6) g148 loops_none (fun x => by kernel_rfl)

/- millstream/arena.of -/
noncomputable def e120 : Env := env1 [(148, s148)]
theorem g120 : GoodEnv e120 := goodEnv mix1 ent1 (goods_cons ok148 rfl goods_nil)
noncomputable def s120 : Spec := mkSpec (valsOne (valSt celConfig)) (resOne (valSt celPlan)) C_arena_of
set_option maxRecDepth 100000 in
theorem ok120 : SpecOK Tryz.prog 120 s120 :=
  mkSpec_ok (V := e120) (L := nL) (rounds := 20) (depth := 6) g120 loops_none (fun x => by kernel_rfl)

/- millstream/arena.Size -/
noncomputable def e71 : Env := env1 [(120, s120)]
theorem g71 : GoodEnv e71 := goodEnv mix1 ent1 (goods_cons ok120 rfl goods_nil)
noncomputable def s71 : Spec := mkSpec (valsOne (valSt celConfig)) (resOne (valInt .i64)) C_arena_Size
set_option maxRecDepth 100000 in
theorem ok71 : SpecOK Tryz.prog 71 s71 :=
  mkSpec_ok (V := e71) (L := nL) (rounds := 20) (depth := 6) g71 loops_none (fun x => by kernel_rfl)

/- millstream/arena.Cell -/
noncomputable def e72 : Env := env1 [(120, s120)]
theorem g72 : GoodEnv e72 := goodEnv mix1 ent1 (goods_cons ok120 rfl goods_nil)
noncomputable def s72 : Spec := mkSpec (valsCons (valSt celConfig) (valsOne (valInt .i64))) (resOne (valInt .i64)) C_arena_Cell
set_option maxRecDepth 100000 in
theorem ok72 : SpecOK Tryz.prog 72 s72 :=
  mkSpec_ok (V := e72) (L := nL) (rounds := 20) (depth := 6) g72 loops_none (fun x => by kernel_rfl)

/- millstream/arena.Build -/
noncomputable def e25 : Env := env1 [(70, s70), (71, s71), (72, s72)]
theorem g25 : GoodEnv e25 := goodEnv mix1 ent1 (goods_cons ok70 rfl (goods_cons ok71 rfl (goods_cons ok72 rfl goods_nil)))
noncomputable def l25_3 : LSpec := loop1 [1, 2, 3, 11, 12] (valsCons (valBox celConfig) (valsCons (valBox celMemo) (valsCons (valBox (celAs (celApp (celOwn 3 .int) (celOwn 30 (.lst .entry))) Memo (fun y => ⟨y.1, y.2⟩) (fun x => (x.words, x.boxes)) (fun _ => rfl))) (valsCons (valInt .i64) (valsOne (valInt .i64)))))) (⟨.exit 0, [2, 3], (valsCons (valBox celMemo) (valsOne (valBox (celAs (celApp (celOwn 3 .int) (celOwn 30 (.lst .entry))) Memo (fun y => ⟨y.1, y.2⟩) (fun x => (x.words, x.boxes)) (fun _ => rfl)))))⟩ : Way) (whileM T_arena_Build_3)
set_option maxRecDepth 100000 in
theorem lok25_3 : LoopOK e25 25 l25_3 (fnLoop e25.P 25 3) :=
  loop1_ok (L := assocL []) (rounds := 20) (depth := 6) (ts := [1, 2, 3, 11, 12]) (v := (valsCons (valBox celConfig) (valsCons (valBox celMemo) (valsCons (valBox (celAs (celApp (celOwn 3 .int) (celOwn 30 (.lst .entry))) Memo (fun y => ⟨y.1, y.2⟩) (fun x => (x.words, x.boxes)) (fun _ => rfl))) (valsCons (valInt .i64) (valsOne (valInt .i64))))))) (a := ⟨.exit 0, [2, 3], (valsCons (valBox celMemo) (valsOne (valBox (celAs (celApp (celOwn 3 .int) (celOwn 30 (.lst .entry))) Memo (fun y => ⟨y.1, y.2⟩) (fun x => (x.words, x.boxes)) (fun _ => rfl)))))⟩) (step := T_arena_Build_3) g25 rfl loops_inNil (fun x => by kernel_rfl)
noncomputable def s25 : Spec := mkSpec (valsOne (valSt celConfig)) (resOne (valSt (celAs (celApp (celOwn 3 .int) (celOwn 30 (.lst .entry))) Memo (fun y => ⟨y.1, y.2⟩) (fun x => (x.words, x.boxes)) (fun _ => rfl)))) C_arena_Build
set_option maxRecDepth 100000 in
theorem ok25 : SpecOK Tryz.prog 25 s25 :=
  mkSpec_ok (V := e25) (L := (assocL [(3, l25_3)])) (rounds := 20) (depth := 6) g25 (loops_fn (nt := 25) (by kernel_rfl) (ntB_ok (by kernel_rfl)) (loopsOK_cons lok25_3 loopsOK_nil)) (fun x => by kernel_rfl)

/- millstream/shape.Leaf -/
noncomputable def e73 : Env := env1 []
theorem g73 : GoodEnv e73 := goodEnv mix1 ent1 goods_nil
noncomputable def s73 : Spec := mkSpec (valsCons (valInt .i64) (valsOne (valInt .i64))) (resOne (valInt .i64)) C_shape_Leaf
set_option maxRecDepth 100000 in
theorem ok73 : SpecOK Tryz.prog 73 s73 :=
  mkSpec_ok (V := e73) (L := nL) (rounds := 20) (depth := 6) g73 loops_none (fun x => by kernel_rfl)

/- millstream/thread.Begin -/
noncomputable def e26 : Env := env1 [(73, s73)]
theorem g26 : GoodEnv e26 := goodEnv mix1 ent1 (goods_cons ok73 rfl goods_nil)
noncomputable def s26 : Spec := mkSpec (valsCons (valSt celConfig) (valsCons (valInt .i64) (valsCons (valSt celThread) (valsCons (valInt .i64) (valsCons (valSt celOp) (valsOne (valInt .i64))))))) (resOne (valSt celThread)) C_thread_Begin
set_option maxRecDepth 100000 in
theorem ok26 : SpecOK Tryz.prog 26 s26 :=
  mkSpec_ok (V := e26) (L := nL) (rounds := 20) (depth := 6) g26 loops_none (fun x => by kernel_rfl)

/- millstream/thread.New -/
noncomputable def e27 : Env := env1 []
theorem g27 : GoodEnv e27 := goodEnv mix1 ent1 goods_nil
noncomputable def s27 : Spec := mkSpec valsNil (resOne (valSt celThread)) C_thread_New
set_option maxRecDepth 100000 in
theorem ok27 : SpecOK Tryz.prog 27 s27 :=
  mkSpec_ok (V := e27) (L := nL) (rounds := 20) (depth := 6) g27 loops_none (fun x => by kernel_rfl)

/- millstream/millstreamlaw16.layered -/
noncomputable def e28 : Env := env1 [(17, s17)]
theorem g28 : GoodEnv e28 := goodEnv mix1 ent1 (goods_cons ok17 rfl goods_nil)
noncomputable def s28 : Spec := mkSpec (valsOne (valSt celTurn)) (resOne (valBool)) C_law16_layered
set_option maxRecDepth 100000 in
theorem ok28 : SpecOK Tryz.prog 28 s28 :=
  mkSpec_ok (V := e28) (L := nL) (rounds := 20) (depth := 6) g28 loops_none (fun x => by kernel_rfl)

/- millstream/millstreamref01.May -/
noncomputable def e31 : Env := env1 []
theorem g31 : GoodEnv e31 := goodEnv mix1 ent1 goods_nil
noncomputable def s31 : Spec := mkSpec (valsCons (valSt celOp) (valsOne (valBool))) (resOne (valBool)) C_ref01_May
set_option maxRecDepth 100000 in
theorem ok31 : SpecOK Tryz.prog 31 s31 :=
  mkSpec_ok (V := e31) (L := nL) (rounds := 20) (depth := 6) g31 loops_none (fun x => by kernel_rfl)

/- millstream/config.Steps -/
noncomputable def e32 : Env := env1 []
theorem g32 : GoodEnv e32 := goodEnv mix1 ent1 goods_nil
noncomputable def s32 : Spec := mkSpec (valsOne (valSt celConfig)) (resOne (valInt .i64)) C_config_Steps
set_option maxRecDepth 100000 in
theorem ok32 : SpecOK Tryz.prog 32 s32 :=
  mkSpec_ok (V := e32) (L := nL) (rounds := 20) (depth := 6) g32 loops_none (fun x => by kernel_rfl)

/- millstream/thread.Busy -/
noncomputable def e33 : Env := env1 []
theorem g33 : GoodEnv e33 := goodEnv mix1 ent1 goods_nil
noncomputable def s33 : Spec := mkSpec (valsOne (valSt celThread)) (resOne (valBool)) C_thread_Busy
set_option maxRecDepth 100000 in
theorem ok33 : SpecOK Tryz.prog 33 s33 :=
  mkSpec_ok (V := e33) (L := nL) (rounds := 20) (depth := 6) g33 loops_none (fun x => by kernel_rfl)

/- millstream/millstreamref06.Cell -/
noncomputable def e35 : Env := env1 [(74, s74)]
theorem g35 : GoodEnv e35 := goodEnv mix1 ent1 (goods_cons ok74 rfl goods_nil)
noncomputable def s35 : Spec := mkSpec (valsCons (valSt celConfig) (valsOne (valInt .i64))) (resOne (valInt .i64)) C_ref06_Cell
set_option maxRecDepth 100000 in
theorem ok35 : SpecOK Tryz.prog 35 s35 :=
  mkSpec_ok (V := e35) (L := nL) (rounds := 20) (depth := 6) g35 loops_none (fun x => by kernel_rfl)

/- millstream/millstreamref06.Node -/
noncomputable def e37 : Env := env1 [(36, s36), (74, s74)]
theorem g37 : GoodEnv e37 := goodEnv mix1 ent1 (goods_cons ok36 rfl (goods_cons ok74 rfl goods_nil))
noncomputable def s37 : Spec := mkSpec (valsCons (valSt celConfig) (valsCons (valInt .i64) (valsOne (valInt .i64)))) (resOne (valInt .i64)) C_ref06_Node
set_option maxRecDepth 100000 in
theorem ok37 : SpecOK Tryz.prog 37 s37 :=
  mkSpec_ok (V := e37) (L := nL) (rounds := 20) (depth := 6) g37 loops_none (fun x => by kernel_rfl)

/- millstream/millstreamref06.Line -/
noncomputable def e38 : Env := env1 [(74, s74)]
theorem g38 : GoodEnv e38 := goodEnv mix1 ent1 (goods_cons ok74 rfl goods_nil)
noncomputable def s38 : Spec := mkSpec (valsCons (valSt celConfig) (valsOne (valInt .i64))) (resOne (valInt .i64)) C_ref06_Line
set_option maxRecDepth 100000 in
theorem ok38 : SpecOK Tryz.prog 38 s38 :=
  mkSpec_ok (V := e38) (L := nL) (rounds := 20) (depth := 6) g38 loops_none (fun x => by kernel_rfl)

/- millstream/millstreamlaw17.long -/
noncomputable def e39 : Env := env1 []
theorem g39 : GoodEnv e39 := goodEnv mix1 ent1 goods_nil
noncomputable def s39 : Spec := mkSpec (valsCons (valLst .sentry) (valsOne (valLst .int))) (resOne (valBool)) C_law17_long
set_option maxRecDepth 100000 in
theorem ok39 : SpecOK Tryz.prog 39 s39 :=
  mkSpec_ok (V := e39) (L := nL) (rounds := 20) (depth := 6) g39 loops_none (fun x => by kernel_rfl)

/- millstream/millstreamref03.New -/
noncomputable def e127 : Env := env1 []
theorem g127 : GoodEnv e127 := goodEnv mix1 ent1 goods_nil
noncomputable def l127_7 : LSpec := loop1 [1, 4, 5, 7] (valsCons (valInt .i64) (valsCons (valBox celMemo) (valsCons (valBox (celAs (celApp (celOwn 3 .int) (celOwn 47 (.lst .entry))) Memo (fun y => ⟨y.1, y.2⟩) (fun x => (x.words, x.boxes)) (fun _ => rfl))) (valsOne (valInt .i64))))) (⟨.exit 2, [4, 5], (valsCons (valBox celMemo) (valsOne (valBox (celAs (celApp (celOwn 3 .int) (celOwn 47 (.lst .entry))) Memo (fun y => ⟨y.1, y.2⟩) (fun x => (x.words, x.boxes)) (fun _ => rfl)))))⟩ : Way) (whileM T_ref03_New_7)
set_option maxRecDepth 100000 in
theorem lok127_7 : LoopOK e127 39 l127_7 (fnLoop e127.P 127 7) :=
  loop1_ok (L := assocL []) (rounds := 20) (depth := 6) (ts := [1, 4, 5, 7]) (v := (valsCons (valInt .i64) (valsCons (valBox celMemo) (valsCons (valBox (celAs (celApp (celOwn 3 .int) (celOwn 47 (.lst .entry))) Memo (fun y => ⟨y.1, y.2⟩) (fun x => (x.words, x.boxes)) (fun _ => rfl))) (valsOne (valInt .i64)))))) (a := ⟨.exit 2, [4, 5], (valsCons (valBox celMemo) (valsOne (valBox (celAs (celApp (celOwn 3 .int) (celOwn 47 (.lst .entry))) Memo (fun y => ⟨y.1, y.2⟩) (fun x => (x.words, x.boxes)) (fun _ => rfl)))))⟩) (step := T_ref03_New_7) g127 rfl loops_inNil (fun x => by kernel_rfl)
noncomputable def l127_3 : LSpec := loop1 [0, 1, 4, 5, 6] (valsCons (valInt .i64) (valsCons (valInt .i64) (valsCons (valBox celMemo) (valsCons (valBox (celAs (celApp (celOwn 3 .int) (celOwn 47 (.lst .entry))) Memo (fun y => ⟨y.1, y.2⟩) (fun x => (x.words, x.boxes)) (fun _ => rfl))) (valsOne (valInt .i64)))))) (⟨.exit 0, [1, 4, 5], (valsCons (valInt .i64) (valsCons (valBox celMemo) (valsOne (valBox (celAs (celApp (celOwn 3 .int) (celOwn 47 (.lst .entry))) Memo (fun y => ⟨y.1, y.2⟩) (fun x => (x.words, x.boxes)) (fun _ => rfl))))))⟩ : Way) (whileM T_ref03_New_3)
set_option maxRecDepth 100000 in
theorem lok127_3 : LoopOK e127 39 l127_3 (fnLoop e127.P 127 3) :=
  loop1_ok (L := assocL []) (rounds := 20) (depth := 6) (ts := [0, 1, 4, 5, 6]) (v := (valsCons (valInt .i64) (valsCons (valInt .i64) (valsCons (valBox celMemo) (valsCons (valBox (celAs (celApp (celOwn 3 .int) (celOwn 47 (.lst .entry))) Memo (fun y => ⟨y.1, y.2⟩) (fun x => (x.words, x.boxes)) (fun _ => rfl))) (valsOne (valInt .i64))))))) (a := ⟨.exit 0, [1, 4, 5], (valsCons (valInt .i64) (valsCons (valBox celMemo) (valsOne (valBox (celAs (celApp (celOwn 3 .int) (celOwn 47 (.lst .entry))) Memo (fun y => ⟨y.1, y.2⟩) (fun x => (x.words, x.boxes)) (fun _ => rfl))))))⟩) (step := T_ref03_New_3) g127 rfl loops_inNil (fun x => by kernel_rfl)
noncomputable def s127 : Spec := mkSpec (valsCons (valInt .i64) (valsOne (valInt .i64))) (resOne (valSt celMemo)) C_ref03_New
set_option maxRecDepth 100000 in
theorem ok127 : SpecOK Tryz.prog 127 s127 :=
  mkSpec_ok (V := e127) (L := (assocL [(7, l127_7), (3, l127_3)])) (rounds := 20) (depth := 6) g127 (loops_fn (nt := 39) (by kernel_rfl) (ntB_ok (by kernel_rfl)) (loopsOK_cons lok127_7 (loopsOK_cons lok127_3 loopsOK_nil))) (fun x => by kernel_rfl)

/- millstream/millstreamref03.Store -/
noncomputable def e128 : Env := env1 []
theorem g128 : GoodEnv e128 := goodEnv mix1 ent1 goods_nil
noncomputable def s128 : Spec := mkSpec (valsCons (valSt celMemo) (valsCons (valInt .i64) (valsOne (valInt .i64)))) (resTup (valsCons (valSt celMemo) (valsOne (valInt .i64)))) C_ref03_Store
set_option maxRecDepth 100000 in
theorem ok128 : SpecOK Tryz.prog 128 s128 :=
  mkSpec_ok (V := e128) (L := nL) (rounds := 20) (depth := 6) g128 loops_none (fun x => by kernel_rfl)

/- millstream/millstreamref06.Build -/
noncomputable def e86 : Env := env1 [(34, s34), (35, s35), (127, s127), (128, s128)]
theorem g86 : GoodEnv e86 := goodEnv mix1 ent1 (goods_cons ok34 rfl (goods_cons ok35 rfl (goods_cons ok127 rfl (goods_cons ok128 rfl goods_nil))))
noncomputable def l86_3 : LSpec := loop1 [1, 2, 3, 4] (valsCons (valBox celConfig) (valsCons (valBox celMemo) (valsCons (valBox celMemo) (valsOne (valInt .i64))))) (⟨.exit 0, [2, 3], (valsCons (valBox celMemo) (valsOne (valBox celMemo)))⟩ : Way) (whileM T_ref06_Build_3)
set_option maxRecDepth 100000 in
theorem lok86_3 : LoopOK e86 27 l86_3 (fnLoop e86.P 86 3) :=
  loop1_ok (L := assocL []) (rounds := 20) (depth := 6) (ts := [1, 2, 3, 4]) (v := (valsCons (valBox celConfig) (valsCons (valBox celMemo) (valsCons (valBox celMemo) (valsOne (valInt .i64)))))) (a := ⟨.exit 0, [2, 3], (valsCons (valBox celMemo) (valsOne (valBox celMemo)))⟩) (step := T_ref06_Build_3) g86 rfl loops_inNil (fun x => by kernel_rfl)
noncomputable def s86 : Spec := mkSpec (valsOne (valSt celConfig)) (resOne (valSt celMemo)) C_ref06_Build
set_option maxRecDepth 100000 in
theorem ok86 : SpecOK Tryz.prog 86 s86 :=
  mkSpec_ok (V := e86) (L := (assocL [(3, l86_3)])) (rounds := 20) (depth := 6) g86 (loops_fn (nt := 27) (by kernel_rfl) (ntB_ok (by kernel_rfl)) (loopsOK_cons lok86_3 loopsOK_nil)) (fun x => by kernel_rfl)

/- millstream/millstreamref10.New -/
noncomputable def e87 : Env := env1 []
theorem g87 : GoodEnv e87 := goodEnv mix1 ent1 goods_nil
noncomputable def s87 : Spec := mkSpec valsNil (resOne (valSt celThread)) C_ref10_New
set_option maxRecDepth 100000 in
theorem ok87 : SpecOK Tryz.prog 87 s87 :=
  mkSpec_ok (V := e87) (L := nL) (rounds := 20) (depth := 6) g87 loops_none (fun x => by kernel_rfl)

/- millstream/millstreamref17.New -/
noncomputable def e51 : Env := env1 [(23, s23), (86, s86), (87, s87)]
theorem g51 : GoodEnv e51 := goodEnv mix1 ent1 (goods_cons ok23 rfl (goods_cons ok86 rfl (goods_cons ok87 rfl goods_nil)))
noncomputable def l51_6 : LSpec := loop1 [2, 4, 7, 8] (valsCons (valBox celConfig) (valsCons (valBox celWld) (valsCons (valBox (celAs (celApp celConfig (celApp celMemo (celApp (celOwn 50 .thread) (celApp (celInt .i64) (celApp (celInt .i64) (celApp celTape (celApp (celLst .mark) (celLst .event)))))))) Wld (fun y => ⟨y.1, y.2.1, y.2.2.1, y.2.2.2.1, y.2.2.2.2.1, y.2.2.2.2.2.1, y.2.2.2.2.2.2.1, y.2.2.2.2.2.2.2⟩) (fun x => (x.c, (x.m, (x.t, (x.now, (x.steps, (x.tape, (x.log, x.hist)))))))) (fun _ => rfl))) (valsOne (valInt .i64))))) (⟨.exit 0, [4, 7], (valsCons (valBox celWld) (valsOne (valBox (celAs (celApp celConfig (celApp celMemo (celApp (celOwn 50 .thread) (celApp (celInt .i64) (celApp (celInt .i64) (celApp celTape (celApp (celLst .mark) (celLst .event)))))))) Wld (fun y => ⟨y.1, y.2.1, y.2.2.1, y.2.2.2.1, y.2.2.2.2.1, y.2.2.2.2.2.1, y.2.2.2.2.2.2.1, y.2.2.2.2.2.2.2⟩) (fun x => (x.c, (x.m, (x.t, (x.now, (x.steps, (x.tape, (x.log, x.hist)))))))) (fun _ => rfl)))))⟩ : Way) (whileM T_ref17_New_6)
set_option maxRecDepth 100000 in
theorem lok51_6 : LoopOK e51 36 l51_6 (fnLoop e51.P 51 6) :=
  loop1_ok (L := assocL []) (rounds := 20) (depth := 6) (ts := [2, 4, 7, 8]) (v := (valsCons (valBox celConfig) (valsCons (valBox celWld) (valsCons (valBox (celAs (celApp celConfig (celApp celMemo (celApp (celOwn 50 .thread) (celApp (celInt .i64) (celApp (celInt .i64) (celApp celTape (celApp (celLst .mark) (celLst .event)))))))) Wld (fun y => ⟨y.1, y.2.1, y.2.2.1, y.2.2.2.1, y.2.2.2.2.1, y.2.2.2.2.2.1, y.2.2.2.2.2.2.1, y.2.2.2.2.2.2.2⟩) (fun x => (x.c, (x.m, (x.t, (x.now, (x.steps, (x.tape, (x.log, x.hist)))))))) (fun _ => rfl))) (valsOne (valInt .i64)))))) (a := ⟨.exit 0, [4, 7], (valsCons (valBox celWld) (valsOne (valBox (celAs (celApp celConfig (celApp celMemo (celApp (celOwn 50 .thread) (celApp (celInt .i64) (celApp (celInt .i64) (celApp celTape (celApp (celLst .mark) (celLst .event)))))))) Wld (fun y => ⟨y.1, y.2.1, y.2.2.1, y.2.2.2.1, y.2.2.2.2.1, y.2.2.2.2.2.1, y.2.2.2.2.2.2.1, y.2.2.2.2.2.2.2⟩) (fun x => (x.c, (x.m, (x.t, (x.now, (x.steps, (x.tape, (x.log, x.hist)))))))) (fun _ => rfl)))))⟩) (step := T_ref17_New_6) g51 rfl loops_inNil (fun x => by kernel_rfl)
noncomputable def s51 : Spec := mkSpec (valsCons (valSt celConfig) (valsOne (valLst .int))) (resTup (valsCons (valSt celWld) (valsOne (valInt .i64)))) C_ref17_New
set_option maxRecDepth 100000 in
theorem ok51 : SpecOK Tryz.prog 51 s51 :=
  mkSpec_ok (V := e51) (L := (assocL [(6, l51_6)])) (rounds := 20) (depth := 6) g51 (loops_fn (nt := 36) (by kernel_rfl) (ntB_ok (by kernel_rfl)) (loopsOK_cons lok51_6 loopsOK_nil)) (fun x => by kernel_rfl)

/- millstream/millstreamref09.Check -/
noncomputable def e54 : Env := env1 [(31, s31)]
theorem g54 : GoodEnv e54 := goodEnv mix1 ent1 (goods_cons ok31 rfl goods_nil)
noncomputable def s54 : Spec := mkSpec (valsCons (valSt celConfig) (valsOne (valSt celSEntry))) (resOne (valInt .i64)) C_ref09_Check
set_option maxRecDepth 100000 in
theorem ok54 : SpecOK Tryz.prog 54 s54 :=
  mkSpec_ok (V := e54) (L := nL) (rounds := 20) (depth := 6) g54 loops_none (fun x => by kernel_rfl)

/- millstream/millstreamref10.Busy -/
noncomputable def e82 : Env := env1 []
theorem g82 : GoodEnv e82 := goodEnv mix1 ent1 goods_nil
noncomputable def s82 : Spec := mkSpec (valsOne (valSt celThread)) (resOne (valBool)) C_ref10_Busy
set_option maxRecDepth 100000 in
theorem ok82 : SpecOK Tryz.prog 82 s82 :=
  mkSpec_ok (V := e82) (L := nL) (rounds := 20) (depth := 6) g82 loops_none (fun x => by kernel_rfl)

/- millstream/millstreamref17.with -/
noncomputable def e90 : Env := env1 []
theorem g90 : GoodEnv e90 := goodEnv mix1 ent1 goods_nil
noncomputable def s90 : Spec := mkSpec (valsCons (valSt celWld) (valsOne (valSt celEvent))) (resOne (valSt celWld)) C_ref17_with
set_option maxRecDepth 100000 in
theorem ok90 : SpecOK Tryz.prog 90 s90 :=
  mkSpec_ok (V := e90) (L := nL) (rounds := 20) (depth := 6) g90 loops_none (fun x => by kernel_rfl)

/- millstream/millstreamref17.turned -/
noncomputable def e91 : Env := env1 []
theorem g91 : GoodEnv e91 := goodEnv mix1 ent1 goods_nil
noncomputable def s91 : Spec := mkSpec (valsCons (valSt celWld) (valsCons (valInt .i64) (valsOne (valSt celThread)))) (resOne (valSt celWld)) C_ref17_turned
set_option maxRecDepth 100000 in
theorem ok91 : SpecOK Tryz.prog 91 s91 :=
  mkSpec_ok (V := e91) (L := nL) (rounds := 20) (depth := 6) g91 loops_none (fun x => by kernel_rfl)

/- millstream/millstreamref07.Leaf -/
noncomputable def e134 : Env := env1 []
theorem g134 : GoodEnv e134 := goodEnv mix1 ent1 goods_nil
noncomputable def l134_5 : LSpec := loop1 [0, 1, 5, 6] (valsCons (valInt .i64) (valsCons (valInt .i64) (valsCons (valInt .i64) (valsOne (valInt .i64))))) (⟨.exit 0, [1, 5], (valsCons (valInt .i64) (valsOne (valInt .i64)))⟩ : Way) (whileM T_ref07_Leaf_5)
set_option maxRecDepth 100000 in
theorem lok134_5 : LoopOK e134 22 l134_5 (fnLoop e134.P 134 5) :=
  loop1_ok (L := assocL []) (rounds := 20) (depth := 6) (ts := [0, 1, 5, 6]) (v := (valsCons (valInt .i64) (valsCons (valInt .i64) (valsCons (valInt .i64) (valsOne (valInt .i64)))))) (a := ⟨.exit 0, [1, 5], (valsCons (valInt .i64) (valsOne (valInt .i64)))⟩) (step := T_ref07_Leaf_5) g134 rfl loops_inNil (fun x => by kernel_rfl)
noncomputable def s134 : Spec := mkSpec (valsCons (valInt .i64) (valsOne (valInt .i64))) (resOne (valInt .i64)) C_ref07_Leaf
set_option maxRecDepth 100000 in
theorem ok134 : SpecOK Tryz.prog 134 s134 :=
  mkSpec_ok (V := e134) (L := (assocL [(5, l134_5)])) (rounds := 20) (depth := 6) g134 (loops_fn (nt := 22) (by kernel_rfl) (ntB_ok (by kernel_rfl)) (loopsOK_cons lok134_5 loopsOK_nil)) (fun x => by kernel_rfl)

/- millstream/millstreamref10.Begin -/
noncomputable def e92 : Env := env1 [(134, s134)]
theorem g92 : GoodEnv e92 := goodEnv mix1 ent1 (goods_cons ok134 rfl goods_nil)
noncomputable def s92 : Spec := mkSpec (valsCons (valSt celConfig) (valsCons (valInt .i64) (valsCons (valSt celThread) (valsCons (valInt .i64) (valsCons (valSt celOp) (valsOne (valInt .i64))))))) (resOne (valSt celThread)) C_ref10_Begin
set_option maxRecDepth 100000 in
theorem ok92 : SpecOK Tryz.prog 92 s92 :=
  mkSpec_ok (V := e92) (L := nL) (rounds := 20) (depth := 6) g92 loops_none (fun x => by kernel_rfl)

/- millstream/millstreamref16.Start -/
noncomputable def e172 : Env := env1 []
theorem g172 : GoodEnv e172 := goodEnv mix1 ent1 goods_nil
noncomputable def s172 : Spec := mkSpec (valsOne (valSt celTurn)) (resOne (valSt celTurn)) C_ref16_Start
set_option maxRecDepth 100000 in
theorem ok172 : SpecOK Tryz.prog 172 s172 :=
  mkSpec_ok (V := e172) (L := nL) (rounds := 20) (depth := 6) g172 loops_none (fun x => by kernel_rfl)

/- millstream/millstreamref03.Load -/
noncomputable def e197 : Env := env1 []
theorem g197 : GoodEnv e197 := goodEnv mix1 ent1 goods_nil
noncomputable def s197 : Spec := mkSpec (valsCons (valSt celMemo) (valsOne (valInt .i64))) (resTup (valsCons (valInt .i64) (valsOne (valInt .i64)))) C_ref03_Load
set_option maxRecDepth 100000 in
theorem ok197 : SpecOK Tryz.prog 197 s197 :=
  mkSpec_ok (V := e197) (L := nL) (rounds := 20) (depth := 6) g197 loops_none (fun x => by kernel_rfl)

/- millstream/millstreamref08.Told -/
noncomputable def e198 : Env := env1 []
theorem g198 : GoodEnv e198 := goodEnv mix1 ent1 goods_nil
noncomputable def s198 : Spec := mkSpec valsNil (resOne (valInt .i64)) C_ref08_Told
set_option maxRecDepth 100000 in
theorem ok198 : SpecOK Tryz.prog 198 s198 :=
  mkSpec_ok (V := e198) (L := nL) (rounds := 20) (depth := 6) g198 loops_none (fun x => by kernel_rfl)

/- millstream/millstreamref06.Result -/
noncomputable def e199 : Env := env1 [(74, s74)]
theorem g199 : GoodEnv e199 := goodEnv mix1 ent1 (goods_cons ok74 rfl goods_nil)
noncomputable def s199 : Spec := mkSpec (valsCons (valSt celConfig) (valsOne (valInt .i64))) (resOne (valInt .i64)) C_ref06_Result
set_option maxRecDepth 100000 in
theorem ok199 : SpecOK Tryz.prog 199 s199 :=
  mkSpec_ok (V := e199) (L := nL) (rounds := 20) (depth := 6) g199 loops_none (fun x => by kernel_rfl)

/- millstream/millstreamref11.Settle -/
noncomputable def e200 : Env := env1 []
theorem g200 : GoodEnv e200 := goodEnv mix1 ent1 goods_nil
noncomputable def s200 : Spec := mkSpec (valsOne (valSt celTurn)) (resOne (valSt celTurn)) C_ref11_Settle
set_option maxRecDepth 100000 in
theorem ok200 : SpecOK Tryz.prog 200 s200 :=
  mkSpec_ok (V := e200) (L := nL) (rounds := 20) (depth := 6) g200 loops_none (fun x => by kernel_rfl)

/- millstream/millstreamref02.All -/
noncomputable def e202 : Env := env1 [(24, s24)]
theorem g202 : GoodEnv e202 := goodEnv mix1 ent1 (goods_cons ok24 rfl goods_nil)
noncomputable def l202_2 : LSpec := loop1 [0, 1, 2, 3, 9] (valsCons (valLst .entry) (valsCons (valInt .i64) (valsCons (valInt .i64) (valsCons (valInt .i64) (valsOne (valInt .i64)))))) (⟨.exit 0, [1], (valsOne (valInt .i64))⟩ : Way) (whileM T_ref02_All_2)
set_option maxRecDepth 100000 in
theorem lok202_2 : LoopOK e202 29 l202_2 (fnLoop e202.P 202 2) :=
  loop1_ok (L := assocL []) (rounds := 20) (depth := 6) (ts := [0, 1, 2, 3, 9]) (v := (valsCons (valLst .entry) (valsCons (valInt .i64) (valsCons (valInt .i64) (valsCons (valInt .i64) (valsOne (valInt .i64))))))) (a := ⟨.exit 0, [1], (valsOne (valInt .i64))⟩) (step := T_ref02_All_2) g202 rfl loops_inNil (fun x => by kernel_rfl)
noncomputable def s202 : Spec := mkSpec (valsCons (valLst .entry) (valsCons (valInt .i64) (valsCons (valInt .i64) (valsOne (valInt .i64))))) (resOne (valInt .i64)) C_ref02_All
set_option maxRecDepth 100000 in
theorem ok202 : SpecOK Tryz.prog 202 s202 :=
  mkSpec_ok (V := e202) (L := (assocL [(2, l202_2)])) (rounds := 20) (depth := 6) g202 (loops_fn (nt := 29) (by kernel_rfl) (ntB_ok (by kernel_rfl)) (loopsOK_cons lok202_2 loopsOK_nil)) (fun x => by kernel_rfl)

/- millstream/millstreamref02.Upto -/
noncomputable def e236 : Env := env1 []
theorem g236 : GoodEnv e236 := goodEnv mix1 ent1 goods_nil
noncomputable def l236_3 : LSpec := loop1 [0, 1, 5, 6] (valsCons (valLst .entry) (valsCons (valInt .i64) (valsCons (valOwn 137 .entry) (valsOne (valInt .i64))))) (⟨.exit 0, [5], (valsOne (valOwn 137 .entry))⟩ : Way) (whileM T_ref02_Upto_3)
set_option maxRecDepth 100000 in
theorem lok236_3 : LoopOK e236 27 l236_3 (fnLoop e236.P 236 3) :=
  loop1_ok (L := assocL []) (rounds := 20) (depth := 6) (ts := [0, 1, 5, 6]) (v := (valsCons (valLst .entry) (valsCons (valInt .i64) (valsCons (valOwn 137 .entry) (valsOne (valInt .i64)))))) (a := ⟨.exit 0, [5], (valsOne (valOwn 137 .entry))⟩) (step := T_ref02_Upto_3) g236 rfl loops_inNil (fun x => by kernel_rfl)
noncomputable def s236 : Spec := mkSpec (valsCons (valLst .entry) (valsOne (valInt .i64))) (resOne (valLst .entry)) C_ref02_Upto
set_option maxRecDepth 100000 in
theorem ok236 : SpecOK Tryz.prog 236 s236 :=
  mkSpec_ok (V := e236) (L := (assocL [(3, l236_3)])) (rounds := 20) (depth := 6) g236 (loops_fn (nt := 27) (by kernel_rfl) (ntB_ok (by kernel_rfl)) (loopsOK_cons lok236_3 loopsOK_nil)) (fun x => by kernel_rfl)

/- millstream/millstreamref11.told -/
noncomputable def e201 : Env := env1 [(38, s38), (128, s128), (198, s198), (199, s199), (200, s200), (202, s202), (236, s236)]
theorem g201 : GoodEnv e201 := goodEnv mix1 ent1 (goods_cons ok38 rfl (goods_cons ok128 rfl (goods_cons ok198 rfl (goods_cons ok199 rfl (goods_cons ok200 rfl (goods_cons ok202 rfl (goods_cons ok236 rfl goods_nil)))))))
noncomputable def s201 : Spec := mkSpec (valsOne (valSt celTurn)) (resOne (valSt celTurn)) C_ref11_told
set_option maxRecDepth 100000 in
theorem ok201 : SpecOK Tryz.prog 201 s201 :=
  mkSpec_ok (V := e201) (L := nL) (rounds := 20) (depth := 6) g201 loops_none (fun x => by kernel_rfl)

/- millstream/millstreamref11.Step -/
noncomputable def e173 : Env := env1 [(38, s38), (197, s197), (198, s198), (199, s199), (200, s200), (201, s201)]
theorem g173 : GoodEnv e173 := goodEnv mix1 ent1 (goods_cons ok38 rfl (goods_cons ok197 rfl (goods_cons ok198 rfl (goods_cons ok199 rfl (goods_cons ok200 rfl (goods_cons ok201 rfl goods_nil))))))
noncomputable def s173 : Spec := mkSpec (valsOne (valSt celTurn)) (resTup (valsCons (valSt celTurn) (valsOne (valBool)))) C_ref11_Step
set_option maxRecDepth 100000 in
theorem ok173 : SpecOK Tryz.prog 173 s173 :=
  mkSpec_ok (V := e173) (L := nL) (rounds := 20) (depth := 6) g173 loops_none (fun x => by kernel_rfl)

/- millstream/millstreamref02.Priors -/
noncomputable def e237 : Env := env1 [(202, s202), (236, s236)]
theorem g237 : GoodEnv e237 := goodEnv mix1 ent1 (goods_cons ok202 rfl (goods_cons ok236 rfl goods_nil))
noncomputable def l237_3 : LSpec := loop1 [0, 1, 2, 3, 9, 10] (valsCons (valLst .entry) (valsCons (valInt .i64) (valsCons (valInt .i64) (valsCons (valInt .i64) (valsCons (valOwn 3 .int) (valsOne (valInt .i64))))))) (⟨.exit 0, [9], (valsOne (valOwn 3 .int))⟩ : Way) (whileM T_ref02_Priors_3)
set_option maxRecDepth 100000 in
theorem lok237_3 : LoopOK e237 29 l237_3 (fnLoop e237.P 237 3) :=
  loop1_ok (L := assocL []) (rounds := 20) (depth := 6) (ts := [0, 1, 2, 3, 9, 10]) (v := (valsCons (valLst .entry) (valsCons (valInt .i64) (valsCons (valInt .i64) (valsCons (valInt .i64) (valsCons (valOwn 3 .int) (valsOne (valInt .i64)))))))) (a := ⟨.exit 0, [9], (valsOne (valOwn 3 .int))⟩) (step := T_ref02_Priors_3) g237 rfl loops_inNil (fun x => by kernel_rfl)
noncomputable def s237 : Spec := mkSpec (valsCons (valLst .entry) (valsCons (valInt .i64) (valsCons (valInt .i64) (valsOne (valInt .i64))))) (resOne (valLst .int)) C_ref02_Priors
set_option maxRecDepth 100000 in
theorem ok237 : SpecOK Tryz.prog 237 s237 :=
  mkSpec_ok (V := e237) (L := (assocL [(3, l237_3)])) (rounds := 20) (depth := 6) g237 (loops_fn (nt := 29) (by kernel_rfl) (ntB_ok (by kernel_rfl)) (loopsOK_cons lok237_3 loopsOK_nil)) (fun x => by kernel_rfl)

/- millstream/millstreamref12.commit -/
noncomputable def e203 : Env := env1 [(200, s200), (237, s237)]
theorem g203 : GoodEnv e203 := goodEnv mix1 ent1 (goods_cons ok200 rfl (goods_cons ok237 rfl goods_nil))
noncomputable def l203_4 : LSpec := loop1 [1, 2, 4, 5, 6, 7] (valsCons (valInt .i64) (valsCons (valBox celTurn) (valsCons (valBox celTurn) (valsCons (valLst .int) (valsCons (valOwn 162 .mark) (valsOne (valInt .i64))))))) (⟨.exit 0, [1, 2, 4, 6], (valsCons (valInt .i64) (valsCons (valBox celTurn) (valsCons (valBox celTurn) (valsOne (valOwn 162 .mark)))))⟩ : Way) (whileM T_ref12_commit_4)
set_option maxRecDepth 100000 in
theorem lok203_4 : LoopOK e203 65 l203_4 (fnLoop e203.P 203 4) :=
  loop1_ok (L := assocL []) (rounds := 20) (depth := 6) (ts := [1, 2, 4, 5, 6, 7]) (v := (valsCons (valInt .i64) (valsCons (valBox celTurn) (valsCons (valBox celTurn) (valsCons (valLst .int) (valsCons (valOwn 162 .mark) (valsOne (valInt .i64)))))))) (a := ⟨.exit 0, [1, 2, 4, 6], (valsCons (valInt .i64) (valsCons (valBox celTurn) (valsCons (valBox celTurn) (valsOne (valOwn 162 .mark)))))⟩) (step := T_ref12_commit_4) g203 rfl loops_inNil (fun x => by kernel_rfl)
noncomputable def s203 : Spec := mkSpec (valsCons (valSt celTurn) (valsOne (valInt .i64))) (resOne (valSt celTurn)) C_ref12_commit
set_option maxRecDepth 100000 in
theorem ok203 : SpecOK Tryz.prog 203 s203 :=
  mkSpec_ok (V := e203) (L := (assocL [(4, l203_4)])) (rounds := 20) (depth := 6) g203 (loops_fn (nt := 65) (by kernel_rfl) (ntB_ok (by kernel_rfl)) (loopsOK_cons lok203_4 loopsOK_nil)) (fun x => by kernel_rfl)

/- millstream/millstreamref10.Late -/
noncomputable def e208 : Env := env1 []
theorem g208 : GoodEnv e208 := goodEnv mix1 ent1 goods_nil
noncomputable def s208 : Spec := mkSpec (valsOne (valSt celTurn)) (resOne (valBool)) C_ref10_Late
set_option maxRecDepth 100000 in
theorem ok208 : SpecOK Tryz.prog 208 s208 :=
  mkSpec_ok (V := e208) (L := nL) (rounds := 20) (depth := 6) g208 loops_none (fun x => by kernel_rfl)

/- millstream/millstreamref12.Onward -/
noncomputable def e204 : Env := env1 [(208, s208)]
theorem g204 : GoodEnv e204 := goodEnv mix1 ent1 (goods_cons ok208 rfl goods_nil)
noncomputable def s204 : Spec := mkSpec (valsOne (valSt celTurn)) (resOne (valSt celTurn)) C_ref12_Onward
set_option maxRecDepth 100000 in
theorem ok204 : SpecOK Tryz.prog 204 s204 :=
  mkSpec_ok (V := e204) (L := nL) (rounds := 20) (depth := 6) g204 loops_none (fun x => by kernel_rfl)

/- millstream/millstreamref03.Cas -/
noncomputable def e205 : Env := env1 [(128, s128), (197, s197)]
theorem g205 : GoodEnv e205 := goodEnv mix1 ent1 (goods_cons ok128 rfl (goods_cons ok197 rfl goods_nil))
noncomputable def s205 : Spec := mkSpec (valsCons (valSt celMemo) (valsCons (valInt .i64) (valsCons (valInt .i64) (valsOne (valInt .i64))))) (resTup (valsCons (valSt celMemo) (valsCons (valBool) (valsOne (valInt .i64))))) C_ref03_Cas
set_option maxRecDepth 100000 in
theorem ok205 : SpecOK Tryz.prog 205 s205 :=
  mkSpec_ok (V := e205) (L := nL) (rounds := 20) (depth := 6) g205 loops_none (fun x => by kernel_rfl)

/- millstream/millstreamref12.wider -/
noncomputable def e206 : Env := env1 []
theorem g206 : GoodEnv e206 := goodEnv mix1 ent1 goods_nil
noncomputable def s206 : Spec := mkSpec (valsCons (valInt .i64) (valsOne (valInt .i64))) (resOne (valInt .i64)) C_ref12_wider
set_option maxRecDepth 100000 in
theorem ok206 : SpecOK Tryz.prog 206 s206 :=
  mkSpec_ok (V := e206) (L := nL) (rounds := 20) (depth := 6) g206 loops_none (fun x => by kernel_rfl)

/- millstream/millstreamref12.Step -/
noncomputable def e174 : Env := env1 [(35, s35), (197, s197), (202, s202), (203, s203), (204, s204), (205, s205), (206, s206)]
theorem g174 : GoodEnv e174 := goodEnv mix1 ent1 (goods_cons ok35 rfl (goods_cons ok197 rfl (goods_cons ok202 rfl (goods_cons ok203 rfl (goods_cons ok204 rfl (goods_cons ok205 rfl (goods_cons ok206 rfl goods_nil)))))))
noncomputable def s174 : Spec := mkSpec (valsOne (valSt celTurn)) (resTup (valsCons (valSt celTurn) (valsOne (valBool)))) C_ref12_Step
set_option maxRecDepth 100000 in
theorem ok174 : SpecOK Tryz.prog 174 s174 :=
  mkSpec_ok (V := e174) (L := nL) (rounds := 20) (depth := 6) g174 loops_none (fun x => by kernel_rfl)

/- millstream/millstreamref08.First -/
noncomputable def e210 : Env := env1 []
theorem g210 : GoodEnv e210 := goodEnv mix1 ent1 goods_nil
noncomputable def s210 : Spec := mkSpec (valsOne (valInt .i64)) (resOne (valInt .i64)) C_ref08_First
set_option maxRecDepth 100000 in
theorem ok210 : SpecOK Tryz.prog 210 s210 :=
  mkSpec_ok (V := e210) (L := nL) (rounds := 20) (depth := 6) g210 loops_none (fun x => by kernel_rfl)

/- millstream/millstreamref08.Joined -/
noncomputable def e212 : Env := env1 []
theorem g212 : GoodEnv e212 := goodEnv mix1 ent1 goods_nil
noncomputable def s212 : Spec := mkSpec (valsOne (valInt .i64)) (resOne (valInt .i64)) C_ref08_Joined
set_option maxRecDepth 100000 in
theorem ok212 : SpecOK Tryz.prog 212 s212 :=
  mkSpec_ok (V := e212) (L := nL) (rounds := 20) (depth := 6) g212 loops_none (fun x => by kernel_rfl)

/- millstream/millstreamref08.Deposited -/
noncomputable def e219 : Env := env1 []
theorem g219 : GoodEnv e219 := goodEnv mix1 ent1 goods_nil
noncomputable def s219 : Spec := mkSpec (valsOne (valInt .i64)) (resOne (valInt .i64)) C_ref08_Deposited
set_option maxRecDepth 100000 in
theorem ok219 : SpecOK Tryz.prog 219 s219 :=
  mkSpec_ok (V := e219) (L := nL) (rounds := 20) (depth := 6) g219 loops_none (fun x => by kernel_rfl)

/- millstream/millstreamref08.Open -/
noncomputable def e238 : Env := env1 []
theorem g238 : GoodEnv e238 := goodEnv mix1 ent1 goods_nil
noncomputable def s238 : Spec := mkSpec (valsCons (valInt .i64) (valsOne (valInt .i64))) (resOne (valInt .i64)) C_ref08_Open
set_option maxRecDepth 100000 in
theorem ok238 : SpecOK Tryz.prog 238 s238 :=
  mkSpec_ok (V := e238) (L := nL) (rounds := 20) (depth := 6) g238 loops_none (fun x => by kernel_rfl)

/- millstream/millstreamref08.Kind -/
noncomputable def e207 : Env := env1 [(198, s198), (210, s210), (212, s212), (219, s219), (238, s238)]
theorem g207 : GoodEnv e207 := goodEnv mix1 ent1 (goods_cons ok198 rfl (goods_cons ok210 rfl (goods_cons ok212 rfl (goods_cons ok219 rfl (goods_cons ok238 rfl goods_nil)))))
noncomputable def l207_18 : LSpec := loop2 [0, 4, 5] (valsCons (valInt .i64) (valsCons (valInt .i64) (valsOne (valInt .i64)))) (⟨.exit 4, [0, 4], (valsCons (valInt .i64) (valsOne (valInt .i64)))⟩ : Way) (⟨.ret, [2], (valsOne (valInt .i64))⟩ : Way) (whileM T_ref08_Kind_18)
set_option maxRecDepth 100000 in
theorem lok207_18 : LoopOK e207 40 l207_18 (fnLoop e207.P 207 18) :=
  loop2_ok (L := assocL []) (rounds := 20) (depth := 6) (ts := [0, 4, 5]) (v := (valsCons (valInt .i64) (valsCons (valInt .i64) (valsOne (valInt .i64))))) (a := ⟨.exit 4, [0, 4], (valsCons (valInt .i64) (valsOne (valInt .i64)))⟩) (b := ⟨.ret, [2], (valsOne (valInt .i64))⟩) (step := T_ref08_Kind_18) g207 rfl rfl loops_inNil (fun x => by kernel_rfl)
noncomputable def l207_15 : LSpec := loop2 [0, 4] (valsCons (valInt .i64) (valsOne (valInt .i64))) (⟨.exit 2, [], valsNil⟩ : Way) (⟨.ret, [2], (valsOne (valInt .i64))⟩ : Way) (whileM T_ref08_Kind_15)
set_option maxRecDepth 100000 in
theorem lok207_15 : LoopOK e207 40 l207_15 (fnLoop e207.P 207 15) :=
  loop2_ok (L := assocL [(18, l207_18)]) (rounds := 20) (depth := 6) (ts := [0, 4]) (v := (valsCons (valInt .i64) (valsOne (valInt .i64)))) (a := ⟨.exit 2, [], valsNil⟩) (b := ⟨.ret, [2], (valsOne (valInt .i64))⟩) (step := T_ref08_Kind_15) g207 rfl rfl (loops_in (by kernel_rfl) (loopsOK_cons lok207_18 loopsOK_nil)) (fun x => by kernel_rfl)
noncomputable def l207_6 : LSpec := loop2 [0, 3] (valsCons (valInt .i64) (valsOne (valInt .i64))) (⟨.exit 0, [0], (valsOne (valInt .i64))⟩ : Way) (⟨.ret, [2], (valsOne (valInt .i64))⟩ : Way) (whileM T_ref08_Kind_6)
set_option maxRecDepth 100000 in
theorem lok207_6 : LoopOK e207 40 l207_6 (fnLoop e207.P 207 6) :=
  loop2_ok (L := assocL []) (rounds := 20) (depth := 6) (ts := [0, 3]) (v := (valsCons (valInt .i64) (valsOne (valInt .i64)))) (a := ⟨.exit 0, [0], (valsOne (valInt .i64))⟩) (b := ⟨.ret, [2], (valsOne (valInt .i64))⟩) (step := T_ref08_Kind_6) g207 rfl rfl loops_inNil (fun x => by kernel_rfl)
noncomputable def s207 : Spec := mkSpec (valsOne (valInt .i64)) (resOne (valInt .i64)) C_ref08_Kind
set_option maxRecDepth 100000 in
theorem ok207 : SpecOK Tryz.prog 207 s207 :=
  mkSpec_ok (V := e207) (L := (assocL [(18, l207_18), (15, l207_15), (6, l207_6)])) (rounds := 20) (depth := 6) g207 (loops_fn (nt := 40) (by kernel_rfl) (ntB_ok (by kernel_rfl)) (loopsOK_cons lok207_18 (loopsOK_cons lok207_15 (loopsOK_cons lok207_6 loopsOK_nil)))) (fun x => by kernel_rfl)

/- millstream/millstreamref13.Down -/
noncomputable def e239 : Env := env1 []
theorem g239 : GoodEnv e239 := goodEnv mix1 ent1 goods_nil
noncomputable def s239 : Spec := mkSpec (valsOne (valSt celTurn)) (resOne (valSt celTurn)) C_ref13_Down
set_option maxRecDepth 100000 in
theorem ok239 : SpecOK Tryz.prog 239 s239 :=
  mkSpec_ok (V := e239) (L := nL) (rounds := 20) (depth := 6) g239 loops_none (fun x => by kernel_rfl)

/- millstream/millstreamref13.over -/
noncomputable def e209 : Env := env1 [(239, s239)]
theorem g209 : GoodEnv e209 := goodEnv mix1 ent1 (goods_cons ok239 rfl goods_nil)
noncomputable def s209 : Spec := mkSpec (valsOne (valSt celTurn)) (resOne (valSt celTurn)) C_ref13_over
set_option maxRecDepth 100000 in
theorem ok209 : SpecOK Tryz.prog 209 s209 :=
  mkSpec_ok (V := e209) (L := nL) (rounds := 20) (depth := 6) g209 loops_none (fun x => by kernel_rfl)

/- millstream/millstreamref07.Parent -/
noncomputable def e211 : Env := env1 []
theorem g211 : GoodEnv e211 := goodEnv mix1 ent1 goods_nil
noncomputable def s211 : Spec := mkSpec (valsOne (valInt .i64)) (resOne (valInt .i64)) C_ref07_Parent
set_option maxRecDepth 100000 in
theorem ok211 : SpecOK Tryz.prog 211 s211 :=
  mkSpec_ok (V := e211) (L := nL) (rounds := 20) (depth := 6) g211 loops_none (fun x => by kernel_rfl)

/- millstream/millstreamref13.Step -/
noncomputable def e175 : Env := env1 [(37, s37), (197, s197), (205, s205), (207, s207), (208, s208), (209, s209), (210, s210), (211, s211), (212, s212)]
theorem g175 : GoodEnv e175 := goodEnv mix1 ent1 (goods_cons ok37 rfl (goods_cons ok197 rfl (goods_cons ok205 rfl (goods_cons ok207 rfl (goods_cons ok208 rfl (goods_cons ok209 rfl (goods_cons ok210 rfl (goods_cons ok211 rfl (goods_cons ok212 rfl goods_nil)))))))))
noncomputable def s175 : Spec := mkSpec (valsOne (valSt celTurn)) (resTup (valsCons (valSt celTurn) (valsOne (valBool)))) C_ref13_Step
set_option maxRecDepth 100000 in
theorem ok175 : SpecOK Tryz.prog 175 s175 :=
  mkSpec_ok (V := e175) (L := nL) (rounds := 20) (depth := 6) g175 loops_none (fun x => by kernel_rfl)

/- millstream/millstreamref14.held -/
noncomputable def e213 : Env := env1 [(37, s37)]
theorem g213 : GoodEnv e213 := goodEnv mix1 ent1 (goods_cons ok37 rfl goods_nil)
noncomputable def s213 : Spec := mkSpec (valsOne (valSt celTurn)) (resOne (valInt .i64)) C_ref14_held
set_option maxRecDepth 100000 in
theorem ok213 : SpecOK Tryz.prog 213 s213 :=
  mkSpec_ok (V := e213) (L := nL) (rounds := 20) (depth := 6) g213 loops_none (fun x => by kernel_rfl)

/- millstream/millstreamref08.Who -/
noncomputable def e214 : Env := env1 [(207, s207)]
theorem g214 : GoodEnv e214 := goodEnv mix1 ent1 (goods_cons ok207 rfl goods_nil)
noncomputable def s214 : Spec := mkSpec (valsOne (valInt .i64)) (resOne (valInt .i64)) C_ref08_Who
set_option maxRecDepth 100000 in
theorem ok214 : SpecOK Tryz.prog 214 s214 :=
  mkSpec_ok (V := e214) (L := nL) (rounds := 20) (depth := 6) g214 loops_none (fun x => by kernel_rfl)

/- millstream/millstreamref14.next -/
noncomputable def e215 : Env := env1 [(239, s239)]
theorem g215 : GoodEnv e215 := goodEnv mix1 ent1 (goods_cons ok239 rfl goods_nil)
noncomputable def s215 : Spec := mkSpec (valsOne (valSt celTurn)) (resOne (valSt celTurn)) C_ref14_next
set_option maxRecDepth 100000 in
theorem ok215 : SpecOK Tryz.prog 215 s215 :=
  mkSpec_ok (V := e215) (L := nL) (rounds := 20) (depth := 6) g215 loops_none (fun x => by kernel_rfl)

/- millstream/millstreamref03.Box -/
noncomputable def e216 : Env := env1 []
theorem g216 : GoodEnv e216 := goodEnv mix1 ent1 goods_nil
noncomputable def s216 : Spec := mkSpec (valsCons (valSt celMemo) (valsOne (valInt .i64))) (resTup (valsCons (valLst .entry) (valsOne (valInt .i64)))) C_ref03_Box
set_option maxRecDepth 100000 in
theorem ok216 : SpecOK Tryz.prog 216 s216 :=
  mkSpec_ok (V := e216) (L := nL) (rounds := 20) (depth := 6) g216 loops_none (fun x => by kernel_rfl)

/- millstream/millstreamref02.Join -/
noncomputable def e240 : Env := env1 []
theorem g240 : GoodEnv e240 := goodEnv mix1 ent1 goods_nil
noncomputable def l240_3 : LSpec := loop1 [0, 3, 4] (valsCons (valLst (.lst .entry)) (valsCons (valOwn 137 .entry) (valsOne (valInt .i64)))) (⟨.exit 0, [3], (valsOne (valOwn 137 .entry))⟩ : Way) (whileM T_ref02_Join_3)
set_option maxRecDepth 100000 in
theorem lok240_3 : LoopOK e240 19 l240_3 (fnLoop e240.P 240 3) :=
  loop1_ok (L := assocL []) (rounds := 20) (depth := 6) (ts := [0, 3, 4]) (v := (valsCons (valLst (.lst .entry)) (valsCons (valOwn 137 .entry) (valsOne (valInt .i64))))) (a := ⟨.exit 0, [3], (valsOne (valOwn 137 .entry))⟩) (step := T_ref02_Join_3) g240 rfl loops_inNil (fun x => by kernel_rfl)
noncomputable def s240 : Spec := mkSpec (valsOne (valLst (.lst .entry))) (resOne (valLst .entry)) C_ref02_Join
set_option maxRecDepth 100000 in
theorem ok240 : SpecOK Tryz.prog 240 s240 :=
  mkSpec_ok (V := e240) (L := (assocL [(3, l240_3)])) (rounds := 20) (depth := 6) g240 (loops_fn (nt := 19) (by kernel_rfl) (ntB_ok (by kernel_rfl)) (loopsOK_cons lok240_3 loopsOK_nil)) (fun x => by kernel_rfl)

/- millstream/millstreamref14.Take -/
noncomputable def e217 : Env := env1 [(240, s240)]
theorem g217 : GoodEnv e217 := goodEnv mix1 ent1 (goods_cons ok240 rfl goods_nil)
noncomputable def s217 : Spec := mkSpec (valsCons (valSt celTurn) (valsCons (valInt .i64) (valsOne (valLst .entry)))) (resOne (valSt celTurn)) C_ref14_Take
set_option maxRecDepth 100000 in
theorem ok217 : SpecOK Tryz.prog 217 s217 :=
  mkSpec_ok (V := e217) (L := nL) (rounds := 20) (depth := 6) g217 loops_none (fun x => by kernel_rfl)

/- millstream/millstreamref03.Put -/
noncomputable def e218 : Env := env1 []
theorem g218 : GoodEnv e218 := goodEnv mix1 ent1 goods_nil
noncomputable def s218 : Spec := mkSpec (valsCons (valSt celMemo) (valsCons (valInt .i64) (valsOne (valLst .entry)))) (resTup (valsCons (valSt celMemo) (valsOne (valInt .i64)))) C_ref03_Put
set_option maxRecDepth 100000 in
theorem ok218 : SpecOK Tryz.prog 218 s218 :=
  mkSpec_ok (V := e218) (L := nL) (rounds := 20) (depth := 6) g218 loops_none (fun x => by kernel_rfl)

/- millstream/millstreamref14.Step -/
noncomputable def e176 : Env := env1 [(37, s37), (128, s128), (197, s197), (205, s205), (207, s207), (210, s210), (213, s213), (214, s214), (215, s215), (216, s216), (217, s217), (218, s218), (219, s219)]
theorem g176 : GoodEnv e176 := goodEnv mix1 ent1 (goods_cons ok37 rfl (goods_cons ok128 rfl (goods_cons ok197 rfl (goods_cons ok205 rfl (goods_cons ok207 rfl (goods_cons ok210 rfl (goods_cons ok213 rfl (goods_cons ok214 rfl (goods_cons ok215 rfl (goods_cons ok216 rfl (goods_cons ok217 rfl (goods_cons ok218 rfl (goods_cons ok219 rfl goods_nil)))))))))))))
noncomputable def s176 : Spec := mkSpec (valsOne (valSt celTurn)) (resTup (valsCons (valSt celTurn) (valsOne (valBool)))) C_ref14_Step
set_option maxRecDepth 100000 in
theorem ok176 : SpecOK Tryz.prog 176 s176 :=
  mkSpec_ok (V := e176) (L := nL) (rounds := 20) (depth := 6) g176 loops_none (fun x => by kernel_rfl)

/- millstream/millstreamref15.stored -/
noncomputable def e220 : Env := env1 [(38, s38), (128, s128), (238, s238)]
theorem g220 : GoodEnv e220 := goodEnv mix1 ent1 (goods_cons ok38 rfl (goods_cons ok128 rfl (goods_cons ok238 rfl goods_nil)))
noncomputable def s220 : Spec := mkSpec (valsCons (valSt celTurn) (valsOne (valInt .i64))) (resOne (valSt celTurn)) C_ref15_stored
set_option maxRecDepth 100000 in
theorem ok220 : SpecOK Tryz.prog 220 s220 :=
  mkSpec_ok (V := e220) (L := nL) (rounds := 20) (depth := 6) g220 loops_none (fun x => by kernel_rfl)

/- millstream/millstreamref04.Next -/
noncomputable def e247 : Env := env1 []
theorem g247 : GoodEnv e247 := goodEnv mix1 ent1 goods_nil
noncomputable def s247 : Spec := mkSpec (valsOne (valSt celTape)) (resTup (valsCons (valInt .i64) (valsOne (valSt celTape)))) C_ref04_Next
set_option maxRecDepth 100000 in
theorem ok247 : SpecOK Tryz.prog 247 s247 :=
  mkSpec_ok (V := e247) (L := nL) (rounds := 20) (depth := 6) g247 loops_none (fun x => by kernel_rfl)

/- millstream/millstreamref04.Below -/
noncomputable def e241 : Env := env1 [(247, s247)]
theorem g241 : GoodEnv e241 := goodEnv mix1 ent1 (goods_cons ok247 rfl goods_nil)
noncomputable def s241 : Spec := mkSpec (valsCons (valSt celTape) (valsOne (valInt .i64))) (resTup (valsCons (valInt .i64) (valsOne (valSt celTape)))) C_ref04_Below
set_option maxRecDepth 100000 in
theorem ok241 : SpecOK Tryz.prog 241 s241 :=
  mkSpec_ok (V := e241) (L := nL) (rounds := 20) (depth := 6) g241 loops_none (fun x => by kernel_rfl)

/- millstream/millstreamref03.Swap -/
noncomputable def e242 : Env := env1 [(128, s128), (197, s197)]
theorem g242 : GoodEnv e242 := goodEnv mix1 ent1 (goods_cons ok128 rfl (goods_cons ok197 rfl goods_nil))
noncomputable def s242 : Spec := mkSpec (valsCons (valSt celMemo) (valsCons (valInt .i64) (valsOne (valInt .i64)))) (resTup (valsCons (valSt celMemo) (valsCons (valInt .i64) (valsOne (valInt .i64))))) C_ref03_Swap
set_option maxRecDepth 100000 in
theorem ok242 : SpecOK Tryz.prog 242 s242 :=
  mkSpec_ok (V := e242) (L := nL) (rounds := 20) (depth := 6) g242 loops_none (fun x => by kernel_rfl)

/- millstream/millstreamref06.Slot -/
noncomputable def e243 : Env := env1 [(36, s36), (74, s74)]
theorem g243 : GoodEnv e243 := goodEnv mix1 ent1 (goods_cons ok36 rfl (goods_cons ok74 rfl goods_nil))
noncomputable def s243 : Spec := mkSpec (valsCons (valSt celConfig) (valsCons (valInt .i64) (valsCons (valInt .i64) (valsOne (valInt .i64))))) (resOne (valInt .i64)) C_ref06_Slot
set_option maxRecDepth 100000 in
theorem ok243 : SpecOK Tryz.prog 243 s243 :=
  mkSpec_ok (V := e243) (L := nL) (rounds := 20) (depth := 6) g243 loops_none (fun x => by kernel_rfl)

/- millstream/millstreamref15.swap -/
noncomputable def e221 : Env := env1 [(241, s241), (242, s242), (243, s243)]
theorem g221 : GoodEnv e221 := goodEnv mix1 ent1 (goods_cons ok241 rfl (goods_cons ok242 rfl (goods_cons ok243 rfl goods_nil)))
noncomputable def s221 : Spec := mkSpec (valsOne (valSt celTurn)) (resOne (valSt celTurn)) C_ref15_swap
set_option maxRecDepth 100000 in
theorem ok221 : SpecOK Tryz.prog 221 s221 :=
  mkSpec_ok (V := e221) (L := nL) (rounds := 20) (depth := 6) g221 loops_none (fun x => by kernel_rfl)

/- millstream/millstreamref15.compared -/
noncomputable def e222 : Env := env1 [(38, s38), (205, s205), (238, s238)]
theorem g222 : GoodEnv e222 := goodEnv mix1 ent1 (goods_cons ok38 rfl (goods_cons ok205 rfl (goods_cons ok238 rfl goods_nil)))
noncomputable def s222 : Spec := mkSpec (valsCons (valSt celTurn) (valsCons (valInt .i64) (valsCons (valInt .i64) (valsOne (valInt .i64))))) (resOne (valSt celTurn)) C_ref15_compared
set_option maxRecDepth 100000 in
theorem ok222 : SpecOK Tryz.prog 222 s222 :=
  mkSpec_ok (V := e222) (L := nL) (rounds := 20) (depth := 6) g222 loops_none (fun x => by kernel_rfl)

/- millstream/millstreamref15.spin -/
noncomputable def e223 : Env := env1 [(38, s38), (197, s197), (208, s208), (238, s238)]
theorem g223 : GoodEnv e223 := goodEnv mix1 ent1 (goods_cons ok38 rfl (goods_cons ok197 rfl (goods_cons ok208 rfl (goods_cons ok238 rfl goods_nil))))
noncomputable def s223 : Spec := mkSpec (valsOne (valSt celTurn)) (resOne (valSt celTurn)) C_ref15_spin
set_option maxRecDepth 100000 in
theorem ok223 : SpecOK Tryz.prog 223 s223 :=
  mkSpec_ok (V := e223) (L := nL) (rounds := 20) (depth := 6) g223 loops_none (fun x => by kernel_rfl)

/- millstream/millstreamref15.half -/
noncomputable def e224 : Env := env1 []
theorem g224 : GoodEnv e224 := goodEnv mix1 ent1 goods_nil
noncomputable def s224 : Spec := mkSpec (valsOne (valInt .i64)) (resOne (valInt .i64)) C_ref15_half
set_option maxRecDepth 100000 in
theorem ok224 : SpecOK Tryz.prog 224 s224 :=
  mkSpec_ok (V := e224) (L := nL) (rounds := 20) (depth := 6) g224 loops_none (fun x => by kernel_rfl)

/- millstream/millstreamref15.Step -/
noncomputable def e177 : Env := env1 [(204, s204), (216, s216), (217, s217), (218, s218), (220, s220), (221, s221), (222, s222), (223, s223), (224, s224)]
theorem g177 : GoodEnv e177 := goodEnv mix1 ent1 (goods_cons ok204 rfl (goods_cons ok216 rfl (goods_cons ok217 rfl (goods_cons ok218 rfl (goods_cons ok220 rfl (goods_cons ok221 rfl (goods_cons ok222 rfl (goods_cons ok223 rfl (goods_cons ok224 rfl goods_nil)))))))))
noncomputable def s177 : Spec := mkSpec (valsOne (valSt celTurn)) (resTup (valsCons (valSt celTurn) (valsOne (valBool)))) C_ref15_Step
set_option maxRecDepth 100000 in
theorem ok177 : SpecOK Tryz.prog 177 s177 :=
  mkSpec_ok (V := e177) (L := nL) (rounds := 20) (depth := 6) g177 loops_none (fun x => by kernel_rfl)

/- millstream/millstreamref16.Step -/
noncomputable def e135 : Env := env1 [(38, s38), (128, s128), (172, s172), (173, s173), (174, s174), (175, s175), (176, s176), (177, s177)]
theorem g135 : GoodEnv e135 := goodEnv mix1 ent1 (goods_cons ok38 rfl (goods_cons ok128 rfl (goods_cons ok172 rfl (goods_cons ok173 rfl (goods_cons ok174 rfl (goods_cons ok175 rfl (goods_cons ok176 rfl (goods_cons ok177 rfl goods_nil))))))))
noncomputable def s135 : Spec := mkSpec (valsOne (valSt celTurn)) (resOne (valSt celTurn)) C_ref16_Step
set_option maxRecDepth 100000 in
theorem ok135 : SpecOK Tryz.prog 135 s135 :=
  mkSpec_ok (V := e135) (L := nL) (rounds := 20) (depth := 6) g135 loops_none (fun x => by kernel_rfl)

/- millstream/millstreamref17.pick -/
noncomputable def e93 : Env := env1 [(24, s24), (90, s90), (91, s91), (135, s135)]
theorem g93 : GoodEnv e93 := goodEnv mix1 ent1 (goods_cons ok24 rfl (goods_cons ok90 rfl (goods_cons ok91 rfl (goods_cons ok135 rfl goods_nil))))
noncomputable def l93_8 : LSpec := loop1 [1, 2, 4, 5, 6, 7] (valsCons (valInt .i64) (valsCons (valBox celWld) (valsCons (valBox celWld) (valsCons (valBox celTurn) (valsCons (valOwn 162 .mark) (valsOne (valInt .i64))))))) (⟨.exit 0, [1, 2, 4, 5, 6], (valsCons (valInt .i64) (valsCons (valBox celWld) (valsCons (valBox celWld) (valsCons (valBox celTurn) (valsOne (valOwn 162 .mark))))))⟩ : Way) (whileM T_ref17_pick_8)
set_option maxRecDepth 100000 in
theorem lok93_8 : LoopOK e93 101 l93_8 (fnLoop e93.P 93 8) :=
  loop1_ok (L := assocL []) (rounds := 20) (depth := 6) (ts := [1, 2, 4, 5, 6, 7]) (v := (valsCons (valInt .i64) (valsCons (valBox celWld) (valsCons (valBox celWld) (valsCons (valBox celTurn) (valsCons (valOwn 162 .mark) (valsOne (valInt .i64)))))))) (a := ⟨.exit 0, [1, 2, 4, 5, 6], (valsCons (valInt .i64) (valsCons (valBox celWld) (valsCons (valBox celWld) (valsCons (valBox celTurn) (valsOne (valOwn 162 .mark))))))⟩) (step := T_ref17_pick_8) g93 rfl loops_inNil (fun x => by kernel_rfl)
noncomputable def s93 : Spec := mkSpec (valsCons (valSt celWld) (valsOne (valInt .i64))) (resOne (valSt celWld)) C_ref17_pick
set_option maxRecDepth 100000 in
theorem ok93 : SpecOK Tryz.prog 93 s93 :=
  mkSpec_ok (V := e93) (L := (assocL [(8, l93_8)])) (rounds := 20) (depth := 6) g93 (loops_fn (nt := 101) (by kernel_rfl) (ntB_ok (by kernel_rfl)) (loopsOK_cons lok93_8 loopsOK_nil)) (fun x => by kernel_rfl)

/- millstream/millstreamref17.Step -/
noncomputable def e53 : Env := env1 [(54, s54), (82, s82), (90, s90), (91, s91), (92, s92), (93, s93)]
theorem g53 : GoodEnv e53 := goodEnv mix1 ent1 (goods_cons ok54 rfl (goods_cons ok82 rfl (goods_cons ok90 rfl (goods_cons ok91 rfl (goods_cons ok92 rfl (goods_cons ok93 rfl goods_nil))))))
noncomputable def s53 : Spec := mkSpec (valsCons (valSt celWld) (valsOne (valSt celSEntry))) (resTup (valsCons (valSt celWld) (valsOne (valInt .i64)))) C_ref17_Step
set_option maxRecDepth 100000 in
theorem ok53 : SpecOK Tryz.prog 53 s53 :=
  mkSpec_ok (V := e53) (L := nL) (rounds := 20) (depth := 6) g53 loops_none (fun x => by kernel_rfl)

/- millstream/millstreamref09.All -/
noncomputable def e77 : Env := env1 [(23, s23), (54, s54)]
theorem g77 : GoodEnv e77 := goodEnv mix1 ent1 (goods_cons ok23 rfl (goods_cons ok54 rfl goods_nil))
noncomputable def l77_7 : LSpec := loop2 [1, 2, 7] (valsCons (valLst .sentry) (valsCons (valBox celConfig) (valsOne (valInt .i64)))) (⟨.exit 0, [], valsNil⟩ : Way) (⟨.ret, [4, 5], (valsCons (valInt .i64) (valsOne (valInt .i64)))⟩ : Way) (whileM T_ref09_All_7)
set_option maxRecDepth 100000 in
theorem lok77_7 : LoopOK e77 33 l77_7 (fnLoop e77.P 77 7) :=
  loop2_ok (L := assocL []) (rounds := 20) (depth := 6) (ts := [1, 2, 7]) (v := (valsCons (valLst .sentry) (valsCons (valBox celConfig) (valsOne (valInt .i64))))) (a := ⟨.exit 0, [], valsNil⟩) (b := ⟨.ret, [4, 5], (valsCons (valInt .i64) (valsOne (valInt .i64)))⟩) (step := T_ref09_All_7) g77 rfl rfl loops_inNil (fun x => by kernel_rfl)
noncomputable def s77 : Spec := mkSpec (valsCons (valSt celConfig) (valsOne (valLst .sentry))) (resTup (valsCons (valInt .i64) (valsOne (valInt .i64)))) C_ref09_All
set_option maxRecDepth 100000 in
theorem ok77 : SpecOK Tryz.prog 77 s77 :=
  mkSpec_ok (V := e77) (L := (assocL [(7, l77_7)])) (rounds := 20) (depth := 6) g77 (loops_fn (nt := 33) (by kernel_rfl) (ntB_ok (by kernel_rfl)) (loopsOK_cons lok77_7 loopsOK_nil)) (fun x => by kernel_rfl)

/- millstream/millstreamref17.Run -/
noncomputable def e42 : Env := env1 [(51, s51), (53, s53), (77, s77)]
theorem g42 : GoodEnv e42 := goodEnv mix1 ent1 (goods_cons ok51 rfl (goods_cons ok53 rfl (goods_cons ok77 rfl goods_nil)))
noncomputable def l42_6 : LSpec := loop1 [1, 6, 11, 13] (valsCons (valLst .sentry) (valsCons (valBox celWld) (valsCons (valBox celWld) (valsOne (valInt .i64))))) (⟨.exit 0, [6, 11], (valsCons (valBox celWld) (valsOne (valBox celWld)))⟩ : Way) (whileM T_ref17_Run_6)
set_option maxRecDepth 100000 in
theorem lok42_6 : LoopOK e42 47 l42_6 (fnLoop e42.P 42 6) :=
  loop1_ok (L := assocL []) (rounds := 20) (depth := 6) (ts := [1, 6, 11, 13]) (v := (valsCons (valLst .sentry) (valsCons (valBox celWld) (valsCons (valBox celWld) (valsOne (valInt .i64)))))) (a := ⟨.exit 0, [6, 11], (valsCons (valBox celWld) (valsOne (valBox celWld)))⟩) (step := T_ref17_Run_6) g42 rfl loops_inNil (fun x => by kernel_rfl)
noncomputable def s42 : Spec := mkSpec (valsCons (valSt celConfig) (valsCons (valLst .sentry) (valsOne (valLst .int)))) (resTup (valsCons (valSt celWld) (valsCons (valInt .i64) (valsOne (valInt .i64))))) C_ref17_Run
set_option maxRecDepth 100000 in
theorem ok42 : SpecOK Tryz.prog 42 s42 :=
  mkSpec_ok (V := e42) (L := (assocL [(6, l42_6)])) (rounds := 20) (depth := 6) g42 (loops_fn (nt := 47) (by kernel_rfl) (ntB_ok (by kernel_rfl)) (loopsOK_cons lok42_6 loopsOK_nil)) (fun x => by kernel_rfl)

/- millstream/millstreamlaw17.lines -/
noncomputable def e43 : Env := env1 []
theorem g43 : GoodEnv e43 := goodEnv mix1 ent1 goods_nil
noncomputable def l43_3 : LSpec := loop1 [0, 3, 4] (valsCons (valLst .sentry) (valsCons (valOwn 112 .sentry) (valsOne (valInt .i64)))) (⟨.exit 0, [3], (valsOne (valOwn 112 .sentry))⟩ : Way) (whileM T_law17_lines_3)
set_option maxRecDepth 100000 in
theorem lok43_3 : LoopOK e43 37 l43_3 (fnLoop e43.P 43 3) :=
  loop1_ok (L := assocL []) (rounds := 20) (depth := 6) (ts := [0, 3, 4]) (v := (valsCons (valLst .sentry) (valsCons (valOwn 112 .sentry) (valsOne (valInt .i64))))) (a := ⟨.exit 0, [3], (valsOne (valOwn 112 .sentry))⟩) (step := T_law17_lines_3) g43 rfl loops_inNil (fun x => by kernel_rfl)
noncomputable def s43 : Spec := mkSpec (valsOne (valLst .sentry)) (resOne (valLst .sentry)) C_law17_lines
set_option maxRecDepth 100000 in
theorem ok43 : SpecOK Tryz.prog 43 s43 :=
  mkSpec_ok (V := e43) (L := (assocL [(3, l43_3)])) (rounds := 20) (depth := 6) g43 (loops_fn (nt := 37) (by kernel_rfl) (ntB_ok (by kernel_rfl)) (loopsOK_cons lok43_3 loopsOK_nil)) (fun x => by kernel_rfl)

/- millstream/millstreamref17.Events -/
noncomputable def e78 : Env := env1 []
theorem g78 : GoodEnv e78 := goodEnv mix1 ent1 goods_nil
noncomputable def l78_4 : LSpec := loop2 [0, 1, 5] (valsCons (valLst .event) (valsCons (valLst .event) (valsOne (valInt .i64)))) (⟨.exit 0, [], valsNil⟩ : Way) (⟨.ret, [4], (valsOne (valBool))⟩ : Way) (whileM T_ref17_Events_4)
set_option maxRecDepth 100000 in
theorem lok78_4 : LoopOK e78 26 l78_4 (fnLoop e78.P 78 4) :=
  loop2_ok (L := assocL []) (rounds := 20) (depth := 6) (ts := [0, 1, 5]) (v := (valsCons (valLst .event) (valsCons (valLst .event) (valsOne (valInt .i64))))) (a := ⟨.exit 0, [], valsNil⟩) (b := ⟨.ret, [4], (valsOne (valBool))⟩) (step := T_ref17_Events_4) g78 rfl rfl loops_inNil (fun x => by kernel_rfl)
noncomputable def s78 : Spec := mkSpec (valsCons (valLst .event) (valsOne (valLst .event))) (resOne (valBool)) C_ref17_Events
set_option maxRecDepth 100000 in
theorem ok78 : SpecOK Tryz.prog 78 s78 :=
  mkSpec_ok (V := e78) (L := (assocL [(4, l78_4)])) (rounds := 20) (depth := 6) g78 (loops_fn (nt := 26) (by kernel_rfl) (ntB_ok (by kernel_rfl)) (loopsOK_cons lok78_4 loopsOK_nil)) (fun x => by kernel_rfl)

/- millstream/millstreamref17.Same -/
noncomputable def e44 : Env := env1 [(56, s56), (57, s57), (58, s58), (59, s59), (78, s78)]
theorem g44 : GoodEnv e44 := goodEnv mix1 ent1 (goods_cons ok56 rfl (goods_cons ok57 rfl (goods_cons ok58 rfl (goods_cons ok59 rfl (goods_cons ok78 rfl goods_nil)))))
noncomputable def l44_4 : LSpec := loop2 [2, 3, 5] (valsCons (valBox celWld) (valsCons (valBox celWld) (valsOne (valInt .i64)))) (⟨.exit 0, [], valsNil⟩ : Way) (⟨.ret, [4], (valsOne (valBool))⟩ : Way) (whileM T_ref17_Same_4)
set_option maxRecDepth 100000 in
theorem lok44_4 : LoopOK e44 85 l44_4 (fnLoop e44.P 44 4) :=
  loop2_ok (L := assocL []) (rounds := 20) (depth := 6) (ts := [2, 3, 5]) (v := (valsCons (valBox celWld) (valsCons (valBox celWld) (valsOne (valInt .i64))))) (a := ⟨.exit 0, [], valsNil⟩) (b := ⟨.ret, [4], (valsOne (valBool))⟩) (step := T_ref17_Same_4) g44 rfl rfl loops_inNil (fun x => by kernel_rfl)
noncomputable def s44 : Spec := mkSpec (valsCons (valSt celWld) (valsOne (valSt celWld))) (resOne (valBool)) C_ref17_Same
set_option maxRecDepth 100000 in
theorem ok44 : SpecOK Tryz.prog 44 s44 :=
  mkSpec_ok (V := e44) (L := (assocL [(4, l44_4)])) (rounds := 20) (depth := 6) g44 (loops_fn (nt := 85) (by kernel_rfl) (ntB_ok (by kernel_rfl)) (loopsOK_cons lok44_4 loopsOK_nil)) (fun x => by kernel_rfl)

/- millstream/millstreamlaw17.entries -/
noncomputable def e125 : Env := env1 []
theorem g125 : GoodEnv e125 := goodEnv mix1 ent1 goods_nil
noncomputable def l125_3 : LSpec := loop1 [0, 3, 4] (valsCons (valLst .entry) (valsCons (valOwn 137 .entry) (valsOne (valInt .i64)))) (⟨.exit 0, [3], (valsOne (valOwn 137 .entry))⟩ : Way) (whileM T_law17_entries_3)
set_option maxRecDepth 100000 in
theorem lok125_3 : LoopOK e125 27 l125_3 (fnLoop e125.P 125 3) :=
  loop1_ok (L := assocL []) (rounds := 20) (depth := 6) (ts := [0, 3, 4]) (v := (valsCons (valLst .entry) (valsCons (valOwn 137 .entry) (valsOne (valInt .i64))))) (a := ⟨.exit 0, [3], (valsOne (valOwn 137 .entry))⟩) (step := T_law17_entries_3) g125 rfl loops_inNil (fun x => by kernel_rfl)
noncomputable def s125 : Spec := mkSpec (valsOne (valLst .entry)) (resOne (valOwn 137 .entry)) C_law17_entries
set_option maxRecDepth 100000 in
theorem ok125 : SpecOK Tryz.prog 125 s125 :=
  mkSpec_ok (V := e125) (L := (assocL [(3, l125_3)])) (rounds := 20) (depth := 6) g125 (loops_fn (nt := 27) (by kernel_rfl) (ntB_ok (by kernel_rfl)) (loopsOK_cons lok125_3 loopsOK_nil)) (fun x => by kernel_rfl)

/- millstream/millstreamlaw17.memory -/
noncomputable def e79 : Env := env1 [(125, s125)]
theorem g79 : GoodEnv e79 := goodEnv mix1 ent1 (goods_cons ok125 rfl goods_nil)
noncomputable def l79_3 : LSpec := loop1 [1, 2, 3, 4] (valsCons (valBox celMemo) (valsCons (valBox celMemo) (valsCons (valBox (celAs (celApp (celLst .int) (celOwn 47 (.lst .entry))) Memo (fun y => ⟨y.1, y.2⟩) (fun x => (x.words, x.boxes)) (fun _ => rfl))) (valsOne (valInt .i64))))) (⟨.exit 0, [2, 3], (valsCons (valBox celMemo) (valsOne (valBox (celAs (celApp (celLst .int) (celOwn 47 (.lst .entry))) Memo (fun y => ⟨y.1, y.2⟩) (fun x => (x.words, x.boxes)) (fun _ => rfl)))))⟩ : Way) (whileM T_law17_memory_3)
set_option maxRecDepth 100000 in
theorem lok79_3 : LoopOK e79 27 l79_3 (fnLoop e79.P 79 3) :=
  loop1_ok (L := assocL []) (rounds := 20) (depth := 6) (ts := [1, 2, 3, 4]) (v := (valsCons (valBox celMemo) (valsCons (valBox celMemo) (valsCons (valBox (celAs (celApp (celLst .int) (celOwn 47 (.lst .entry))) Memo (fun y => ⟨y.1, y.2⟩) (fun x => (x.words, x.boxes)) (fun _ => rfl))) (valsOne (valInt .i64)))))) (a := ⟨.exit 0, [2, 3], (valsCons (valBox celMemo) (valsOne (valBox (celAs (celApp (celLst .int) (celOwn 47 (.lst .entry))) Memo (fun y => ⟨y.1, y.2⟩) (fun x => (x.words, x.boxes)) (fun _ => rfl)))))⟩) (step := T_law17_memory_3) g79 rfl loops_inNil (fun x => by kernel_rfl)
noncomputable def s79 : Spec := mkSpec (valsOne (valSt celMemo)) (resOne (valSt celMemo)) C_law17_memory
set_option maxRecDepth 100000 in
theorem ok79 : SpecOK Tryz.prog 79 s79 :=
  mkSpec_ok (V := e79) (L := (assocL [(3, l79_3)])) (rounds := 20) (depth := 6) g79 (loops_fn (nt := 27) (by kernel_rfl) (ntB_ok (by kernel_rfl)) (loopsOK_cons lok79_3 loopsOK_nil)) (fun x => by kernel_rfl)

/- millstream/millstreamlaw17.marks -/
noncomputable def e80 : Env := env1 []
theorem g80 : GoodEnv e80 := goodEnv mix1 ent1 goods_nil
noncomputable def l80_3 : LSpec := loop1 [0, 3, 4] (valsCons (valLst .mark) (valsCons (valOwn 162 .mark) (valsOne (valInt .i64)))) (⟨.exit 0, [3], (valsOne (valOwn 162 .mark))⟩ : Way) (whileM T_law17_marks_3)
set_option maxRecDepth 100000 in
theorem lok80_3 : LoopOK e80 42 l80_3 (fnLoop e80.P 80 3) :=
  loop1_ok (L := assocL []) (rounds := 20) (depth := 6) (ts := [0, 3, 4]) (v := (valsCons (valLst .mark) (valsCons (valOwn 162 .mark) (valsOne (valInt .i64))))) (a := ⟨.exit 0, [3], (valsOne (valOwn 162 .mark))⟩) (step := T_law17_marks_3) g80 rfl loops_inNil (fun x => by kernel_rfl)
noncomputable def s80 : Spec := mkSpec (valsOne (valLst .mark)) (resOne (valLst .mark)) C_law17_marks
set_option maxRecDepth 100000 in
theorem ok80 : SpecOK Tryz.prog 80 s80 :=
  mkSpec_ok (V := e80) (L := (assocL [(3, l80_3)])) (rounds := 20) (depth := 6) g80 (loops_fn (nt := 42) (by kernel_rfl) (ntB_ok (by kernel_rfl)) (loopsOK_cons lok80_3 loopsOK_nil)) (fun x => by kernel_rfl)

/- millstream/millstreamlaw17.fiber -/
noncomputable def e81 : Env := env1 [(125, s125)]
theorem g81 : GoodEnv e81 := goodEnv mix1 ent1 (goods_cons ok125 rfl goods_nil)
noncomputable def l81_3 : LSpec := loop1 [1, 2, 3, 4] (valsCons (valBox celThread) (valsCons (valBox celThread) (valsCons (valBox (celAs (celApp (celInt .i64) (celApp (celInt .i64) (celApp celOp (celApp (celLst .entry) (celApp (celOwn 160 .kid) (celApp (celLst .int) (celApp (celInt .i64) (celApp (celInt .i64) (celApp (celInt .i64) (celApp (celInt .i64) (celApp (celInt .i64) (celApp (celInt .i64) (celApp (celInt .i64) (celApp (celInt .i64) (celApp (celInt .i64) (celInt .i64)))))))))))))))) Thread (fun y => ⟨y.1, y.2.1, y.2.2.1, y.2.2.2.1, y.2.2.2.2.1, y.2.2.2.2.2.1, y.2.2.2.2.2.2.1, y.2.2.2.2.2.2.2.1, y.2.2.2.2.2.2.2.2.1, y.2.2.2.2.2.2.2.2.2.1, y.2.2.2.2.2.2.2.2.2.2.1, y.2.2.2.2.2.2.2.2.2.2.2.1, y.2.2.2.2.2.2.2.2.2.2.2.2.1, y.2.2.2.2.2.2.2.2.2.2.2.2.2.1, y.2.2.2.2.2.2.2.2.2.2.2.2.2.2.1, y.2.2.2.2.2.2.2.2.2.2.2.2.2.2.2⟩) (fun x => (x.phase, (x.item, (x.op, (x.batch, (x.kids, (x.held, (x.stop, (x.node, (x.at_, (x.layer, (x.left, (x.width, (x.who, (x.x, (x.y, x.until_)))))))))))))))) (fun _ => rfl))) (valsOne (valInt .i64))))) (⟨.exit 0, [2, 3], (valsCons (valBox celThread) (valsOne (valBox (celAs (celApp (celInt .i64) (celApp (celInt .i64) (celApp celOp (celApp (celLst .entry) (celApp (celOwn 160 .kid) (celApp (celLst .int) (celApp (celInt .i64) (celApp (celInt .i64) (celApp (celInt .i64) (celApp (celInt .i64) (celApp (celInt .i64) (celApp (celInt .i64) (celApp (celInt .i64) (celApp (celInt .i64) (celApp (celInt .i64) (celInt .i64)))))))))))))))) Thread (fun y => ⟨y.1, y.2.1, y.2.2.1, y.2.2.2.1, y.2.2.2.2.1, y.2.2.2.2.2.1, y.2.2.2.2.2.2.1, y.2.2.2.2.2.2.2.1, y.2.2.2.2.2.2.2.2.1, y.2.2.2.2.2.2.2.2.2.1, y.2.2.2.2.2.2.2.2.2.2.1, y.2.2.2.2.2.2.2.2.2.2.2.1, y.2.2.2.2.2.2.2.2.2.2.2.2.1, y.2.2.2.2.2.2.2.2.2.2.2.2.2.1, y.2.2.2.2.2.2.2.2.2.2.2.2.2.2.1, y.2.2.2.2.2.2.2.2.2.2.2.2.2.2.2⟩) (fun x => (x.phase, (x.item, (x.op, (x.batch, (x.kids, (x.held, (x.stop, (x.node, (x.at_, (x.layer, (x.left, (x.width, (x.who, (x.x, (x.y, x.until_)))))))))))))))) (fun _ => rfl)))))⟩ : Way) (whileM T_law17_fiber_3)
set_option maxRecDepth 100000 in
theorem lok81_3 : LoopOK e81 55 l81_3 (fnLoop e81.P 81 3) :=
  loop1_ok (L := assocL []) (rounds := 20) (depth := 6) (ts := [1, 2, 3, 4]) (v := (valsCons (valBox celThread) (valsCons (valBox celThread) (valsCons (valBox (celAs (celApp (celInt .i64) (celApp (celInt .i64) (celApp celOp (celApp (celLst .entry) (celApp (celOwn 160 .kid) (celApp (celLst .int) (celApp (celInt .i64) (celApp (celInt .i64) (celApp (celInt .i64) (celApp (celInt .i64) (celApp (celInt .i64) (celApp (celInt .i64) (celApp (celInt .i64) (celApp (celInt .i64) (celApp (celInt .i64) (celInt .i64)))))))))))))))) Thread (fun y => ⟨y.1, y.2.1, y.2.2.1, y.2.2.2.1, y.2.2.2.2.1, y.2.2.2.2.2.1, y.2.2.2.2.2.2.1, y.2.2.2.2.2.2.2.1, y.2.2.2.2.2.2.2.2.1, y.2.2.2.2.2.2.2.2.2.1, y.2.2.2.2.2.2.2.2.2.2.1, y.2.2.2.2.2.2.2.2.2.2.2.1, y.2.2.2.2.2.2.2.2.2.2.2.2.1, y.2.2.2.2.2.2.2.2.2.2.2.2.2.1, y.2.2.2.2.2.2.2.2.2.2.2.2.2.2.1, y.2.2.2.2.2.2.2.2.2.2.2.2.2.2.2⟩) (fun x => (x.phase, (x.item, (x.op, (x.batch, (x.kids, (x.held, (x.stop, (x.node, (x.at_, (x.layer, (x.left, (x.width, (x.who, (x.x, (x.y, x.until_)))))))))))))))) (fun _ => rfl))) (valsOne (valInt .i64)))))) (a := ⟨.exit 0, [2, 3], (valsCons (valBox celThread) (valsOne (valBox (celAs (celApp (celInt .i64) (celApp (celInt .i64) (celApp celOp (celApp (celLst .entry) (celApp (celOwn 160 .kid) (celApp (celLst .int) (celApp (celInt .i64) (celApp (celInt .i64) (celApp (celInt .i64) (celApp (celInt .i64) (celApp (celInt .i64) (celApp (celInt .i64) (celApp (celInt .i64) (celApp (celInt .i64) (celApp (celInt .i64) (celInt .i64)))))))))))))))) Thread (fun y => ⟨y.1, y.2.1, y.2.2.1, y.2.2.2.1, y.2.2.2.2.1, y.2.2.2.2.2.1, y.2.2.2.2.2.2.1, y.2.2.2.2.2.2.2.1, y.2.2.2.2.2.2.2.2.1, y.2.2.2.2.2.2.2.2.2.1, y.2.2.2.2.2.2.2.2.2.2.1, y.2.2.2.2.2.2.2.2.2.2.2.1, y.2.2.2.2.2.2.2.2.2.2.2.2.1, y.2.2.2.2.2.2.2.2.2.2.2.2.2.1, y.2.2.2.2.2.2.2.2.2.2.2.2.2.2.1, y.2.2.2.2.2.2.2.2.2.2.2.2.2.2.2⟩) (fun x => (x.phase, (x.item, (x.op, (x.batch, (x.kids, (x.held, (x.stop, (x.node, (x.at_, (x.layer, (x.left, (x.width, (x.who, (x.x, (x.y, x.until_)))))))))))))))) (fun _ => rfl)))))⟩) (step := T_law17_fiber_3) g81 rfl loops_inNil (fun x => by kernel_rfl)
noncomputable def s81 : Spec := mkSpec (valsOne (valSt celThread)) (resOne (valSt celThread)) C_law17_fiber
set_option maxRecDepth 100000 in
theorem ok81 : SpecOK Tryz.prog 81 s81 :=
  mkSpec_ok (V := e81) (L := (assocL [(3, l81_3)])) (rounds := 20) (depth := 6) g81 (loops_fn (nt := 55) (by kernel_rfl) (ntB_ok (by kernel_rfl)) (loopsOK_cons lok81_3 loopsOK_nil)) (fun x => by kernel_rfl)

/- millstream/millstreamlaw17.theirs -/
noncomputable def e45 : Env := env1 [(79, s79), (80, s80), (81, s81)]
theorem g45 : GoodEnv e45 := goodEnv mix1 ent1 (goods_cons ok79 rfl (goods_cons ok80 rfl (goods_cons ok81 rfl goods_nil)))
noncomputable def l45_7 : LSpec := loop1 [1, 2, 3, 5] (valsCons (valBox celWld) (valsCons (valBox celWld) (valsCons (valBox (celAs (celApp celConfig (celApp celMemo (celApp (celOwn 50 .thread) (celApp (celInt .i64) (celApp (celInt .i64) (celApp celTape (celApp (celLst .mark) (celOwn 144 .event)))))))) Wld (fun y => ⟨y.1, y.2.1, y.2.2.1, y.2.2.2.1, y.2.2.2.2.1, y.2.2.2.2.2.1, y.2.2.2.2.2.2.1, y.2.2.2.2.2.2.2⟩) (fun x => (x.c, (x.m, (x.t, (x.now, (x.steps, (x.tape, (x.log, x.hist)))))))) (fun _ => rfl))) (valsOne (valInt .i64))))) (⟨.exit 2, [2, 3], (valsCons (valBox celWld) (valsOne (valBox (celAs (celApp celConfig (celApp celMemo (celApp (celOwn 50 .thread) (celApp (celInt .i64) (celApp (celInt .i64) (celApp celTape (celApp (celLst .mark) (celOwn 144 .event)))))))) Wld (fun y => ⟨y.1, y.2.1, y.2.2.1, y.2.2.2.1, y.2.2.2.2.1, y.2.2.2.2.2.1, y.2.2.2.2.2.2.1, y.2.2.2.2.2.2.2⟩) (fun x => (x.c, (x.m, (x.t, (x.now, (x.steps, (x.tape, (x.log, x.hist)))))))) (fun _ => rfl)))))⟩ : Way) (whileM T_law17_theirs_7)
set_option maxRecDepth 100000 in
theorem lok45_7 : LoopOK e45 78 l45_7 (fnLoop e45.P 45 7) :=
  loop1_ok (L := assocL []) (rounds := 20) (depth := 6) (ts := [1, 2, 3, 5]) (v := (valsCons (valBox celWld) (valsCons (valBox celWld) (valsCons (valBox (celAs (celApp celConfig (celApp celMemo (celApp (celOwn 50 .thread) (celApp (celInt .i64) (celApp (celInt .i64) (celApp celTape (celApp (celLst .mark) (celOwn 144 .event)))))))) Wld (fun y => ⟨y.1, y.2.1, y.2.2.1, y.2.2.2.1, y.2.2.2.2.1, y.2.2.2.2.2.1, y.2.2.2.2.2.2.1, y.2.2.2.2.2.2.2⟩) (fun x => (x.c, (x.m, (x.t, (x.now, (x.steps, (x.tape, (x.log, x.hist)))))))) (fun _ => rfl))) (valsOne (valInt .i64)))))) (a := ⟨.exit 2, [2, 3], (valsCons (valBox celWld) (valsOne (valBox (celAs (celApp celConfig (celApp celMemo (celApp (celOwn 50 .thread) (celApp (celInt .i64) (celApp (celInt .i64) (celApp celTape (celApp (celLst .mark) (celOwn 144 .event)))))))) Wld (fun y => ⟨y.1, y.2.1, y.2.2.1, y.2.2.2.1, y.2.2.2.2.1, y.2.2.2.2.2.1, y.2.2.2.2.2.2.1, y.2.2.2.2.2.2.2⟩) (fun x => (x.c, (x.m, (x.t, (x.now, (x.steps, (x.tape, (x.log, x.hist)))))))) (fun _ => rfl)))))⟩) (step := T_law17_theirs_7) g45 rfl loops_inNil (fun x => by kernel_rfl)
noncomputable def l45_3 : LSpec := loop1 [1, 2, 3, 4] (valsCons (valBox celWld) (valsCons (valBox celWld) (valsCons (valBox (celAs (celApp celConfig (celApp celMemo (celApp (celOwn 50 .thread) (celApp (celInt .i64) (celApp (celInt .i64) (celApp celTape (celApp (celLst .mark) (celOwn 144 .event)))))))) Wld (fun y => ⟨y.1, y.2.1, y.2.2.1, y.2.2.2.1, y.2.2.2.2.1, y.2.2.2.2.2.1, y.2.2.2.2.2.2.1, y.2.2.2.2.2.2.2⟩) (fun x => (x.c, (x.m, (x.t, (x.now, (x.steps, (x.tape, (x.log, x.hist)))))))) (fun _ => rfl))) (valsOne (valInt .i64))))) (⟨.exit 0, [1, 2, 3], (valsCons (valBox celWld) (valsCons (valBox celWld) (valsOne (valBox (celAs (celApp celConfig (celApp celMemo (celApp (celOwn 50 .thread) (celApp (celInt .i64) (celApp (celInt .i64) (celApp celTape (celApp (celLst .mark) (celOwn 144 .event)))))))) Wld (fun y => ⟨y.1, y.2.1, y.2.2.1, y.2.2.2.1, y.2.2.2.2.1, y.2.2.2.2.2.1, y.2.2.2.2.2.2.1, y.2.2.2.2.2.2.2⟩) (fun x => (x.c, (x.m, (x.t, (x.now, (x.steps, (x.tape, (x.log, x.hist)))))))) (fun _ => rfl))))))⟩ : Way) (whileM T_law17_theirs_3)
set_option maxRecDepth 100000 in
theorem lok45_3 : LoopOK e45 78 l45_3 (fnLoop e45.P 45 3) :=
  loop1_ok (L := assocL []) (rounds := 20) (depth := 6) (ts := [1, 2, 3, 4]) (v := (valsCons (valBox celWld) (valsCons (valBox celWld) (valsCons (valBox (celAs (celApp celConfig (celApp celMemo (celApp (celOwn 50 .thread) (celApp (celInt .i64) (celApp (celInt .i64) (celApp celTape (celApp (celLst .mark) (celOwn 144 .event)))))))) Wld (fun y => ⟨y.1, y.2.1, y.2.2.1, y.2.2.2.1, y.2.2.2.2.1, y.2.2.2.2.2.1, y.2.2.2.2.2.2.1, y.2.2.2.2.2.2.2⟩) (fun x => (x.c, (x.m, (x.t, (x.now, (x.steps, (x.tape, (x.log, x.hist)))))))) (fun _ => rfl))) (valsOne (valInt .i64)))))) (a := ⟨.exit 0, [1, 2, 3], (valsCons (valBox celWld) (valsCons (valBox celWld) (valsOne (valBox (celAs (celApp celConfig (celApp celMemo (celApp (celOwn 50 .thread) (celApp (celInt .i64) (celApp (celInt .i64) (celApp celTape (celApp (celLst .mark) (celOwn 144 .event)))))))) Wld (fun y => ⟨y.1, y.2.1, y.2.2.1, y.2.2.2.1, y.2.2.2.2.1, y.2.2.2.2.2.1, y.2.2.2.2.2.2.1, y.2.2.2.2.2.2.2⟩) (fun x => (x.c, (x.m, (x.t, (x.now, (x.steps, (x.tape, (x.log, x.hist)))))))) (fun _ => rfl))))))⟩) (step := T_law17_theirs_3) g45 rfl loops_inNil (fun x => by kernel_rfl)
noncomputable def s45 : Spec := mkSpec (valsOne (valSt celWld)) (resOne (valSt celWld)) C_law17_theirs
set_option maxRecDepth 100000 in
theorem ok45 : SpecOK Tryz.prog 45 s45 :=
  mkSpec_ok (V := e45) (L := (assocL [(7, l45_7), (3, l45_3)])) (rounds := 20) (depth := 6) g45 (loops_fn (nt := 78) (by kernel_rfl) (ntB_ok (by kernel_rfl)) (loopsOK_cons lok45_7 (loopsOK_cons lok45_3 loopsOK_nil))) (fun x => by kernel_rfl)

/- millstream/world.Busy -/
noncomputable def e46 : Env := env1 [(33, s33)]
theorem g46 : GoodEnv e46 := goodEnv mix1 ent1 (goods_cons ok33 rfl goods_nil)
noncomputable def l46_2 : LSpec := loop1 [2, 6, 7, 8] (valsCons (valInt .i64) (valsCons (valLst .thread) (valsCons (valInt .i64) (valsOne (valInt .i64))))) (⟨.exit 0, [2], (valsOne (valInt .i64))⟩ : Way) (whileM T_world_Busy_2)
set_option maxRecDepth 100000 in
theorem lok46_2 : LoopOK e46 18 l46_2 (fnLoop e46.P 46 2) :=
  loop1_ok (L := assocL []) (rounds := 20) (depth := 6) (ts := [2, 6, 7, 8]) (v := (valsCons (valInt .i64) (valsCons (valLst .thread) (valsCons (valInt .i64) (valsOne (valInt .i64)))))) (a := ⟨.exit 0, [2], (valsOne (valInt .i64))⟩) (step := T_world_Busy_2) g46 rfl loops_inNil (fun x => by kernel_rfl)
noncomputable def s46 : Spec := mkSpec (valsOne (valSt celWld)) (resOne (valInt .i64)) C_world_Busy
set_option maxRecDepth 100000 in
theorem ok46 : SpecOK Tryz.prog 46 s46 :=
  mkSpec_ok (V := e46) (L := (assocL [(2, l46_2)])) (rounds := 20) (depth := 6) g46 (loops_fn (nt := 18) (by kernel_rfl) (ntB_ok (by kernel_rfl)) (loopsOK_cons lok46_2 loopsOK_nil)) (fun x => by kernel_rfl)

/- millstream/millstreamref17.Busy -/
noncomputable def e47 : Env := env1 [(82, s82)]
theorem g47 : GoodEnv e47 := goodEnv mix1 ent1 (goods_cons ok82 rfl goods_nil)
noncomputable def l47_3 : LSpec := loop1 [1, 3, 4] (valsCons (valBox celWld) (valsCons (valInt .i64) (valsOne (valInt .i64)))) (⟨.exit 0, [3], (valsOne (valInt .i64))⟩ : Way) (whileM T_ref17_Busy_3)
set_option maxRecDepth 100000 in
theorem lok47_3 : LoopOK e47 21 l47_3 (fnLoop e47.P 47 3) :=
  loop1_ok (L := assocL []) (rounds := 20) (depth := 6) (ts := [1, 3, 4]) (v := (valsCons (valBox celWld) (valsCons (valInt .i64) (valsOne (valInt .i64))))) (a := ⟨.exit 0, [3], (valsOne (valInt .i64))⟩) (step := T_ref17_Busy_3) g47 rfl loops_inNil (fun x => by kernel_rfl)
noncomputable def s47 : Spec := mkSpec (valsOne (valSt celWld)) (resOne (valInt .i64)) C_ref17_Busy
set_option maxRecDepth 100000 in
theorem ok47 : SpecOK Tryz.prog 47 s47 :=
  mkSpec_ok (V := e47) (L := (assocL [(3, l47_3)])) (rounds := 20) (depth := 6) g47 (loops_fn (nt := 21) (by kernel_rfl) (ntB_ok (by kernel_rfl)) (loopsOK_cons lok47_3 loopsOK_nil)) (fun x => by kernel_rfl)

/- millstream/millstreamlaw17.cells -/
noncomputable def e48 : Env := env1 [(24, s24), (34, s34), (35, s35)]
theorem g48 : GoodEnv e48 := goodEnv mix1 ent1 (goods_cons ok24 rfl (goods_cons ok34 rfl (goods_cons ok35 rfl goods_nil)))
noncomputable def l48_9 : LSpec := loop2 [2, 3, 5, 6, 7, 8] (valsCons (valBox celConfig) (valsCons (valBox celWld) (valsCons (valBox celConfig) (valsCons (valInt .i64) (valsCons (valInt .i64) (valsOne (valInt .i64))))))) (⟨.exit 2, [2, 3, 5, 6, 7], (valsCons (valBox celConfig) (valsCons (valBox celWld) (valsCons (valBox celConfig) (valsCons (valInt .i64) (valsOne (valInt .i64))))))⟩ : Way) (⟨.ret, [4], (valsOne (valBool))⟩ : Way) (whileM T_law17_cells_9)
set_option maxRecDepth 100000 in
theorem lok48_9 : LoopOK e48 103 l48_9 (fnLoop e48.P 48 9) :=
  loop2_ok (L := assocL []) (rounds := 20) (depth := 6) (ts := [2, 3, 5, 6, 7, 8]) (v := (valsCons (valBox celConfig) (valsCons (valBox celWld) (valsCons (valBox celConfig) (valsCons (valInt .i64) (valsCons (valInt .i64) (valsOne (valInt .i64)))))))) (a := ⟨.exit 2, [2, 3, 5, 6, 7], (valsCons (valBox celConfig) (valsCons (valBox celWld) (valsCons (valBox celConfig) (valsCons (valInt .i64) (valsOne (valInt .i64))))))⟩) (b := ⟨.ret, [4], (valsOne (valBool))⟩) (step := T_law17_cells_9) g48 rfl rfl loops_inNil (fun x => by kernel_rfl)
noncomputable def l48_5 : LSpec := loop2 [2, 3, 5, 6] (valsCons (valBox celConfig) (valsCons (valBox celWld) (valsCons (valBox celConfig) (valsOne (valInt .i64))))) (⟨.exit 0, [], valsNil⟩ : Way) (⟨.ret, [4], (valsOne (valBool))⟩ : Way) (whileM T_law17_cells_5)
set_option maxRecDepth 100000 in
theorem lok48_5 : LoopOK e48 103 l48_5 (fnLoop e48.P 48 5) :=
  loop2_ok (L := assocL [(9, l48_9)]) (rounds := 20) (depth := 6) (ts := [2, 3, 5, 6]) (v := (valsCons (valBox celConfig) (valsCons (valBox celWld) (valsCons (valBox celConfig) (valsOne (valInt .i64)))))) (a := ⟨.exit 0, [], valsNil⟩) (b := ⟨.ret, [4], (valsOne (valBool))⟩) (step := T_law17_cells_5) g48 rfl rfl (loops_in (by kernel_rfl) (loopsOK_cons lok48_9 loopsOK_nil)) (fun x => by kernel_rfl)
noncomputable def s48 : Spec := mkSpec (valsCons (valSt celConfig) (valsOne (valSt celWld))) (resOne (valBool)) C_law17_cells
set_option maxRecDepth 100000 in
theorem ok48 : SpecOK Tryz.prog 48 s48 :=
  mkSpec_ok (V := e48) (L := (assocL [(9, l48_9), (5, l48_5)])) (rounds := 20) (depth := 6) g48 (loops_fn (nt := 103) (by kernel_rfl) (ntB_ok (by kernel_rfl)) (loopsOK_cons lok48_9 (loopsOK_cons lok48_5 loopsOK_nil))) (fun x => by kernel_rfl)

/- millstream/millstreamlaw17.answers -/
noncomputable def e49 : Env := env1 [(24, s24)]
theorem g49 : GoodEnv e49 := goodEnv mix1 ent1 (goods_cons ok24 rfl goods_nil)
noncomputable def l49_16 : LSpec := loop2 [2, 3, 5, 6, 8, 9, 10, 11] (valsCons (valBox celConfig) (valsCons (valBox celWld) (valsCons (valInt .i64) (valsCons (valOwn 74 .mark) (valsCons (valInt .i64) (valsCons (valBool) (valsCons (valBox celEvent) (valsOne (valInt .i64))))))))) (⟨.exit 4, [2, 3, 5, 6, 8, 9, 10], (valsCons (valBox celConfig) (valsCons (valBox celWld) (valsCons (valInt .i64) (valsCons (valOwn 74 .mark) (valsCons (valInt .i64) (valsCons (valBool) (valsOne (valBox celEvent))))))))⟩ : Way) (⟨.ret, [4], (valsOne (valBool))⟩ : Way) (whileM T_law17_answers_16)
set_option maxRecDepth 100000 in
theorem lok49_16 : LoopOK e49 213 l49_16 (fnLoop e49.P 49 16) :=
  loop2_ok (L := assocL []) (rounds := 20) (depth := 6) (ts := [2, 3, 5, 6, 8, 9, 10, 11]) (v := (valsCons (valBox celConfig) (valsCons (valBox celWld) (valsCons (valInt .i64) (valsCons (valOwn 74 .mark) (valsCons (valInt .i64) (valsCons (valBool) (valsCons (valBox celEvent) (valsOne (valInt .i64)))))))))) (a := ⟨.exit 4, [2, 3, 5, 6, 8, 9, 10], (valsCons (valBox celConfig) (valsCons (valBox celWld) (valsCons (valInt .i64) (valsCons (valOwn 74 .mark) (valsCons (valInt .i64) (valsCons (valBool) (valsOne (valBox celEvent))))))))⟩) (b := ⟨.ret, [4], (valsOne (valBool))⟩) (step := T_law17_answers_16) g49 rfl rfl loops_inNil (fun x => by kernel_rfl)
noncomputable def l49_8 : LSpec := loop1 [2, 3, 5, 6, 7] (valsCons (valBox celConfig) (valsCons (valBox celWld) (valsCons (valInt .i64) (valsCons (valOwn 74 .mark) (valsOne (valInt .i64)))))) (⟨.exit 2, [2, 3, 5, 6], (valsCons (valBox celConfig) (valsCons (valBox celWld) (valsCons (valInt .i64) (valsOne (valOwn 74 .mark)))))⟩ : Way) (whileM T_law17_answers_8)
set_option maxRecDepth 100000 in
theorem lok49_8 : LoopOK e49 213 l49_8 (fnLoop e49.P 49 8) :=
  loop1_ok (L := assocL []) (rounds := 20) (depth := 6) (ts := [2, 3, 5, 6, 7]) (v := (valsCons (valBox celConfig) (valsCons (valBox celWld) (valsCons (valInt .i64) (valsCons (valOwn 74 .mark) (valsOne (valInt .i64))))))) (a := ⟨.exit 2, [2, 3, 5, 6], (valsCons (valBox celConfig) (valsCons (valBox celWld) (valsCons (valInt .i64) (valsOne (valOwn 74 .mark)))))⟩) (step := T_law17_answers_8) g49 rfl loops_inNil (fun x => by kernel_rfl)
noncomputable def l49_4 : LSpec := loop2 [2, 3, 5] (valsCons (valBox celConfig) (valsCons (valBox celWld) (valsOne (valInt .i64)))) (⟨.exit 0, [], valsNil⟩ : Way) (⟨.ret, [4], (valsOne (valBool))⟩ : Way) (whileM T_law17_answers_4)
set_option maxRecDepth 100000 in
theorem lok49_4 : LoopOK e49 213 l49_4 (fnLoop e49.P 49 4) :=
  loop2_ok (L := assocL [(16, l49_16), (8, l49_8)]) (rounds := 20) (depth := 6) (ts := [2, 3, 5]) (v := (valsCons (valBox celConfig) (valsCons (valBox celWld) (valsOne (valInt .i64))))) (a := ⟨.exit 0, [], valsNil⟩) (b := ⟨.ret, [4], (valsOne (valBool))⟩) (step := T_law17_answers_4) g49 rfl rfl (loops_in (by kernel_rfl) (loopsOK_cons lok49_16 (loopsOK_cons lok49_8 loopsOK_nil))) (fun x => by kernel_rfl)
noncomputable def s49 : Spec := mkSpec (valsCons (valSt celConfig) (valsOne (valSt celWld))) (resOne (valBool)) C_law17_answers
set_option maxRecDepth 100000 in
theorem ok49 : SpecOK Tryz.prog 49 s49 :=
  mkSpec_ok (V := e49) (L := (assocL [(16, l49_16), (8, l49_8), (4, l49_4)])) (rounds := 20) (depth := 6) g49 (loops_fn (nt := 213) (by kernel_rfl) (ntB_ok (by kernel_rfl)) (loopsOK_cons lok49_16 (loopsOK_cons lok49_8 (loopsOK_cons lok49_4 loopsOK_nil)))) (fun x => by kernel_rfl)

/- millstream/machine.Start -/
noncomputable def e55 : Env := env1 []
theorem g55 : GoodEnv e55 := goodEnv mix1 ent1 goods_nil
noncomputable def s55 : Spec := mkSpec (valsOne (valSt celTurn)) (resOne (valSt celTurn)) C_machine_Start
set_option maxRecDepth 100000 in
theorem ok55 : SpecOK Tryz.prog 55 s55 :=
  mkSpec_ok (V := e55) (L := nL) (rounds := 20) (depth := 6) g55 loops_none (fun x => by kernel_rfl)

/- slices.Clone[[]int,int] -/
noncomputable def e85 : Env := env1 []
theorem g85 : GoodEnv e85 := goodEnv mix1 ent1 goods_nil
noncomputable def s85 : Spec := mkSpec (valsOne (valLst .int)) (resOne (valOwn 3 .int)) C_slices_Clone_int
set_option maxRecDepth 100000 in
theorem ok85 : SpecOK Tryz.prog 85 s85 :=
  spec_nil (V := e85) (L := nL) (rounds := 20) (depth := 6) (r := (resOne (valOwn 3 .int))) g85 loops_none (by kernel_rfl) (fun x => by kernel_rfl)

/- millstream/wmem.at[int] -/
noncomputable def e154 : Env := env1 []
theorem g154 : GoodEnv e154 := goodEnv mix1 ent1 goods_nil
noncomputable def s154 : Spec := mkSpec (valsCons (valLst .int) (valsOne (valInt .i64))) (resTup (valsCons (valInt .i64) (valsOne (valInt .i64)))) C_wmem_at_int
set_option maxRecDepth 100000 in
theorem ok154 : SpecOK Tryz.prog 154 s154 :=
  mkSpec_ok (V := e154) (L := nL) (rounds := 20) (depth := 6) g154 loops_none (fun x => by kernel_rfl)

/- millstream/wmem.Store -/
noncomputable def e95 : Env := env1 [(85, s85), (154, s154)]
theorem g95 : GoodEnv e95 := goodEnv mix1 ent1 (goods_cons ok85 rfl (goods_cons ok154 rfl goods_nil))
noncomputable def s95 : Spec := mkSpec (valsCons (valSt celMemo) (valsCons (valInt .i64) (valsOne (valInt .i64)))) (resTup (valsCons (valSt celMemo) (valsOne (valInt .i64)))) C_wmem_Store
set_option maxRecDepth 100000 in
theorem ok95 : SpecOK Tryz.prog 95 s95 :=
  mkSpec_ok (V := e95) (L := nL) (rounds := 20) (depth := 6) g95 loops_none (fun x => by kernel_rfl)

/- millstream/arena.Line -/
noncomputable def e96 : Env := env1 [(120, s120)]
theorem g96 : GoodEnv e96 := goodEnv mix1 ent1 (goods_cons ok120 rfl goods_nil)
noncomputable def s96 : Spec := mkSpec (valsCons (valSt celConfig) (valsOne (valInt .i64))) (resOne (valInt .i64)) C_arena_Line
set_option maxRecDepth 100000 in
theorem ok96 : SpecOK Tryz.prog 96 s96 :=
  mkSpec_ok (V := e96) (L := nL) (rounds := 20) (depth := 6) g96 loops_none (fun x => by kernel_rfl)

/- millstream/machine.clear -/
noncomputable def e63 : Env := env1 [(55, s55), (95, s95), (96, s96)]
theorem g63 : GoodEnv e63 := goodEnv mix1 ent1 (goods_cons ok55 rfl (goods_cons ok95 rfl (goods_cons ok96 rfl goods_nil)))
noncomputable def s63 : Spec := mkSpec (valsOne (valSt celTurn)) (resTup (valsCons (valSt celTurn) (valsOne (valBool)))) C_machine_clear
set_option maxRecDepth 100000 in
theorem ok63 : SpecOK Tryz.prog 63 s63 :=
  mkSpec_ok (V := e63) (L := nL) (rounds := 20) (depth := 6) g63 loops_none (fun x => by kernel_rfl)

/- millstream/arena.Node -/
noncomputable def e105 : Env := env1 [(120, s120), (148, s148)]
theorem g105 : GoodEnv e105 := goodEnv mix1 ent1 (goods_cons ok120 rfl (goods_cons ok148 rfl goods_nil))
noncomputable def s105 : Spec := mkSpec (valsCons (valSt celConfig) (valsCons (valInt .i64) (valsOne (valInt .i64)))) (resOne (valInt .i64)) C_arena_Node
set_option maxRecDepth 100000 in
theorem ok105 : SpecOK Tryz.prog 105 s105 :=
  mkSpec_ok (V := e105) (L := nL) (rounds := 20) (depth := 6) g105 loops_none (fun x => by kernel_rfl)

/- (millstream/code.said).word -/
noncomputable def e150 : Env := env1 []
theorem g150 : GoodEnv e150 := goodEnv mix1 ent1 goods_nil
noncomputable def s150 : Spec := mkSpec (valsOne (valSt celSaid)) (resOne (valInt .i64)) C_code_said_word
set_option maxRecDepth 100000 in
theorem ok150 : SpecOK Tryz.prog 150 s150 :=
  mkSpec_ok (V := e150) (L := nL) (rounds := 20) (depth := 6) g150 loops_none (fun x => by kernel_rfl)

/- millstream/code.First -/
noncomputable def e106 : Env := env1 [(150, s150)]
theorem g106 : GoodEnv e106 := goodEnv mix1 ent1 (goods_cons ok150 rfl goods_nil)
noncomputable def s106 : Spec := mkSpec (valsOne (valInt .i64)) (resOne (valInt .i64)) C_code_First
set_option maxRecDepth 100000 in
theorem ok106 : SpecOK Tryz.prog 106 s106 :=
  mkSpec_ok (V := e106) (L := nL) (rounds := 20) (depth := 6) g106 loops_none (fun x => by kernel_rfl)

/- millstream/shape.Parent -/
noncomputable def e151 : Env := env1 []
theorem g151 : GoodEnv e151 := goodEnv mix1 ent1 goods_nil
noncomputable def s151 : Spec := mkSpec (valsOne (valInt .i64)) (resOne (valInt .i64)) C_shape_Parent
set_option maxRecDepth 100000 in
theorem ok151 : SpecOK Tryz.prog 151 s151 :=
  mkSpec_ok (V := e151) (L := nL) (rounds := 20) (depth := 6) g151 loops_none (fun x => by kernel_rfl)

/- millstream/climb.Down -/
noncomputable def e181 : Env := env1 []
theorem g181 : GoodEnv e181 := goodEnv mix1 ent1 goods_nil
noncomputable def s181 : Spec := mkSpec (valsOne (valSt celTurn)) (resOne (valSt celTurn)) C_climb_Down
set_option maxRecDepth 100000 in
theorem ok181 : SpecOK Tryz.prog 181 s181 :=
  mkSpec_ok (V := e181) (L := nL) (rounds := 20) (depth := 6) g181 loops_none (fun x => by kernel_rfl)

/- millstream/climb.over -/
noncomputable def e152 : Env := env1 [(181, s181)]
theorem g152 : GoodEnv e152 := goodEnv mix1 ent1 (goods_cons ok181 rfl goods_nil)
noncomputable def s152 : Spec := mkSpec (valsOne (valSt celTurn)) (resOne (valSt celTurn)) C_climb_over
set_option maxRecDepth 100000 in
theorem ok152 : SpecOK Tryz.prog 152 s152 :=
  mkSpec_ok (V := e152) (L := nL) (rounds := 20) (depth := 6) g152 loops_none (fun x => by kernel_rfl)

/- millstream/climb.taken -/
noncomputable def e107 : Env := env1 [(85, s85), (151, s151), (152, s152)]
theorem g107 : GoodEnv e107 := goodEnv mix1 ent1 (goods_cons ok85 rfl (goods_cons ok151 rfl (goods_cons ok152 rfl goods_nil)))
noncomputable def s107 : Spec := mkSpec (valsOne (valSt celTurn)) (resOne (valSt celTurn)) C_climb_taken
set_option maxRecDepth 100000 in
theorem ok107 : SpecOK Tryz.prog 107 s107 :=
  mkSpec_ok (V := e107) (L := nL) (rounds := 20) (depth := 6) g107 loops_none (fun x => by kernel_rfl)

/- millstream/wmem.Cas -/
noncomputable def e109 : Env := env1 [(85, s85), (154, s154)]
theorem g109 : GoodEnv e109 := goodEnv mix1 ent1 (goods_cons ok85 rfl (goods_cons ok154 rfl goods_nil))
noncomputable def s109 : Spec := mkSpec (valsCons (valSt celMemo) (valsCons (valInt .i64) (valsCons (valInt .i64) (valsOne (valInt .i64))))) (resTup (valsCons (valSt celMemo) (valsCons (valBool) (valsOne (valInt .i64))))) C_wmem_Cas
set_option maxRecDepth 100000 in
theorem ok109 : SpecOK Tryz.prog 109 s109 :=
  mkSpec_ok (V := e109) (L := nL) (rounds := 20) (depth := 6) g109 loops_none (fun x => by kernel_rfl)

/- millstream/wmem.Load -/
noncomputable def e110 : Env := env1 [(154, s154)]
theorem g110 : GoodEnv e110 := goodEnv mix1 ent1 (goods_cons ok154 rfl goods_nil)
noncomputable def s110 : Spec := mkSpec (valsCons (valSt celMemo) (valsOne (valInt .i64))) (resTup (valsCons (valInt .i64) (valsOne (valInt .i64)))) C_wmem_Load
set_option maxRecDepth 100000 in
theorem ok110 : SpecOK Tryz.prog 110 s110 :=
  mkSpec_ok (V := e110) (L := nL) (rounds := 20) (depth := 6) g110 loops_none (fun x => by kernel_rfl)

/- millstream/thread.Late -/
noncomputable def e146 : Env := env1 []
theorem g146 : GoodEnv e146 := goodEnv mix1 ent1 goods_nil
noncomputable def s146 : Spec := mkSpec (valsOne (valSt celTurn)) (resOne (valBool)) C_thread_Late
set_option maxRecDepth 100000 in
theorem ok146 : SpecOK Tryz.prog 146 s146 :=
  mkSpec_ok (V := e146) (L := nL) (rounds := 20) (depth := 6) g146 loops_none (fun x => by kernel_rfl)

/- millstream/code.of -/
noncomputable def e182 : Env := env1 []
theorem g182 : GoodEnv e182 := goodEnv mix1 ent1 goods_nil
noncomputable def s182 : Spec := mkSpec (valsOne (valInt .i64)) (resOne (valSt celSaid)) C_code_of
set_option maxRecDepth 100000 in
theorem ok182 : SpecOK Tryz.prog 182 s182 :=
  mkSpec_ok (V := e182) (L := nL) (rounds := 20) (depth := 6) g182 loops_none (fun x => by kernel_rfl)

/- millstream/code.Kind -/
noncomputable def e155 : Env := env1 [(182, s182)]
theorem g155 : GoodEnv e155 := goodEnv mix1 ent1 (goods_cons ok182 rfl goods_nil)
noncomputable def s155 : Spec := mkSpec (valsOne (valInt .i64)) (resOne (valInt .i64)) C_code_Kind
set_option maxRecDepth 100000 in
theorem ok155 : SpecOK Tryz.prog 155 s155 :=
  mkSpec_ok (V := e155) (L := nL) (rounds := 20) (depth := 6) g155 loops_none (fun x => by kernel_rfl)

/- millstream/climb.look -/
noncomputable def e111 : Env := env1 [(146, s146), (152, s152), (155, s155)]
theorem g111 : GoodEnv e111 := goodEnv mix1 ent1 (goods_cons ok146 rfl (goods_cons ok152 rfl (goods_cons ok155 rfl goods_nil)))
noncomputable def s111 : Spec := mkSpec (valsCons (valSt celTurn) (valsOne (valInt .i64))) (resOne (valSt celTurn)) C_climb_look
set_option maxRecDepth 100000 in
theorem ok111 : SpecOK Tryz.prog 111 s111 :=
  mkSpec_ok (V := e111) (L := nL) (rounds := 20) (depth := 6) g111 loops_none (fun x => by kernel_rfl)

/- millstream/code.Joined -/
noncomputable def e112 : Env := env1 [(150, s150)]
theorem g112 : GoodEnv e112 := goodEnv mix1 ent1 (goods_cons ok150 rfl goods_nil)
noncomputable def s112 : Spec := mkSpec (valsOne (valInt .i64)) (resOne (valInt .i64)) C_code_Joined
set_option maxRecDepth 100000 in
theorem ok112 : SpecOK Tryz.prog 112 s112 :=
  mkSpec_ok (V := e112) (L := nL) (rounds := 20) (depth := 6) g112 loops_none (fun x => by kernel_rfl)

/- millstream/climb.joined -/
noncomputable def e113 : Env := env1 [(152, s152)]
theorem g113 : GoodEnv e113 := goodEnv mix1 ent1 (goods_cons ok152 rfl goods_nil)
noncomputable def s113 : Spec := mkSpec (valsOne (valSt celTurn)) (resOne (valSt celTurn)) C_climb_joined
set_option maxRecDepth 100000 in
theorem ok113 : SpecOK Tryz.prog 113 s113 :=
  mkSpec_ok (V := e113) (L := nL) (rounds := 20) (depth := 6) g113 loops_none (fun x => by kernel_rfl)

/- millstream/climb.Step -/
noncomputable def e66 : Env := env1 [(105, s105), (106, s106), (107, s107), (109, s109), (110, s110), (111, s111), (112, s112), (113, s113)]
theorem g66 : GoodEnv e66 := goodEnv mix1 ent1 (goods_cons ok105 rfl (goods_cons ok106 rfl (goods_cons ok107 rfl (goods_cons ok109 rfl (goods_cons ok110 rfl (goods_cons ok111 rfl (goods_cons ok112 rfl (goods_cons ok113 rfl goods_nil))))))))
noncomputable def s66 : Spec := mkSpec (valsOne (valSt celTurn)) (resTup (valsCons (valSt celTurn) (valsOne (valBool)))) C_climb_Step
set_option maxRecDepth 100000 in
theorem ok66 : SpecOK Tryz.prog 66 s66 :=
  mkSpec_ok (V := e66) (L := nL) (rounds := 20) (depth := 6) g66 loops_none (fun x => by kernel_rfl)

/- millstream/gather.held -/
noncomputable def e183 : Env := env1 [(105, s105)]
theorem g183 : GoodEnv e183 := goodEnv mix1 ent1 (goods_cons ok105 rfl goods_nil)
noncomputable def s183 : Spec := mkSpec (valsOne (valSt celTurn)) (resOne (valInt .i64)) C_gather_held
set_option maxRecDepth 100000 in
theorem ok183 : SpecOK Tryz.prog 183 s183 :=
  mkSpec_ok (V := e183) (L := nL) (rounds := 20) (depth := 6) g183 loops_none (fun x => by kernel_rfl)

/- millstream/code.Who -/
noncomputable def e184 : Env := env1 [(182, s182)]
theorem g184 : GoodEnv e184 := goodEnv mix1 ent1 (goods_cons ok182 rfl goods_nil)
noncomputable def s184 : Spec := mkSpec (valsOne (valInt .i64)) (resOne (valInt .i64)) C_code_Who
set_option maxRecDepth 100000 in
theorem ok184 : SpecOK Tryz.prog 184 s184 :=
  mkSpec_ok (V := e184) (L := nL) (rounds := 20) (depth := 6) g184 loops_none (fun x => by kernel_rfl)

/- millstream/gather.look -/
noncomputable def e156 : Env := env1 [(106, s106), (110, s110), (155, s155), (183, s183), (184, s184)]
theorem g156 : GoodEnv e156 := goodEnv mix1 ent1 (goods_cons ok106 rfl (goods_cons ok110 rfl (goods_cons ok155 rfl (goods_cons ok183 rfl (goods_cons ok184 rfl goods_nil)))))
noncomputable def s156 : Spec := mkSpec (valsOne (valSt celTurn)) (resOne (valSt celTurn)) C_gather_look
set_option maxRecDepth 100000 in
theorem ok156 : SpecOK Tryz.prog 156 s156 :=
  mkSpec_ok (V := e156) (L := nL) (rounds := 20) (depth := 6) g156 loops_none (fun x => by kernel_rfl)

/- millstream/gather.next -/
noncomputable def e187 : Env := env1 [(181, s181)]
theorem g187 : GoodEnv e187 := goodEnv mix1 ent1 (goods_cons ok181 rfl goods_nil)
noncomputable def s187 : Spec := mkSpec (valsOne (valSt celTurn)) (resOne (valSt celTurn)) C_gather_next
set_option maxRecDepth 100000 in
theorem ok187 : SpecOK Tryz.prog 187 s187 :=
  mkSpec_ok (V := e187) (L := nL) (rounds := 20) (depth := 6) g187 loops_none (fun x => by kernel_rfl)

/- millstream/gather.shut -/
noncomputable def e157 : Env := env1 [(106, s106), (109, s109), (183, s183), (187, s187)]
theorem g157 : GoodEnv e157 := goodEnv mix1 ent1 (goods_cons ok106 rfl (goods_cons ok109 rfl (goods_cons ok183 rfl (goods_cons ok187 rfl goods_nil))))
noncomputable def s157 : Spec := mkSpec (valsOne (valSt celTurn)) (resOne (valSt celTurn)) C_gather_shut
set_option maxRecDepth 100000 in
theorem ok157 : SpecOK Tryz.prog 157 s157 :=
  mkSpec_ok (V := e157) (L := nL) (rounds := 20) (depth := 6) g157 loops_none (fun x => by kernel_rfl)

/- slices.Clone[[]millstream/batch.Entry,millstream/batch.Entry] -/
noncomputable def e180 : Env := env1 []
theorem g180 : GoodEnv e180 := goodEnv mix1 ent1 goods_nil
noncomputable def s180 : Spec := mkSpec (valsOne (valLst .entry)) (resOne (valOwn 135 .entry)) C_slices_Clone_batch_Entry
set_option maxRecDepth 100000 in
theorem ok180 : SpecOK Tryz.prog 180 s180 :=
  spec_nil (V := e180) (L := nL) (rounds := 20) (depth := 6) (r := (resOne (valOwn 135 .entry))) g180 loops_none (by kernel_rfl) (fun x => by kernel_rfl)

/- millstream/wmem.at[[]millstream/batch.Entry] -/
noncomputable def e227 : Env := env1 []
theorem g227 : GoodEnv e227 := goodEnv mix1 ent1 goods_nil
noncomputable def s227 : Spec := mkSpec (valsCons (valLst (.lst .entry)) (valsOne (valInt .i64))) (resTup (valsCons (valLst .entry) (valsOne (valInt .i64)))) C_wmem_at_lbatch_Entry
set_option maxRecDepth 100000 in
theorem ok227 : SpecOK Tryz.prog 227 s227 :=
  mkSpec_ok (V := e227) (L := nL) (rounds := 20) (depth := 6) g227 loops_none (fun x => by kernel_rfl)

/- millstream/wmem.Box -/
noncomputable def e188 : Env := env1 [(180, s180), (227, s227)]
theorem g188 : GoodEnv e188 := goodEnv mix1 ent1 (goods_cons ok180 rfl (goods_cons ok227 rfl goods_nil))
noncomputable def s188 : Spec := mkSpec (valsCons (valSt celMemo) (valsOne (valInt .i64))) (resTup (valsCons (valLst .entry) (valsOne (valInt .i64)))) C_wmem_Box
set_option maxRecDepth 100000 in
theorem ok188 : SpecOK Tryz.prog 188 s188 :=
  mkSpec_ok (V := e188) (L := nL) (rounds := 20) (depth := 6) g188 loops_none (fun x => by kernel_rfl)

/- slices.Grow[[]millstream/thread.Kid,millstream/thread.Kid] -/
noncomputable def e244 : Env := env1m []
theorem g244 : GoodEnv e244 := goodEnv mix1 ent1 goods_nil
noncomputable def s244 : Spec := mkSpec (valsCons (valNil) (valsOne (valInt .i64))) (resOne (valOwn 163 .kid)) C_slices_Grow_thread_Kid
set_option maxRecDepth 100000 in
theorem ok244 : SpecOK Tryz.prog 244 s244 :=
  mkSpec_ok (V := e244) (L := nL) (rounds := 20) (depth := 6) g244 loops_none (fun x => by kernel_rfl)

/- slices.Concat[[]millstream/thread.Kid,millstream/thread.Kid] -/
noncomputable def e228 : Env := env1 [(244, s244)]
theorem g228 : GoodEnv e228 := goodEnv mix1 ent1 (goods_cons ok244 rfl goods_nil)
noncomputable def l228_11 : LSpec := loop1 [6, 25, 26, 27] (valsCons (valOwn 163 .kid) (valsCons (valLst (.lst .kid)) (valsCons (valInt .i64) (valsOne (valInt .i64))))) (⟨.exit 2, [6], (valsOne (valOwn 163 .kid))⟩ : Way) (whileM T_slices_Concat_thread_Kid_11)
set_option maxRecDepth 100000 in
theorem lok228_11 : LoopOK e228 36 l228_11 (fnLoop e228.P 228 11) :=
  loop1_ok (L := assocL []) (rounds := 20) (depth := 6) (ts := [6, 25, 26, 27]) (v := (valsCons (valOwn 163 .kid) (valsCons (valLst (.lst .kid)) (valsCons (valInt .i64) (valsOne (valInt .i64)))))) (a := ⟨.exit 2, [6], (valsOne (valOwn 163 .kid))⟩) (step := T_slices_Concat_thread_Kid_11) g228 rfl loops_inNil (fun x => by kernel_rfl)
noncomputable def l228_3 : LSpec := loop1 [0, 3, 9, 10, 11] (valsCons (valLst (.lst .kid)) (valsCons (valInt .i64) (valsCons (valLst (.lst .kid)) (valsCons (valInt .i64) (valsOne (valInt .i64)))))) (⟨.exit 0, [0, 3], (valsCons (valLst (.lst .kid)) (valsOne (valInt .i64)))⟩ : Way) (whileM T_slices_Concat_thread_Kid_3)
set_option maxRecDepth 100000 in
theorem lok228_3 : LoopOK e228 36 l228_3 (fnLoop e228.P 228 3) :=
  loop1_ok (L := assocL []) (rounds := 20) (depth := 6) (ts := [0, 3, 9, 10, 11]) (v := (valsCons (valLst (.lst .kid)) (valsCons (valInt .i64) (valsCons (valLst (.lst .kid)) (valsCons (valInt .i64) (valsOne (valInt .i64))))))) (a := ⟨.exit 0, [0, 3], (valsCons (valLst (.lst .kid)) (valsOne (valInt .i64)))⟩) (step := T_slices_Concat_thread_Kid_3) g228 rfl loops_inNil (fun x => by kernel_rfl)
noncomputable def s228 : Spec := mkSpec (valsOne (valLst (.lst .kid))) (resOne (valOwn 163 .kid)) C_slices_Concat_thread_Kid
set_option maxRecDepth 100000 in
theorem ok228 : SpecOK Tryz.prog 228 s228 :=
  mkSpec_ok (V := e228) (L := (assocL [(11, l228_11), (3, l228_3)])) (rounds := 20) (depth := 6) g228 (loops_fn (nt := 36) (by kernel_rfl) (ntB_ok (by kernel_rfl)) (loopsOK_cons lok228_11 (loopsOK_cons lok228_3 loopsOK_nil))) (fun x => by kernel_rfl)

/- slices.Grow[[]millstream/batch.Entry,millstream/batch.Entry] -/
noncomputable def e248 : Env := env1m []
theorem g248 : GoodEnv e248 := goodEnv mix1 ent1 goods_nil
noncomputable def s248 : Spec := mkSpec (valsCons (valNil) (valsOne (valInt .i64))) (resOne (valOwn 135 .entry)) C_slices_Grow_batch_Entry
set_option maxRecDepth 100000 in
theorem ok248 : SpecOK Tryz.prog 248 s248 :=
  mkSpec_ok (V := e248) (L := nL) (rounds := 20) (depth := 6) g248 loops_none (fun x => by kernel_rfl)

/- slices.Concat[[]millstream/batch.Entry,millstream/batch.Entry] -/
noncomputable def e245 : Env := env1 [(248, s248)]
theorem g245 : GoodEnv e245 := goodEnv mix1 ent1 (goods_cons ok248 rfl goods_nil)
noncomputable def l245_11 : LSpec := loop1 [6, 25, 26, 27] (valsCons (valOwn 135 .entry) (valsCons (valLst (.lst .entry)) (valsCons (valInt .i64) (valsOne (valInt .i64))))) (⟨.exit 2, [6], (valsOne (valOwn 135 .entry))⟩ : Way) (whileM T_slices_Concat_batch_Entry_11)
set_option maxRecDepth 100000 in
theorem lok245_11 : LoopOK e245 36 l245_11 (fnLoop e245.P 245 11) :=
  loop1_ok (L := assocL []) (rounds := 20) (depth := 6) (ts := [6, 25, 26, 27]) (v := (valsCons (valOwn 135 .entry) (valsCons (valLst (.lst .entry)) (valsCons (valInt .i64) (valsOne (valInt .i64)))))) (a := ⟨.exit 2, [6], (valsOne (valOwn 135 .entry))⟩) (step := T_slices_Concat_batch_Entry_11) g245 rfl loops_inNil (fun x => by kernel_rfl)
noncomputable def l245_3 : LSpec := loop1 [0, 3, 9, 10, 11] (valsCons (valLst (.lst .entry)) (valsCons (valInt .i64) (valsCons (valLst (.lst .entry)) (valsCons (valInt .i64) (valsOne (valInt .i64)))))) (⟨.exit 0, [0, 3], (valsCons (valLst (.lst .entry)) (valsOne (valInt .i64)))⟩ : Way) (whileM T_slices_Concat_batch_Entry_3)
set_option maxRecDepth 100000 in
theorem lok245_3 : LoopOK e245 36 l245_3 (fnLoop e245.P 245 3) :=
  loop1_ok (L := assocL []) (rounds := 20) (depth := 6) (ts := [0, 3, 9, 10, 11]) (v := (valsCons (valLst (.lst .entry)) (valsCons (valInt .i64) (valsCons (valLst (.lst .entry)) (valsCons (valInt .i64) (valsOne (valInt .i64))))))) (a := ⟨.exit 0, [0, 3], (valsCons (valLst (.lst .entry)) (valsOne (valInt .i64)))⟩) (step := T_slices_Concat_batch_Entry_3) g245 rfl loops_inNil (fun x => by kernel_rfl)
noncomputable def s245 : Spec := mkSpec (valsOne (valLst (.lst .entry))) (resOne (valOwn 135 .entry)) C_slices_Concat_batch_Entry
set_option maxRecDepth 100000 in
theorem ok245 : SpecOK Tryz.prog 245 s245 :=
  mkSpec_ok (V := e245) (L := (assocL [(11, l245_11), (3, l245_3)])) (rounds := 20) (depth := 6) g245 (loops_fn (nt := 36) (by kernel_rfl) (ntB_ok (by kernel_rfl)) (loopsOK_cons lok245_11 (loopsOK_cons lok245_3 loopsOK_nil))) (fun x => by kernel_rfl)

/- millstream/batch.Join -/
noncomputable def e229 : Env := env1 [(245, s245)]
theorem g229 : GoodEnv e229 := goodEnv mix1 ent1 (goods_cons ok245 rfl goods_nil)
noncomputable def s229 : Spec := mkSpec (valsOne (valLst (.lst .entry))) (resOne (valLst .entry)) C_batch_Join
set_option maxRecDepth 100000 in
theorem ok229 : SpecOK Tryz.prog 229 s229 :=
  mkSpec_ok (V := e229) (L := nL) (rounds := 20) (depth := 6) g229 loops_none (fun x => by kernel_rfl)

/- millstream/gather.Take -/
noncomputable def e190 : Env := env1 [(228, s228), (229, s229)]
theorem g190 : GoodEnv e190 := goodEnv mix1 ent1 (goods_cons ok228 rfl (goods_cons ok229 rfl goods_nil))
noncomputable def s190 : Spec := mkSpec (valsCons (valSt celTurn) (valsCons (valInt .i64) (valsOne (valLst .entry)))) (resOne (valSt celTurn)) C_gather_Take
set_option maxRecDepth 100000 in
theorem ok190 : SpecOK Tryz.prog 190 s190 :=
  mkSpec_ok (V := e190) (L := nL) (rounds := 20) (depth := 6) g190 loops_none (fun x => by kernel_rfl)

/- millstream/gather.collect -/
noncomputable def e158 : Env := env1 [(188, s188), (190, s190)]
theorem g158 : GoodEnv e158 := goodEnv mix1 ent1 (goods_cons ok188 rfl (goods_cons ok190 rfl goods_nil))
noncomputable def s158 : Spec := mkSpec (valsOne (valSt celTurn)) (resOne (valSt celTurn)) C_gather_collect
set_option maxRecDepth 100000 in
theorem ok158 : SpecOK Tryz.prog 158 s158 :=
  mkSpec_ok (V := e158) (L := nL) (rounds := 20) (depth := 6) g158 loops_none (fun x => by kernel_rfl)

/- millstream/gather.free -/
noncomputable def e159 : Env := env1 [(95, s95), (183, s183), (187, s187)]
theorem g159 : GoodEnv e159 := goodEnv mix1 ent1 (goods_cons ok95 rfl (goods_cons ok183 rfl (goods_cons ok187 rfl goods_nil)))
noncomputable def s159 : Spec := mkSpec (valsOne (valSt celTurn)) (resOne (valSt celTurn)) C_gather_free
set_option maxRecDepth 100000 in
theorem ok159 : SpecOK Tryz.prog 159 s159 :=
  mkSpec_ok (V := e159) (L := nL) (rounds := 20) (depth := 6) g159 loops_none (fun x => by kernel_rfl)

/- slices.Clone[[][]millstream/batch.Entry,[]millstream/batch.Entry] -/
noncomputable def e230 : Env := env1 []
theorem g230 : GoodEnv e230 := goodEnv mix1 ent1 goods_nil
noncomputable def s230 : Spec := mkSpec (valsOne (valLst (.lst .entry))) (resOne (valOwn 30 (.lst .entry))) C_slices_Clone_lbatch_Entry
set_option maxRecDepth 100000 in
theorem ok230 : SpecOK Tryz.prog 230 s230 :=
  spec_nil (V := e230) (L := nL) (rounds := 20) (depth := 6) (r := (resOne (valOwn 30 (.lst .entry)))) g230 loops_none (by kernel_rfl) (fun x => by kernel_rfl)

/- millstream/wmem.Put -/
noncomputable def e191 : Env := env1 [(180, s180), (227, s227), (230, s230)]
theorem g191 : GoodEnv e191 := goodEnv mix1 ent1 (goods_cons ok180 rfl (goods_cons ok227 rfl (goods_cons ok230 rfl goods_nil)))
noncomputable def s191 : Spec := mkSpec (valsCons (valSt celMemo) (valsCons (valInt .i64) (valsOne (valLst .entry)))) (resTup (valsCons (valSt celMemo) (valsOne (valInt .i64)))) C_wmem_Put
set_option maxRecDepth 100000 in
theorem ok191 : SpecOK Tryz.prog 191 s191 :=
  mkSpec_ok (V := e191) (L := nL) (rounds := 20) (depth := 6) g191 loops_none (fun x => by kernel_rfl)

/- millstream/gather.publish -/
noncomputable def e160 : Env := env1 [(191, s191)]
theorem g160 : GoodEnv e160 := goodEnv mix1 ent1 (goods_cons ok191 rfl goods_nil)
noncomputable def s160 : Spec := mkSpec (valsOne (valSt celTurn)) (resOne (valSt celTurn)) C_gather_publish
set_option maxRecDepth 100000 in
theorem ok160 : SpecOK Tryz.prog 160 s160 :=
  mkSpec_ok (V := e160) (L := nL) (rounds := 20) (depth := 6) g160 loops_none (fun x => by kernel_rfl)

/- millstream/code.Deposited -/
noncomputable def e192 : Env := env1 [(150, s150)]
theorem g192 : GoodEnv e192 := goodEnv mix1 ent1 (goods_cons ok150 rfl goods_nil)
noncomputable def s192 : Spec := mkSpec (valsOne (valInt .i64)) (resOne (valInt .i64)) C_code_Deposited
set_option maxRecDepth 100000 in
theorem ok192 : SpecOK Tryz.prog 192 s192 :=
  mkSpec_ok (V := e192) (L := nL) (rounds := 20) (depth := 6) g192 loops_none (fun x => by kernel_rfl)

/- millstream/gather.deposit -/
noncomputable def e161 : Env := env1 [(95, s95), (105, s105), (192, s192)]
theorem g161 : GoodEnv e161 := goodEnv mix1 ent1 (goods_cons ok95 rfl (goods_cons ok105 rfl (goods_cons ok192 rfl goods_nil)))
noncomputable def s161 : Spec := mkSpec (valsOne (valSt celTurn)) (resOne (valSt celTurn)) C_gather_deposit
set_option maxRecDepth 100000 in
theorem ok161 : SpecOK Tryz.prog 161 s161 :=
  mkSpec_ok (V := e161) (L := nL) (rounds := 20) (depth := 6) g161 loops_none (fun x => by kernel_rfl)

/- millstream/gather.Step -/
noncomputable def e67 : Env := env1 [(156, s156), (157, s157), (158, s158), (159, s159), (160, s160), (161, s161)]
theorem g67 : GoodEnv e67 := goodEnv mix1 ent1 (goods_cons ok156 rfl (goods_cons ok157 rfl (goods_cons ok158 rfl (goods_cons ok159 rfl (goods_cons ok160 rfl (goods_cons ok161 rfl goods_nil))))))
noncomputable def s67 : Spec := mkSpec (valsOne (valSt celTurn)) (resTup (valsCons (valSt celTurn) (valsOne (valBool)))) C_gather_Step
set_option maxRecDepth 100000 in
theorem ok67 : SpecOK Tryz.prog 67 s67 :=
  mkSpec_ok (V := e67) (L := nL) (rounds := 20) (depth := 6) g67 loops_none (fun x => by kernel_rfl)

/- millstream/config.Check -/
noncomputable def e83 : Env := env1 []
theorem g83 : GoodEnv e83 := goodEnv mix1 ent1 goods_nil
noncomputable def l83_2 : LSpec := loop2 [1, 29, 30] (valsCons (valBox celConfig) (valsCons (valSt (celApp (celInt .i64) (celApp (celInt .i64) (celApp (celInt .i64) (celApp (celInt .i64) (celApp (celInt .i64) (celApp (celInt .i64) (celApp (celInt .i64) (celApp (celInt .i64) (celApp (celInt .i64) (celApp (celInt .i64) (celApp (celInt .i64) (celApp (celInt .i64) (celApp (celInt .i64) (celApp (celInt .i64) (celApp (celInt .i64) (celApp (celInt .i64) (celApp (celInt .i64) (celApp (celInt .i64) (celApp (celInt .i64) (celApp (celInt .i64) (celApp (celInt .i64) (celApp (celInt .i64) (celApp (celInt .i64) (celInt .i64))))))))))))))))))))))))) (valsOne (valInt .i64)))) (⟨.exit 0, [1], (valsOne (valBox celConfig))⟩ : Way) (⟨.ret, [2], (valsOne (valInt .i64))⟩ : Way) (whileM T_config_Check_2)
set_option maxRecDepth 100000 in
theorem lok83_2 : LoopOK e83 65 l83_2 (fnLoop e83.P 83 2) :=
  loop2_ok (L := assocL []) (rounds := 20) (depth := 6) (ts := [1, 29, 30]) (v := (valsCons (valBox celConfig) (valsCons (valSt (celApp (celInt .i64) (celApp (celInt .i64) (celApp (celInt .i64) (celApp (celInt .i64) (celApp (celInt .i64) (celApp (celInt .i64) (celApp (celInt .i64) (celApp (celInt .i64) (celApp (celInt .i64) (celApp (celInt .i64) (celApp (celInt .i64) (celApp (celInt .i64) (celApp (celInt .i64) (celApp (celInt .i64) (celApp (celInt .i64) (celApp (celInt .i64) (celApp (celInt .i64) (celApp (celInt .i64) (celApp (celInt .i64) (celApp (celInt .i64) (celApp (celInt .i64) (celApp (celInt .i64) (celApp (celInt .i64) (celInt .i64))))))))))))))))))))))))) (valsOne (valInt .i64))))) (a := ⟨.exit 0, [1], (valsOne (valBox celConfig))⟩) (b := ⟨.ret, [2], (valsOne (valInt .i64))⟩) (step := T_config_Check_2) g83 rfl rfl loops_inNil (fun x => by kernel_rfl)
noncomputable def s83 : Spec := mkSpec (valsOne (valSt celConfig)) (resOne (valInt .i64)) C_config_Check
set_option maxRecDepth 100000 in
theorem ok83 : SpecOK Tryz.prog 83 s83 :=
  mkSpec_ok (V := e83) (L := (assocL [(2, l83_2)])) (rounds := 20) (depth := 6) g83 (loops_fn (nt := 65) (by kernel_rfl) (ntB_ok (by kernel_rfl)) (loopsOK_cons lok83_2 loopsOK_nil)) (fun x => by kernel_rfl)

/- millstream/script.within -/
noncomputable def e129 : Env := env1 []
theorem g129 : GoodEnv e129 := goodEnv mix1 ent1 goods_nil
noncomputable def s129 : Spec := mkSpec (valsCons (valInt .i64) (valsOne (valInt .i64))) (resOne (valBool)) C_script_within
set_option maxRecDepth 100000 in
theorem ok129 : SpecOK Tryz.prog 129 s129 :=
  mkSpec_ok (V := e129) (L := nL) (rounds := 20) (depth := 6) g129 loops_none (fun x => by kernel_rfl)

/- millstream/oper.Known -/
noncomputable def e171 : Env := env1 []
theorem g171 : GoodEnv e171 := goodEnv mix1 ent1 goods_nil
noncomputable def s171 : Spec := mkSpec (valsOne (valInt .i64)) (resOne (valBool)) C_oper_Known
set_option maxRecDepth 100000 in
theorem ok171 : SpecOK Tryz.prog 171 s171 :=
  mkSpec_ok (V := e171) (L := nL) (rounds := 20) (depth := 6) g171 loops_none (fun x => by kernel_rfl)

/- millstream/oper.May -/
noncomputable def e130 : Env := env1 [(171, s171)]
theorem g130 : GoodEnv e130 := goodEnv mix1 ent1 (goods_cons ok171 rfl goods_nil)
noncomputable def s130 : Spec := mkSpec (valsCons (valSt celOp) (valsOne (valBool))) (resOne (valBool)) C_oper_May
set_option maxRecDepth 100000 in
theorem ok130 : SpecOK Tryz.prog 130 s130 :=
  mkSpec_ok (V := e130) (L := nL) (rounds := 20) (depth := 6) g130 loops_none (fun x => by kernel_rfl)

/- millstream/script.Check -/
noncomputable def e88 : Env := env1 [(129, s129), (130, s130)]
theorem g88 : GoodEnv e88 := goodEnv mix1 ent1 (goods_cons ok129 rfl (goods_cons ok130 rfl goods_nil))
noncomputable def s88 : Spec := mkSpec (valsCons (valSt celConfig) (valsOne (valSt celSEntry))) (resOne (valInt .i64)) C_script_Check
set_option maxRecDepth 100000 in
theorem ok88 : SpecOK Tryz.prog 88 s88 :=
  mkSpec_ok (V := e88) (L := nL) (rounds := 20) (depth := 6) g88 loops_none (fun x => by kernel_rfl)

/- millstream/script.All -/
noncomputable def e75 : Env := env1 [(83, s83), (88, s88)]
theorem g75 : GoodEnv e75 := goodEnv mix1 ent1 (goods_cons ok83 rfl (goods_cons ok88 rfl goods_nil))
noncomputable def l75_7 : LSpec := loop2 [2, 18, 19, 20] (valsCons (valBox celConfig) (valsCons (valLst .sentry) (valsCons (valInt .i64) (valsOne (valInt .i64))))) (⟨.exit 0, [], valsNil⟩ : Way) (⟨.ret, [4, 5], (valsCons (valInt .i64) (valsOne (valInt .i64)))⟩ : Way) (whileM T_script_All_7)
set_option maxRecDepth 100000 in
theorem lok75_7 : LoopOK e75 33 l75_7 (fnLoop e75.P 75 7) :=
  loop2_ok (L := assocL []) (rounds := 20) (depth := 6) (ts := [2, 18, 19, 20]) (v := (valsCons (valBox celConfig) (valsCons (valLst .sentry) (valsCons (valInt .i64) (valsOne (valInt .i64)))))) (a := ⟨.exit 0, [], valsNil⟩) (b := ⟨.ret, [4, 5], (valsCons (valInt .i64) (valsOne (valInt .i64)))⟩) (step := T_script_All_7) g75 rfl rfl loops_inNil (fun x => by kernel_rfl)
noncomputable def s75 : Spec := mkSpec (valsCons (valSt celConfig) (valsOne (valLst .sentry))) (resTup (valsCons (valInt .i64) (valsOne (valInt .i64)))) C_script_All
set_option maxRecDepth 100000 in
theorem ok75 : SpecOK Tryz.prog 75 s75 :=
  mkSpec_ok (V := e75) (L := (assocL [(7, l75_7)])) (rounds := 20) (depth := 6) g75 (loops_fn (nt := 33) (by kernel_rfl) (ntB_ok (by kernel_rfl)) (loopsOK_cons lok75_7 loopsOK_nil)) (fun x => by kernel_rfl)

/- millstream/commit.Onward -/
noncomputable def e103 : Env := env1 [(146, s146)]
theorem g103 : GoodEnv e103 := goodEnv mix1 ent1 (goods_cons ok146 rfl goods_nil)
noncomputable def s103 : Spec := mkSpec (valsOne (valSt celTurn)) (resOne (valSt celTurn)) C_commit_Onward
set_option maxRecDepth 100000 in
theorem ok103 : SpecOK Tryz.prog 103 s103 :=
  mkSpec_ok (V := e103) (L := nL) (rounds := 20) (depth := 6) g103 loops_none (fun x => by kernel_rfl)

/- millstream/code.Open -/
noncomputable def e115 : Env := env1 [(150, s150)]
theorem g115 : GoodEnv e115 := goodEnv mix1 ent1 (goods_cons ok150 rfl goods_nil)
noncomputable def s115 : Spec := mkSpec (valsCons (valInt .i64) (valsOne (valInt .i64))) (resOne (valInt .i64)) C_code_Open
set_option maxRecDepth 100000 in
theorem ok115 : SpecOK Tryz.prog 115 s115 :=
  mkSpec_ok (V := e115) (L := nL) (rounds := 20) (depth := 6) g115 loops_none (fun x => by kernel_rfl)

/- (*millstream/collide.diver).line -/
noncomputable def e117 : Env := env1 [(96, s96)]
theorem g117 : GoodEnv e117 := goodEnv mix1 ent1 (goods_cons ok96 rfl goods_nil)
noncomputable def s117 : Spec := mkSpecL (valsCons (valPtr (celApp celTurn (celInt .i64))) (valsOne (valInt .i64))) (resOne (valInt .i64)) C_collide_diver_line
set_option maxRecDepth 100000 in
theorem ok117 : SpecOK Tryz.prog 117 s117 :=
  mkSpecL_ok (V := e117) (L := nL) (rounds := 20) (depth := 6) g117 loops_none (fun x => by kernel_rfl)

/- math/bits.Mul64 -/
noncomputable def e170 : Env := env1 []
theorem g170 : GoodEnv e170 := goodEnv mix1 ent1 goods_nil
noncomputable def s170 : Spec := mkSpec (valsCons (valInt .u64) (valsOne (valInt .u64))) (resTup (valsCons (valInt .u64) (valsOne (valInt .u64)))) C_math_bits_Mul64
set_option maxRecDepth 100000 in
theorem ok170 : SpecOK Tryz.prog 170 s170 :=
  mkSpec_ok (V := e170) (L := nL) (rounds := 20) (depth := 6) g170 loops_none (fun x => by kernel_rfl)

/- math/bits.Mul -/
noncomputable def e126 : Env := env1 [(170, s170)]
theorem g126 : GoodEnv e126 := goodEnv mix1 ent1 (goods_cons ok170 rfl goods_nil)
noncomputable def s126 : Spec := mkSpec (valsCons (valInt .u64) (valsOne (valInt .u64))) (resTup (valsCons (valInt .u64) (valsOne (valInt .u64)))) C_math_bits_Mul
set_option maxRecDepth 100000 in
theorem ok126 : SpecOK Tryz.prog 126 s126 :=
  mkSpec_ok (V := e126) (L := nL) (rounds := 20) (depth := 6) g126 loops_none (fun x => by kernel_rfl)

/- slices.Clone[[]millstream/thread.Thread,millstream/thread.Thread] -/
noncomputable def e131 : Env := env1 []
theorem g131 : GoodEnv e131 := goodEnv mix1 ent1 goods_nil
noncomputable def s131 : Spec := mkSpec (valsOne (valLst .thread)) (resOne (valOwn 33 .thread)) C_slices_Clone_thread_Thread
set_option maxRecDepth 100000 in
theorem ok131 : SpecOK Tryz.prog 131 s131 :=
  spec_nil (V := e131) (L := nL) (rounds := 20) (depth := 6) (r := (resOne (valOwn 33 .thread))) g131 loops_none (by kernel_rfl) (fun x => by kernel_rfl)

/- slices.Clone[[]millstream/thread.Mark,millstream/thread.Mark] -/
noncomputable def e132 : Env := env1 []
theorem g132 : GoodEnv e132 := goodEnv mix1 ent1 goods_nil
noncomputable def s132 : Spec := mkSpec (valsOne (valLst .mark)) (resOne (valOwn 74 .mark)) C_slices_Clone_thread_Mark
set_option maxRecDepth 100000 in
theorem ok132 : SpecOK Tryz.prog 132 s132 :=
  spec_nil (V := e132) (L := nL) (rounds := 20) (depth := 6) (r := (resOne (valOwn 74 .mark))) g132 loops_none (by kernel_rfl) (fun x => by kernel_rfl)

/- slices.Clone[[]millstream/world.Event,millstream/world.Event] -/
noncomputable def e133 : Env := env1 []
theorem g133 : GoodEnv e133 := goodEnv mix1 ent1 goods_nil
noncomputable def s133 : Spec := mkSpec (valsOne (valLst .event)) (resOne (valOwn 104 .event)) C_slices_Clone_world_Event
set_option maxRecDepth 100000 in
theorem ok133 : SpecOK Tryz.prog 133 s133 :=
  spec_nil (V := e133) (L := nL) (rounds := 20) (depth := 6) (r := (resOne (valOwn 104 .event))) g133 loops_none (by kernel_rfl) (fun x => by kernel_rfl)

/- millstream/code.Told -/
noncomputable def e139 : Env := env1 [(150, s150)]
theorem g139 : GoodEnv e139 := goodEnv mix1 ent1 (goods_cons ok150 rfl goods_nil)
noncomputable def s139 : Spec := mkSpec valsNil (resOne (valInt .i64)) C_code_Told
set_option maxRecDepth 100000 in
theorem ok139 : SpecOK Tryz.prog 139 s139 :=
  mkSpec_ok (V := e139) (L := nL) (rounds := 20) (depth := 6) g139 loops_none (fun x => by kernel_rfl)

/- millstream/arena.Result -/
noncomputable def e140 : Env := env1 [(120, s120)]
theorem g140 : GoodEnv e140 := goodEnv mix1 ent1 (goods_cons ok120 rfl goods_nil)
noncomputable def s140 : Spec := mkSpec (valsCons (valSt celConfig) (valsOne (valInt .i64))) (resOne (valInt .i64)) C_arena_Result
set_option maxRecDepth 100000 in
theorem ok140 : SpecOK Tryz.prog 140 s140 :=
  mkSpec_ok (V := e140) (L := nL) (rounds := 20) (depth := 6) g140 loops_none (fun x => by kernel_rfl)

/- millstream/share.Settle -/
noncomputable def e141 : Env := env1 []
theorem g141 : GoodEnv e141 := goodEnv mix1 ent1 goods_nil
noncomputable def s141 : Spec := mkSpec (valsOne (valSt celTurn)) (resOne (valSt celTurn)) C_share_Settle
set_option maxRecDepth 100000 in
theorem ok141 : SpecOK Tryz.prog 141 s141 :=
  mkSpec_ok (V := e141) (L := nL) (rounds := 20) (depth := 6) g141 loops_none (fun x => by kernel_rfl)

/- millstream/batch.Upto -/
noncomputable def e144 : Env := env1 [(180, s180)]
theorem g144 : GoodEnv e144 := goodEnv mix1 ent1 (goods_cons ok180 rfl goods_nil)
noncomputable def s144 : Spec := mkSpec (valsCons (valLst .entry) (valsOne (valInt .i64))) (resOne (valLst .entry)) C_batch_Upto
set_option maxRecDepth 100000 in
theorem ok144 : SpecOK Tryz.prog 144 s144 :=
  mkSpec_ok (V := e144) (L := nL) (rounds := 20) (depth := 6) g144 loops_none (fun x => by kernel_rfl)

/- millstream/oper.beyond -/
noncomputable def e196 : Env := env1 []
theorem g196 : GoodEnv e196 := goodEnv mix1 ent1 goods_nil
noncomputable def s196 : Spec := mkSpec (valsCons (valInt .i64) (valsCons (valInt .i64) (valsCons (valInt .i64) (valsOne (valInt .i64))))) (resOne (valBool)) C_oper_beyond
set_option maxRecDepth 100000 in
theorem ok196 : SpecOK Tryz.prog 196 s196 :=
  mkSpec_ok (V := e196) (L := nL) (rounds := 20) (depth := 6) g196 loops_none (fun x => by kernel_rfl)

/- millstream/oper.Apply -/
noncomputable def e168 : Env := env1 [(196, s196)]
theorem g168 : GoodEnv e168 := goodEnv mix1 ent1 (goods_cons ok196 rfl goods_nil)
noncomputable def s168 : Spec := mkSpec (valsCons (valSt celOp) (valsCons (valInt .i64) (valsCons (valInt .i64) (valsOne (valInt .i64))))) (resTup (valsCons (valInt .i64) (valsOne (valBool)))) C_oper_Apply
set_option maxRecDepth 100000 in
theorem ok168 : SpecOK Tryz.prog 168 s168 :=
  mkSpec_ok (V := e168) (L := nL) (rounds := 20) (depth := 6) g168 loops_none (fun x => by kernel_rfl)

/- millstream/wmem.Swap -/
noncomputable def e194 : Env := env1 [(85, s85), (154, s154)]
theorem g194 : GoodEnv e194 := goodEnv mix1 ent1 (goods_cons ok85 rfl (goods_cons ok154 rfl goods_nil))
noncomputable def s194 : Spec := mkSpec (valsCons (valSt celMemo) (valsCons (valInt .i64) (valsOne (valInt .i64)))) (resTup (valsCons (valSt celMemo) (valsCons (valInt .i64) (valsOne (valInt .i64))))) C_wmem_Swap
set_option maxRecDepth 100000 in
theorem ok194 : SpecOK Tryz.prog 194 s194 :=
  mkSpec_ok (V := e194) (L := nL) (rounds := 20) (depth := 6) g194 loops_none (fun x => by kernel_rfl)

/- millstream/arena.Slot -/
noncomputable def e195 : Env := env1 [(120, s120)]
theorem g195 : GoodEnv e195 := goodEnv mix1 ent1 (goods_cons ok120 rfl goods_nil)
noncomputable def s195 : Spec := mkSpec (valsCons (valSt celConfig) (valsCons (valInt .i64) (valsCons (valInt .i64) (valsOne (valInt .i64))))) (resOne (valInt .i64)) C_arena_Slot
set_option maxRecDepth 100000 in
theorem ok195 : SpecOK Tryz.prog 195 s195 :=
  mkSpec_ok (V := e195) (L := nL) (rounds := 20) (depth := 6) g195 loops_none (fun x => by kernel_rfl)

/- millstream/tape.Left -/
noncomputable def e249 : Env := env1 []
theorem g249 : GoodEnv e249 := goodEnv mix1 ent1 goods_nil
noncomputable def s249 : Spec := mkSpec (valsOne (valSt celTape)) (resOne (valInt .i64)) C_tape_Left
set_option maxRecDepth 100000 in
theorem ok249 : SpecOK Tryz.prog 249 s249 :=
  mkSpec_ok (V := e249) (L := nL) (rounds := 20) (depth := 6) g249 loops_none (fun x => by kernel_rfl)

end Go.Proofs.Mill
