/- The functions compute this. -/
import Derived.Test.YtcokmmhkajmkhaaMillTape
import Derived.Test.YtcokmmhkajmkhaaMillSeat1
import Derived.Test.YtcokmmhkajmkhaaMillF
namespace Go.Proofs.Mill
set_option linter.all false
/- millstream/millstreamlaw13.big -/
noncomputable def e35 : Env := env1 []
theorem g35 : GoodEnv e35 := goodEnv mix1 ent1 goods_nil
noncomputable def l35_2 : LSpec := loop2 [1, 3] (valsCons (valBox celTurn) (valsOne (valInt .i64))) (⟨.exit 0, [1], (valsOne (valBox celTurn))⟩ : Way) (⟨.ret, [2], (valsOne (valBool))⟩ : Way) (whileM T_law13_big_2)
set_option maxRecDepth 100000 in
theorem lok35_2 : LoopOK e35 70 l35_2 (fnLoop e35.P 35 2) :=
  loop2_ok (L := assocL []) (rounds := 20) (depth := 6) (ts := [1, 3]) (v := (valsCons (valBox celTurn) (valsOne (valInt .i64)))) (a := ⟨.exit 0, [1], (valsOne (valBox celTurn))⟩) (b := ⟨.ret, [2], (valsOne (valBool))⟩) (step := T_law13_big_2) g35 rfl rfl loops_inNil (fun x => by kernel_rfl)
noncomputable def s35 : Spec := mkSpec (valsOne (valSt celTurn)) (resOne (valBool)) C_law13_big
set_option maxRecDepth 100000 in
theorem ok35 : SpecOK Try.prog 35 s35 :=
  mkSpec_ok (V := e35) (L := (assocL [(2, l35_2)])) (rounds := 20) (depth := 6) g35 (loops_fn (nt := 70) (by kernel_rfl) (ntB_ok (by kernel_rfl)) (loopsOK_cons lok35_2 loopsOK_nil)) (fun x => by kernel_rfl)

/- millstream/millstreamref05.Check -/
noncomputable def e44 : Env := env1 []
theorem g44 : GoodEnv e44 := goodEnv mix1 ent1 goods_nil
noncomputable def s44 : Spec := mkSpec (valsOne (valSt celConfig)) (resOne (valInt .i64)) C_ref05_Check
set_option maxRecDepth 100000 in
theorem ok44 : SpecOK Try.prog 44 s44 :=
  mkSpec_ok (V := e44) (L := nL) (rounds := 20) (depth := 6) g44 loops_none (fun x => by kernel_rfl)

/- millstream/millstreamref06.Nodes -/
noncomputable def e119 : Env := env1 []
theorem g119 : GoodEnv e119 := goodEnv mix1 ent1 goods_nil
noncomputable def l119_3 : LSpec := loop1 [1, 3, 4] (valsCons (valBox celConfig) (valsCons (valInt .i64) (valsOne (valInt .i64)))) (⟨.exit 0, [3], (valsOne (valInt .i64))⟩ : Way) (whileM T_ref06_Nodes_3)
set_option maxRecDepth 100000 in
theorem lok119_3 : LoopOK e119 15 l119_3 (fnLoop e119.P 119 3) :=
  loop1_ok (L := assocL []) (rounds := 20) (depth := 6) (ts := [1, 3, 4]) (v := (valsCons (valBox celConfig) (valsCons (valInt .i64) (valsOne (valInt .i64))))) (a := ⟨.exit 0, [3], (valsOne (valInt .i64))⟩) (step := T_ref06_Nodes_3) g119 rfl loops_inNil (fun x => by kernel_rfl)
noncomputable def s119 : Spec := mkSpec (valsOne (valSt celConfig)) (resOne (valInt .i64)) C_ref06_Nodes
set_option maxRecDepth 100000 in
theorem ok119 : SpecOK Try.prog 119 s119 :=
  mkSpec_ok (V := e119) (L := (assocL [(3, l119_3)])) (rounds := 20) (depth := 6) g119 (loops_fn (nt := 15) (by kernel_rfl) (ntB_ok (by kernel_rfl)) (loopsOK_cons lok119_3 loopsOK_nil)) (fun x => by kernel_rfl)

/- millstream/millstreamref06.block -/
noncomputable def e118 : Env := env1 [(119, s119)]
theorem g118 : GoodEnv e118 := goodEnv mix1 ent1 (goods_cons ok119 rfl goods_nil)
noncomputable def s118 : Spec := mkSpec (valsOne (valSt celConfig)) (resOne (valInt .i64)) C_ref06_block
set_option maxRecDepth 100000 in
theorem ok118 : SpecOK Try.prog 118 s118 :=
  mkSpec_ok (V := e118) (L := nL) (rounds := 20) (depth := 6) g118 loops_none (fun x => by kernel_rfl)

/- millstream/millstreamref06.Size -/
noncomputable def e47 : Env := env1 [(118, s118)]
theorem g47 : GoodEnv e47 := goodEnv mix1 ent1 (goods_cons ok118 rfl goods_nil)
noncomputable def s47 : Spec := mkSpec (valsOne (valSt celConfig)) (resOne (valInt .i64)) C_ref06_Size
set_option maxRecDepth 100000 in
theorem ok47 : SpecOK Try.prog 47 s47 :=
  mkSpec_ok (V := e47) (L := nL) (rounds := 20) (depth := 6) g47 loops_none (fun x => by kernel_rfl)

/- millstream/millstreamlaw13.may -/
noncomputable def e36 : Env := env1 [(44, s44), (47, s47)]
theorem g36 : GoodEnv e36 := goodEnv mix1 ent1 (goods_cons ok44 rfl (goods_cons ok47 rfl goods_nil))
noncomputable def s36 : Spec := mkSpec (valsOne (valSt celTurn)) (resOne (valBool)) C_law13_may
set_option maxRecDepth 100000 in
theorem ok36 : SpecOK Try.prog 36 s36 :=
  mkSpec_ok (V := e36) (L := nL) (rounds := 20) (depth := 6) g36 loops_none (fun x => by kernel_rfl)

/- (millstream/code.said).word -/
noncomputable def e120 : Env := env1 []
theorem g120 : GoodEnv e120 := goodEnv mix1 ent1 goods_nil
noncomputable def s120 : Spec := mkSpec (valsOne (valSt celSaid)) (resOne (valInt .i64)) C_code_said_word
set_option maxRecDepth 100000 in
theorem ok120 : SpecOK Try.prog 120 s120 :=
  mkSpec_ok (V := e120) (L := nL) (rounds := 20) (depth := 6) g120 loops_none (fun x => by kernel_rfl)

/- millstream/code.First -/
noncomputable def e51 : Env := env1 [(120, s120)]
theorem g51 : GoodEnv e51 := goodEnv mix1 ent1 (goods_cons ok120 rfl goods_nil)
noncomputable def s51 : Spec := mkSpec (valsOne (valInt .i64)) (resOne (valInt .i64)) C_code_First
set_option maxRecDepth 100000 in
theorem ok51 : SpecOK Try.prog 51 s51 :=
  mkSpec_ok (V := e51) (L := nL) (rounds := 20) (depth := 6) g51 loops_none (fun x => by kernel_rfl)

/- millstream/code.Joined -/
noncomputable def e52 : Env := env1 [(120, s120)]
theorem g52 : GoodEnv e52 := goodEnv mix1 ent1 (goods_cons ok120 rfl goods_nil)
noncomputable def s52 : Spec := mkSpec (valsOne (valInt .i64)) (resOne (valInt .i64)) C_code_Joined
set_option maxRecDepth 100000 in
theorem ok52 : SpecOK Try.prog 52 s52 :=
  mkSpec_ok (V := e52) (L := nL) (rounds := 20) (depth := 6) g52 loops_none (fun x => by kernel_rfl)

/- millstream/arena.Nodes -/
noncomputable def e163 : Env := env1 []
theorem g163 : GoodEnv e163 := goodEnv mix1 ent1 goods_nil
noncomputable def s163 : Spec := mkSpec (valsOne (valSt celConfig)) (resOne (valInt .i64)) C_arena_Nodes
set_option maxRecDepth 100000 in
theorem ok163 : SpecOK Try.prog 163 s163 :=
  mkSpec_ok (V := e163) (L := nL) (rounds := 20) (depth := 6) g163 loops_none (fun x => by kernel_rfl)

/- millstream/arena.of -/
noncomputable def e165 : Env := env1 [(163, s163)]
theorem g165 : GoodEnv e165 := goodEnv mix1 ent1 (goods_cons ok163 rfl goods_nil)
noncomputable def s165 : Spec := mkSpec (valsOne (valSt celConfig)) (resOne (valSt celPlan)) C_arena_of
set_option maxRecDepth 100000 in
theorem ok165 : SpecOK Try.prog 165 s165 :=
  mkSpec_ok (V := e165) (L := nL) (rounds := 20) (depth := 6) g165 loops_none (fun x => by kernel_rfl)

/- millstream/arena.Node -/
noncomputable def e93 : Env := env1 [(163, s163), (165, s165)]
theorem g93 : GoodEnv e93 := goodEnv mix1 ent1 (goods_cons ok163 rfl (goods_cons ok165 rfl goods_nil))
noncomputable def s93 : Spec := mkSpec (valsCons (valSt celConfig) (valsCons (valInt .i64) (valsOne (valInt .i64)))) (resOne (valInt .i64)) C_arena_Node
set_option maxRecDepth 100000 in
theorem ok93 : SpecOK Try.prog 93 s93 :=
  mkSpec_ok (V := e93) (L := nL) (rounds := 20) (depth := 6) g93 loops_none (fun x => by kernel_rfl)

/- slices.Clone[[]int,int] -/
noncomputable def e166 : Env := env1 []
theorem g166 : GoodEnv e166 := goodEnv mix1 ent1 goods_nil
noncomputable def s166 : Spec := mkSpec (valsOne (valLst .int)) (resOne (valOwn 3 .int)) C_slices_Clone_int
set_option maxRecDepth 100000 in
theorem ok166 : SpecOK Try.prog 166 s166 :=
  spec_nil (V := e166) (L := nL) (rounds := 20) (depth := 6) (r := (resOne (valOwn 3 .int))) g166 loops_none (by kernel_rfl) (fun x => by kernel_rfl)

/- millstream/shape.Parent -/
noncomputable def e167 : Env := env1 []
theorem g167 : GoodEnv e167 := goodEnv mix1 ent1 goods_nil
noncomputable def s167 : Spec := mkSpec (valsOne (valInt .i64)) (resOne (valInt .i64)) C_shape_Parent
set_option maxRecDepth 100000 in
theorem ok167 : SpecOK Try.prog 167 s167 :=
  mkSpec_ok (V := e167) (L := nL) (rounds := 20) (depth := 6) g167 loops_none (fun x => by kernel_rfl)

/- millstream/climb.Down -/
noncomputable def e42 : Env := env1 []
theorem g42 : GoodEnv e42 := goodEnv mix1 ent1 goods_nil
noncomputable def s42 : Spec := mkSpec (valsOne (valSt celTurn)) (resOne (valSt celTurn)) C_climb_Down
set_option maxRecDepth 100000 in
theorem ok42 : SpecOK Try.prog 42 s42 :=
  mkSpec_ok (V := e42) (L := nL) (rounds := 20) (depth := 6) g42 loops_none (fun x => by kernel_rfl)

/- millstream/climb.over -/
noncomputable def e168 : Env := env1 [(42, s42)]
theorem g168 : GoodEnv e168 := goodEnv mix1 ent1 (goods_cons ok42 rfl goods_nil)
noncomputable def s168 : Spec := mkSpec (valsOne (valSt celTurn)) (resOne (valSt celTurn)) C_climb_over
set_option maxRecDepth 100000 in
theorem ok168 : SpecOK Try.prog 168 s168 :=
  mkSpec_ok (V := e168) (L := nL) (rounds := 20) (depth := 6) g168 loops_none (fun x => by kernel_rfl)

/- millstream/climb.taken -/
noncomputable def e94 : Env := env1 [(166, s166), (167, s167), (168, s168)]
theorem g94 : GoodEnv e94 := goodEnv mix1 ent1 (goods_cons ok166 rfl (goods_cons ok167 rfl (goods_cons ok168 rfl goods_nil)))
noncomputable def s94 : Spec := mkSpec (valsOne (valSt celTurn)) (resOne (valSt celTurn)) C_climb_taken
set_option maxRecDepth 100000 in
theorem ok94 : SpecOK Try.prog 94 s94 :=
  mkSpec_ok (V := e94) (L := nL) (rounds := 20) (depth := 6) g94 loops_none (fun x => by kernel_rfl)

/- millstream/wmem.at[int] -/
noncomputable def e171 : Env := env1 []
theorem g171 : GoodEnv e171 := goodEnv mix1 ent1 goods_nil
noncomputable def s171 : Spec := mkSpec (valsCons (valLst .int) (valsOne (valInt .i64))) (resTup (valsCons (valInt .i64) (valsOne (valInt .i64)))) C_wmem_at_int
set_option maxRecDepth 100000 in
theorem ok171 : SpecOK Try.prog 171 s171 :=
  mkSpec_ok (V := e171) (L := nL) (rounds := 20) (depth := 6) g171 loops_none (fun x => by kernel_rfl)

/- millstream/wmem.Cas -/
noncomputable def e96 : Env := env1 [(166, s166), (171, s171)]
theorem g96 : GoodEnv e96 := goodEnv mix1 ent1 (goods_cons ok166 rfl (goods_cons ok171 rfl goods_nil))
noncomputable def s96 : Spec := mkSpec (valsCons (valSt celMemo) (valsCons (valInt .i64) (valsCons (valInt .i64) (valsOne (valInt .i64))))) (resTup (valsCons (valSt celMemo) (valsCons (valBool) (valsOne (valInt .i64))))) C_wmem_Cas
set_option maxRecDepth 100000 in
theorem ok96 : SpecOK Try.prog 96 s96 :=
  mkSpec_ok (V := e96) (L := nL) (rounds := 20) (depth := 6) g96 loops_none (fun x => by kernel_rfl)

/- millstream/wmem.Load -/
noncomputable def e97 : Env := env1 [(171, s171)]
theorem g97 : GoodEnv e97 := goodEnv mix1 ent1 (goods_cons ok171 rfl goods_nil)
noncomputable def s97 : Spec := mkSpec (valsCons (valSt celMemo) (valsOne (valInt .i64))) (resTup (valsCons (valInt .i64) (valsOne (valInt .i64)))) C_wmem_Load
set_option maxRecDepth 100000 in
theorem ok97 : SpecOK Try.prog 97 s97 :=
  mkSpec_ok (V := e97) (L := nL) (rounds := 20) (depth := 6) g97 loops_none (fun x => by kernel_rfl)

/- millstream/thread.Late -/
noncomputable def e53 : Env := env1 []
theorem g53 : GoodEnv e53 := goodEnv mix1 ent1 goods_nil
noncomputable def s53 : Spec := mkSpec (valsOne (valSt celTurn)) (resOne (valBool)) C_thread_Late
set_option maxRecDepth 100000 in
theorem ok53 : SpecOK Try.prog 53 s53 :=
  mkSpec_ok (V := e53) (L := nL) (rounds := 20) (depth := 6) g53 loops_none (fun x => by kernel_rfl)

/- millstream/code.of -/
noncomputable def e195 : Env := env1 []
theorem g195 : GoodEnv e195 := goodEnv mix1 ent1 goods_nil
noncomputable def s195 : Spec := mkSpec (valsOne (valInt .i64)) (resOne (valSt celSaid)) C_code_of
set_option maxRecDepth 100000 in
theorem ok195 : SpecOK Try.prog 195 s195 :=
  mkSpec_ok (V := e195) (L := nL) (rounds := 20) (depth := 6) g195 loops_none (fun x => by kernel_rfl)

/- millstream/code.Kind -/
noncomputable def e172 : Env := env1 [(195, s195)]
theorem g172 : GoodEnv e172 := goodEnv mix1 ent1 (goods_cons ok195 rfl goods_nil)
noncomputable def s172 : Spec := mkSpec (valsOne (valInt .i64)) (resOne (valInt .i64)) C_code_Kind
set_option maxRecDepth 100000 in
theorem ok172 : SpecOK Try.prog 172 s172 :=
  mkSpec_ok (V := e172) (L := nL) (rounds := 20) (depth := 6) g172 loops_none (fun x => by kernel_rfl)

/- millstream/climb.look -/
noncomputable def e98 : Env := env1 [(53, s53), (168, s168), (172, s172)]
theorem g98 : GoodEnv e98 := goodEnv mix1 ent1 (goods_cons ok53 rfl (goods_cons ok168 rfl (goods_cons ok172 rfl goods_nil)))
noncomputable def s98 : Spec := mkSpec (valsCons (valSt celTurn) (valsOne (valInt .i64))) (resOne (valSt celTurn)) C_climb_look
set_option maxRecDepth 100000 in
theorem ok98 : SpecOK Try.prog 98 s98 :=
  mkSpec_ok (V := e98) (L := nL) (rounds := 20) (depth := 6) g98 loops_none (fun x => by kernel_rfl)

/- millstream/climb.joined -/
noncomputable def e99 : Env := env1 [(168, s168)]
theorem g99 : GoodEnv e99 := goodEnv mix1 ent1 (goods_cons ok168 rfl goods_nil)
noncomputable def s99 : Spec := mkSpec (valsOne (valSt celTurn)) (resOne (valSt celTurn)) C_climb_joined
set_option maxRecDepth 100000 in
theorem ok99 : SpecOK Try.prog 99 s99 :=
  mkSpec_ok (V := e99) (L := nL) (rounds := 20) (depth := 6) g99 loops_none (fun x => by kernel_rfl)

/- millstream/climb.Step -/
noncomputable def e38 : Env := env1 [(51, s51), (52, s52), (93, s93), (94, s94), (96, s96), (97, s97), (98, s98), (99, s99)]
theorem g38 : GoodEnv e38 := goodEnv mix1 ent1 (goods_cons ok51 rfl (goods_cons ok52 rfl (goods_cons ok93 rfl (goods_cons ok94 rfl (goods_cons ok96 rfl (goods_cons ok97 rfl (goods_cons ok98 rfl (goods_cons ok99 rfl goods_nil))))))))
noncomputable def s38 : Spec := mkSpec (valsOne (valSt celTurn)) (resTup (valsCons (valSt celTurn) (valsOne (valBool)))) C_climb_Step
set_option maxRecDepth 100000 in
theorem ok38 : SpecOK Try.prog 38 s38 :=
  mkSpec_ok (V := e38) (L := nL) (rounds := 20) (depth := 6) g38 loops_none (fun x => by kernel_rfl)

/- millstream/wmem.made[int] -/
noncomputable def e175 : Env := env1 []
theorem g175 : GoodEnv e175 := goodEnv mix1 ent1 goods_nil
noncomputable def s175 : Spec := mkSpec (valsOne (valInt .i64)) (resOne (valOwn 3 .int)) C_wmem_made_int
set_option maxRecDepth 100000 in
theorem ok175 : SpecOK Try.prog 175 s175 :=
  mkSpec_ok (V := e175) (L := nL) (rounds := 20) (depth := 6) g175 loops_none (fun x => by kernel_rfl)

/- millstream/wmem.made[[]millstream/batch.Entry] -/
noncomputable def e176 : Env := env1 []
theorem g176 : GoodEnv e176 := goodEnv mix1 ent1 goods_nil
noncomputable def s176 : Spec := mkSpec (valsOne (valInt .i64)) (resOne (valOwn 71 (.lst .entry))) C_wmem_made_lbatch_Entry
set_option maxRecDepth 100000 in
theorem ok176 : SpecOK Try.prog 176 s176 :=
  mkSpec_ok (V := e176) (L := nL) (rounds := 20) (depth := 6) g176 loops_none (fun x => by kernel_rfl)

/- millstream/wmem.New -/
noncomputable def e115 : Env := env1 [(175, s175), (176, s176)]
theorem g115 : GoodEnv e115 := goodEnv mix1 ent1 (goods_cons ok175 rfl (goods_cons ok176 rfl goods_nil))
noncomputable def s115 : Spec := mkSpec (valsCons (valInt .i64) (valsOne (valInt .i64))) (resOne (valSt (celAs (celApp (celOwn 3 .int) (celOwn 71 (.lst .entry))) Memo (fun y => ⟨y.1, y.2⟩) (fun x => (x.words, x.boxes)) (fun _ => rfl)))) C_wmem_New
set_option maxRecDepth 100000 in
theorem ok115 : SpecOK Try.prog 115 s115 :=
  mkSpec_ok (V := e115) (L := nL) (rounds := 20) (depth := 6) g115 loops_none (fun x => by kernel_rfl)

/- millstream/arena.Size -/
noncomputable def e116 : Env := env1 [(165, s165)]
theorem g116 : GoodEnv e116 := goodEnv mix1 ent1 (goods_cons ok165 rfl goods_nil)
noncomputable def s116 : Spec := mkSpec (valsOne (valSt celConfig)) (resOne (valInt .i64)) C_arena_Size
set_option maxRecDepth 100000 in
theorem ok116 : SpecOK Try.prog 116 s116 :=
  mkSpec_ok (V := e116) (L := nL) (rounds := 20) (depth := 6) g116 loops_none (fun x => by kernel_rfl)

/- millstream/arena.Cell -/
noncomputable def e117 : Env := env1 [(165, s165)]
theorem g117 : GoodEnv e117 := goodEnv mix1 ent1 (goods_cons ok165 rfl goods_nil)
noncomputable def s117 : Spec := mkSpec (valsCons (valSt celConfig) (valsOne (valInt .i64))) (resOne (valInt .i64)) C_arena_Cell
set_option maxRecDepth 100000 in
theorem ok117 : SpecOK Try.prog 117 s117 :=
  mkSpec_ok (V := e117) (L := nL) (rounds := 20) (depth := 6) g117 loops_none (fun x => by kernel_rfl)

/- millstream/arena.Build -/
noncomputable def e45 : Env := env1 [(115, s115), (116, s116), (117, s117)]
theorem g45 : GoodEnv e45 := goodEnv mix1 ent1 (goods_cons ok115 rfl (goods_cons ok116 rfl (goods_cons ok117 rfl goods_nil)))
noncomputable def l45_3 : LSpec := loop1 [1, 2, 3, 11, 12] (valsCons (valBox celConfig) (valsCons (valBox celMemo) (valsCons (valBox (celAs (celApp (celOwn 3 .int) (celOwn 71 (.lst .entry))) Memo (fun y => ⟨y.1, y.2⟩) (fun x => (x.words, x.boxes)) (fun _ => rfl))) (valsCons (valInt .i64) (valsOne (valInt .i64)))))) (⟨.exit 0, [2, 3], (valsCons (valBox celMemo) (valsOne (valBox (celAs (celApp (celOwn 3 .int) (celOwn 71 (.lst .entry))) Memo (fun y => ⟨y.1, y.2⟩) (fun x => (x.words, x.boxes)) (fun _ => rfl)))))⟩ : Way) (whileM T_arena_Build_3)
set_option maxRecDepth 100000 in
theorem lok45_3 : LoopOK e45 25 l45_3 (fnLoop e45.P 45 3) :=
  loop1_ok (L := assocL []) (rounds := 20) (depth := 6) (ts := [1, 2, 3, 11, 12]) (v := (valsCons (valBox celConfig) (valsCons (valBox celMemo) (valsCons (valBox (celAs (celApp (celOwn 3 .int) (celOwn 71 (.lst .entry))) Memo (fun y => ⟨y.1, y.2⟩) (fun x => (x.words, x.boxes)) (fun _ => rfl))) (valsCons (valInt .i64) (valsOne (valInt .i64))))))) (a := ⟨.exit 0, [2, 3], (valsCons (valBox celMemo) (valsOne (valBox (celAs (celApp (celOwn 3 .int) (celOwn 71 (.lst .entry))) Memo (fun y => ⟨y.1, y.2⟩) (fun x => (x.words, x.boxes)) (fun _ => rfl)))))⟩) (step := T_arena_Build_3) g45 rfl loops_inNil (fun x => by kernel_rfl)
noncomputable def s45 : Spec := mkSpec (valsOne (valSt celConfig)) (resOne (valSt (celAs (celApp (celOwn 3 .int) (celOwn 71 (.lst .entry))) Memo (fun y => ⟨y.1, y.2⟩) (fun x => (x.words, x.boxes)) (fun _ => rfl)))) C_arena_Build
set_option maxRecDepth 100000 in
theorem ok45 : SpecOK Try.prog 45 s45 :=
  mkSpec_ok (V := e45) (L := (assocL [(3, l45_3)])) (rounds := 20) (depth := 6) g45 (loops_fn (nt := 25) (by kernel_rfl) (ntB_ok (by kernel_rfl)) (loopsOK_cons lok45_3 loopsOK_nil)) (fun x => by kernel_rfl)

/- millstream/millstreamlaw13.shown -/
noncomputable def e37 : Env := env1 [(38, s38), (45, s45), (51, s51), (52, s52)]
theorem g37 : GoodEnv e37 := goodEnv mix1 ent1 (goods_cons ok38 rfl (goods_cons ok45 rfl (goods_cons ok51 rfl (goods_cons ok52 rfl goods_nil))))
noncomputable def s37 : Spec := mkSpec valsNil (resOne (valBool)) C_law13_shown
set_option maxRecDepth 100000 in
theorem ok37 : SpecOK Try.prog 37 s37 :=
  mkSpec_ok (V := e37) (L := nL) (rounds := 20) (depth := 6) g37 loops_none (fun x => by kernel_rfl)

/- millstream/millstreamref06.Node -/
noncomputable def e50 : Env := env1 [(118, s118), (119, s119)]
theorem g50 : GoodEnv e50 := goodEnv mix1 ent1 (goods_cons ok118 rfl (goods_cons ok119 rfl goods_nil))
noncomputable def s50 : Spec := mkSpec (valsCons (valSt celConfig) (valsCons (valInt .i64) (valsOne (valInt .i64)))) (resOne (valInt .i64)) C_ref06_Node
set_option maxRecDepth 100000 in
theorem ok50 : SpecOK Try.prog 50 s50 :=
  mkSpec_ok (V := e50) (L := nL) (rounds := 20) (depth := 6) g50 loops_none (fun x => by kernel_rfl)

/- millstream/millstreamref03.Load -/
noncomputable def e100 : Env := env1 []
theorem g100 : GoodEnv e100 := goodEnv mix1 ent1 goods_nil
noncomputable def s100 : Spec := mkSpec (valsCons (valSt celMemo) (valsOne (valInt .i64))) (resTup (valsCons (valInt .i64) (valsOne (valInt .i64)))) C_ref03_Load
set_option maxRecDepth 100000 in
theorem ok100 : SpecOK Try.prog 100 s100 :=
  mkSpec_ok (V := e100) (L := nL) (rounds := 20) (depth := 6) g100 loops_none (fun x => by kernel_rfl)

/- millstream/millstreamref08.First -/
noncomputable def e105 : Env := env1 []
theorem g105 : GoodEnv e105 := goodEnv mix1 ent1 goods_nil
noncomputable def s105 : Spec := mkSpec (valsOne (valInt .i64)) (resOne (valInt .i64)) C_ref08_First
set_option maxRecDepth 100000 in
theorem ok105 : SpecOK Try.prog 105 s105 :=
  mkSpec_ok (V := e105) (L := nL) (rounds := 20) (depth := 6) g105 loops_none (fun x => by kernel_rfl)

/- millstream/millstreamref08.Joined -/
noncomputable def e107 : Env := env1 []
theorem g107 : GoodEnv e107 := goodEnv mix1 ent1 goods_nil
noncomputable def s107 : Spec := mkSpec (valsOne (valInt .i64)) (resOne (valInt .i64)) C_ref08_Joined
set_option maxRecDepth 100000 in
theorem ok107 : SpecOK Try.prog 107 s107 :=
  mkSpec_ok (V := e107) (L := nL) (rounds := 20) (depth := 6) g107 loops_none (fun x => by kernel_rfl)

/- millstream/millstreamref08.Deposited -/
noncomputable def e133 : Env := env1 []
theorem g133 : GoodEnv e133 := goodEnv mix1 ent1 goods_nil
noncomputable def s133 : Spec := mkSpec (valsOne (valInt .i64)) (resOne (valInt .i64)) C_ref08_Deposited
set_option maxRecDepth 100000 in
theorem ok133 : SpecOK Try.prog 133 s133 :=
  mkSpec_ok (V := e133) (L := nL) (rounds := 20) (depth := 6) g133 loops_none (fun x => by kernel_rfl)

/- millstream/millstreamref08.Told -/
noncomputable def e173 : Env := env1 []
theorem g173 : GoodEnv e173 := goodEnv mix1 ent1 goods_nil
noncomputable def s173 : Spec := mkSpec valsNil (resOne (valInt .i64)) C_ref08_Told
set_option maxRecDepth 100000 in
theorem ok173 : SpecOK Try.prog 173 s173 :=
  mkSpec_ok (V := e173) (L := nL) (rounds := 20) (depth := 6) g173 loops_none (fun x => by kernel_rfl)

/- millstream/millstreamref08.Open -/
noncomputable def e174 : Env := env1 []
theorem g174 : GoodEnv e174 := goodEnv mix1 ent1 goods_nil
noncomputable def s174 : Spec := mkSpec (valsCons (valInt .i64) (valsOne (valInt .i64))) (resOne (valInt .i64)) C_ref08_Open
set_option maxRecDepth 100000 in
theorem ok174 : SpecOK Try.prog 174 s174 :=
  mkSpec_ok (V := e174) (L := nL) (rounds := 20) (depth := 6) g174 loops_none (fun x => by kernel_rfl)

/- millstream/millstreamref08.Kind -/
noncomputable def e101 : Env := env1 [(105, s105), (107, s107), (133, s133), (173, s173), (174, s174)]
theorem g101 : GoodEnv e101 := goodEnv mix1 ent1 (goods_cons ok105 rfl (goods_cons ok107 rfl (goods_cons ok133 rfl (goods_cons ok173 rfl (goods_cons ok174 rfl goods_nil)))))
noncomputable def l101_18 : LSpec := loop2 [0, 4, 5] (valsCons (valInt .i64) (valsCons (valInt .i64) (valsOne (valInt .i64)))) (⟨.exit 4, [0, 4], (valsCons (valInt .i64) (valsOne (valInt .i64)))⟩ : Way) (⟨.ret, [2], (valsOne (valInt .i64))⟩ : Way) (whileM T_ref08_Kind_18)
set_option maxRecDepth 100000 in
theorem lok101_18 : LoopOK e101 40 l101_18 (fnLoop e101.P 101 18) :=
  loop2_ok (L := assocL []) (rounds := 20) (depth := 6) (ts := [0, 4, 5]) (v := (valsCons (valInt .i64) (valsCons (valInt .i64) (valsOne (valInt .i64))))) (a := ⟨.exit 4, [0, 4], (valsCons (valInt .i64) (valsOne (valInt .i64)))⟩) (b := ⟨.ret, [2], (valsOne (valInt .i64))⟩) (step := T_ref08_Kind_18) g101 rfl rfl loops_inNil (fun x => by kernel_rfl)
noncomputable def l101_15 : LSpec := loop2 [0, 4] (valsCons (valInt .i64) (valsOne (valInt .i64))) (⟨.exit 2, [], valsNil⟩ : Way) (⟨.ret, [2], (valsOne (valInt .i64))⟩ : Way) (whileM T_ref08_Kind_15)
set_option maxRecDepth 100000 in
theorem lok101_15 : LoopOK e101 40 l101_15 (fnLoop e101.P 101 15) :=
  loop2_ok (L := assocL [(18, l101_18)]) (rounds := 20) (depth := 6) (ts := [0, 4]) (v := (valsCons (valInt .i64) (valsOne (valInt .i64)))) (a := ⟨.exit 2, [], valsNil⟩) (b := ⟨.ret, [2], (valsOne (valInt .i64))⟩) (step := T_ref08_Kind_15) g101 rfl rfl (loops_in (by kernel_rfl) (loopsOK_cons lok101_18 loopsOK_nil)) (fun x => by kernel_rfl)
noncomputable def l101_6 : LSpec := loop2 [0, 3] (valsCons (valInt .i64) (valsOne (valInt .i64))) (⟨.exit 0, [0], (valsOne (valInt .i64))⟩ : Way) (⟨.ret, [2], (valsOne (valInt .i64))⟩ : Way) (whileM T_ref08_Kind_6)
set_option maxRecDepth 100000 in
theorem lok101_6 : LoopOK e101 40 l101_6 (fnLoop e101.P 101 6) :=
  loop2_ok (L := assocL []) (rounds := 20) (depth := 6) (ts := [0, 3]) (v := (valsCons (valInt .i64) (valsOne (valInt .i64)))) (a := ⟨.exit 0, [0], (valsOne (valInt .i64))⟩) (b := ⟨.ret, [2], (valsOne (valInt .i64))⟩) (step := T_ref08_Kind_6) g101 rfl rfl loops_inNil (fun x => by kernel_rfl)
noncomputable def s101 : Spec := mkSpec (valsOne (valInt .i64)) (resOne (valInt .i64)) C_ref08_Kind
set_option maxRecDepth 100000 in
theorem ok101 : SpecOK Try.prog 101 s101 :=
  mkSpec_ok (V := e101) (L := (assocL [(18, l101_18), (15, l101_15), (6, l101_6)])) (rounds := 20) (depth := 6) g101 (loops_fn (nt := 40) (by kernel_rfl) (ntB_ok (by kernel_rfl)) (loopsOK_cons lok101_18 (loopsOK_cons lok101_15 (loopsOK_cons lok101_6 loopsOK_nil)))) (fun x => by kernel_rfl)

/- millstream/millstreamref10.Late -/
noncomputable def e102 : Env := env1 []
theorem g102 : GoodEnv e102 := goodEnv mix1 ent1 goods_nil
noncomputable def s102 : Spec := mkSpec (valsOne (valSt celTurn)) (resOne (valBool)) C_ref10_Late
set_option maxRecDepth 100000 in
theorem ok102 : SpecOK Try.prog 102 s102 :=
  mkSpec_ok (V := e102) (L := nL) (rounds := 20) (depth := 6) g102 loops_none (fun x => by kernel_rfl)

/- millstream/millstreamref13.Down -/
noncomputable def e43 : Env := env1 []
theorem g43 : GoodEnv e43 := goodEnv mix1 ent1 goods_nil
noncomputable def s43 : Spec := mkSpec (valsOne (valSt celTurn)) (resOne (valSt celTurn)) C_ref13_Down
set_option maxRecDepth 100000 in
theorem ok43 : SpecOK Try.prog 43 s43 :=
  mkSpec_ok (V := e43) (L := nL) (rounds := 20) (depth := 6) g43 loops_none (fun x => by kernel_rfl)

/- millstream/millstreamref13.over -/
noncomputable def e103 : Env := env1 [(43, s43)]
theorem g103 : GoodEnv e103 := goodEnv mix1 ent1 (goods_cons ok43 rfl goods_nil)
noncomputable def s103 : Spec := mkSpec (valsOne (valSt celTurn)) (resOne (valSt celTurn)) C_ref13_over
set_option maxRecDepth 100000 in
theorem ok103 : SpecOK Try.prog 103 s103 :=
  mkSpec_ok (V := e103) (L := nL) (rounds := 20) (depth := 6) g103 loops_none (fun x => by kernel_rfl)

/- millstream/millstreamref03.Store -/
noncomputable def e131 : Env := env1 []
theorem g131 : GoodEnv e131 := goodEnv mix1 ent1 goods_nil
noncomputable def s131 : Spec := mkSpec (valsCons (valSt celMemo) (valsCons (valInt .i64) (valsOne (valInt .i64)))) (resTup (valsCons (valSt celMemo) (valsOne (valInt .i64)))) C_ref03_Store
set_option maxRecDepth 100000 in
theorem ok131 : SpecOK Try.prog 131 s131 :=
  mkSpec_ok (V := e131) (L := nL) (rounds := 20) (depth := 6) g131 loops_none (fun x => by kernel_rfl)

/- millstream/millstreamref03.Cas -/
noncomputable def e104 : Env := env1 [(100, s100), (131, s131)]
theorem g104 : GoodEnv e104 := goodEnv mix1 ent1 (goods_cons ok100 rfl (goods_cons ok131 rfl goods_nil))
noncomputable def s104 : Spec := mkSpec (valsCons (valSt celMemo) (valsCons (valInt .i64) (valsCons (valInt .i64) (valsOne (valInt .i64))))) (resTup (valsCons (valSt celMemo) (valsCons (valBool) (valsOne (valInt .i64))))) C_ref03_Cas
set_option maxRecDepth 100000 in
theorem ok104 : SpecOK Try.prog 104 s104 :=
  mkSpec_ok (V := e104) (L := nL) (rounds := 20) (depth := 6) g104 loops_none (fun x => by kernel_rfl)

/- millstream/millstreamref07.Parent -/
noncomputable def e106 : Env := env1 []
theorem g106 : GoodEnv e106 := goodEnv mix1 ent1 goods_nil
noncomputable def s106 : Spec := mkSpec (valsOne (valInt .i64)) (resOne (valInt .i64)) C_ref07_Parent
set_option maxRecDepth 100000 in
theorem ok106 : SpecOK Try.prog 106 s106 :=
  mkSpec_ok (V := e106) (L := nL) (rounds := 20) (depth := 6) g106 loops_none (fun x => by kernel_rfl)

/- millstream/millstreamref13.Step -/
noncomputable def e39 : Env := env1 [(50, s50), (100, s100), (101, s101), (102, s102), (103, s103), (104, s104), (105, s105), (106, s106), (107, s107)]
theorem g39 : GoodEnv e39 := goodEnv mix1 ent1 (goods_cons ok50 rfl (goods_cons ok100 rfl (goods_cons ok101 rfl (goods_cons ok102 rfl (goods_cons ok103 rfl (goods_cons ok104 rfl (goods_cons ok105 rfl (goods_cons ok106 rfl (goods_cons ok107 rfl goods_nil)))))))))
noncomputable def s39 : Spec := mkSpec (valsOne (valSt celTurn)) (resTup (valsCons (valSt celTurn) (valsOne (valBool)))) C_ref13_Step
set_option maxRecDepth 100000 in
theorem ok39 : SpecOK Try.prog 39 s39 :=
  mkSpec_ok (V := e39) (L := nL) (rounds := 20) (depth := 6) g39 loops_none (fun x => by kernel_rfl)

/- millstream/millstreamlaw13.entries -/
noncomputable def e55 : Env := env1 []
theorem g55 : GoodEnv e55 := goodEnv mix1 ent1 goods_nil
noncomputable def l55_3 : LSpec := loop1 [0, 3, 4] (valsCons (valLst .entry) (valsCons (valOwn 164 .entry) (valsOne (valInt .i64)))) (⟨.exit 0, [3], (valsOne (valOwn 164 .entry))⟩ : Way) (whileM T_law13_entries_3)
set_option maxRecDepth 100000 in
theorem lok55_3 : LoopOK e55 27 l55_3 (fnLoop e55.P 55 3) :=
  loop1_ok (L := assocL []) (rounds := 20) (depth := 6) (ts := [0, 3, 4]) (v := (valsCons (valLst .entry) (valsCons (valOwn 164 .entry) (valsOne (valInt .i64))))) (a := ⟨.exit 0, [3], (valsOne (valOwn 164 .entry))⟩) (step := T_law13_entries_3) g55 rfl loops_inNil (fun x => by kernel_rfl)
noncomputable def s55 : Spec := mkSpec (valsOne (valLst .entry)) (resOne (valOwn 164 .entry)) C_law13_entries
set_option maxRecDepth 100000 in
theorem ok55 : SpecOK Try.prog 55 s55 :=
  mkSpec_ok (V := e55) (L := (assocL [(3, l55_3)])) (rounds := 20) (depth := 6) g55 (loops_fn (nt := 27) (by kernel_rfl) (ntB_ok (by kernel_rfl)) (loopsOK_cons lok55_3 loopsOK_nil)) (fun x => by kernel_rfl)

/- millstream/millstreamlaw13.memory -/
noncomputable def e108 : Env := env1 [(55, s55)]
theorem g108 : GoodEnv e108 := goodEnv mix1 ent1 (goods_cons ok55 rfl goods_nil)
noncomputable def l108_3 : LSpec := loop1 [1, 2, 3, 4] (valsCons (valBox celMemo) (valsCons (valBox celMemo) (valsCons (valBox (celAs (celApp (celLst .int) (celOwn 80 (.lst .entry))) Memo (fun y => ⟨y.1, y.2⟩) (fun x => (x.words, x.boxes)) (fun _ => rfl))) (valsOne (valInt .i64))))) (⟨.exit 0, [2, 3], (valsCons (valBox celMemo) (valsOne (valBox (celAs (celApp (celLst .int) (celOwn 80 (.lst .entry))) Memo (fun y => ⟨y.1, y.2⟩) (fun x => (x.words, x.boxes)) (fun _ => rfl)))))⟩ : Way) (whileM T_law13_memory_3)
set_option maxRecDepth 100000 in
theorem lok108_3 : LoopOK e108 27 l108_3 (fnLoop e108.P 108 3) :=
  loop1_ok (L := assocL []) (rounds := 20) (depth := 6) (ts := [1, 2, 3, 4]) (v := (valsCons (valBox celMemo) (valsCons (valBox celMemo) (valsCons (valBox (celAs (celApp (celLst .int) (celOwn 80 (.lst .entry))) Memo (fun y => ⟨y.1, y.2⟩) (fun x => (x.words, x.boxes)) (fun _ => rfl))) (valsOne (valInt .i64)))))) (a := ⟨.exit 0, [2, 3], (valsCons (valBox celMemo) (valsOne (valBox (celAs (celApp (celLst .int) (celOwn 80 (.lst .entry))) Memo (fun y => ⟨y.1, y.2⟩) (fun x => (x.words, x.boxes)) (fun _ => rfl)))))⟩) (step := T_law13_memory_3) g108 rfl loops_inNil (fun x => by kernel_rfl)
noncomputable def s108 : Spec := mkSpec (valsOne (valSt celMemo)) (resOne (valSt celMemo)) C_law13_memory
set_option maxRecDepth 100000 in
theorem ok108 : SpecOK Try.prog 108 s108 :=
  mkSpec_ok (V := e108) (L := (assocL [(3, l108_3)])) (rounds := 20) (depth := 6) g108 (loops_fn (nt := 27) (by kernel_rfl) (ntB_ok (by kernel_rfl)) (loopsOK_cons lok108_3 loopsOK_nil)) (fun x => by kernel_rfl)

/- millstream/millstreamlaw13.fiber -/
noncomputable def e109 : Env := env1 [(55, s55)]
theorem g109 : GoodEnv e109 := goodEnv mix1 ent1 (goods_cons ok55 rfl goods_nil)
noncomputable def l109_3 : LSpec := loop1 [1, 2, 3, 4] (valsCons (valBox celThread) (valsCons (valBox celThread) (valsCons (valBox (celAs (celApp (celInt .i64) (celApp (celInt .i64) (celApp celOp (celApp (celLst .entry) (celApp (celOwn 179 .kid) (celApp (celLst .int) (celApp (celInt .i64) (celApp (celInt .i64) (celApp (celInt .i64) (celApp (celInt .i64) (celApp (celInt .i64) (celApp (celInt .i64) (celApp (celInt .i64) (celApp (celInt .i64) (celApp (celInt .i64) (celInt .i64)))))))))))))))) Thread (fun y => ⟨y.1, y.2.1, y.2.2.1, y.2.2.2.1, y.2.2.2.2.1, y.2.2.2.2.2.1, y.2.2.2.2.2.2.1, y.2.2.2.2.2.2.2.1, y.2.2.2.2.2.2.2.2.1, y.2.2.2.2.2.2.2.2.2.1, y.2.2.2.2.2.2.2.2.2.2.1, y.2.2.2.2.2.2.2.2.2.2.2.1, y.2.2.2.2.2.2.2.2.2.2.2.2.1, y.2.2.2.2.2.2.2.2.2.2.2.2.2.1, y.2.2.2.2.2.2.2.2.2.2.2.2.2.2.1, y.2.2.2.2.2.2.2.2.2.2.2.2.2.2.2⟩) (fun x => (x.phase, (x.item, (x.op, (x.batch, (x.kids, (x.held, (x.stop, (x.node, (x.at_, (x.layer, (x.left, (x.width, (x.who, (x.x, (x.y, x.until_)))))))))))))))) (fun _ => rfl))) (valsOne (valInt .i64))))) (⟨.exit 0, [2, 3], (valsCons (valBox celThread) (valsOne (valBox (celAs (celApp (celInt .i64) (celApp (celInt .i64) (celApp celOp (celApp (celLst .entry) (celApp (celOwn 179 .kid) (celApp (celLst .int) (celApp (celInt .i64) (celApp (celInt .i64) (celApp (celInt .i64) (celApp (celInt .i64) (celApp (celInt .i64) (celApp (celInt .i64) (celApp (celInt .i64) (celApp (celInt .i64) (celApp (celInt .i64) (celInt .i64)))))))))))))))) Thread (fun y => ⟨y.1, y.2.1, y.2.2.1, y.2.2.2.1, y.2.2.2.2.1, y.2.2.2.2.2.1, y.2.2.2.2.2.2.1, y.2.2.2.2.2.2.2.1, y.2.2.2.2.2.2.2.2.1, y.2.2.2.2.2.2.2.2.2.1, y.2.2.2.2.2.2.2.2.2.2.1, y.2.2.2.2.2.2.2.2.2.2.2.1, y.2.2.2.2.2.2.2.2.2.2.2.2.1, y.2.2.2.2.2.2.2.2.2.2.2.2.2.1, y.2.2.2.2.2.2.2.2.2.2.2.2.2.2.1, y.2.2.2.2.2.2.2.2.2.2.2.2.2.2.2⟩) (fun x => (x.phase, (x.item, (x.op, (x.batch, (x.kids, (x.held, (x.stop, (x.node, (x.at_, (x.layer, (x.left, (x.width, (x.who, (x.x, (x.y, x.until_)))))))))))))))) (fun _ => rfl)))))⟩ : Way) (whileM T_law13_fiber_3)
set_option maxRecDepth 100000 in
theorem lok109_3 : LoopOK e109 55 l109_3 (fnLoop e109.P 109 3) :=
  loop1_ok (L := assocL []) (rounds := 20) (depth := 6) (ts := [1, 2, 3, 4]) (v := (valsCons (valBox celThread) (valsCons (valBox celThread) (valsCons (valBox (celAs (celApp (celInt .i64) (celApp (celInt .i64) (celApp celOp (celApp (celLst .entry) (celApp (celOwn 179 .kid) (celApp (celLst .int) (celApp (celInt .i64) (celApp (celInt .i64) (celApp (celInt .i64) (celApp (celInt .i64) (celApp (celInt .i64) (celApp (celInt .i64) (celApp (celInt .i64) (celApp (celInt .i64) (celApp (celInt .i64) (celInt .i64)))))))))))))))) Thread (fun y => ⟨y.1, y.2.1, y.2.2.1, y.2.2.2.1, y.2.2.2.2.1, y.2.2.2.2.2.1, y.2.2.2.2.2.2.1, y.2.2.2.2.2.2.2.1, y.2.2.2.2.2.2.2.2.1, y.2.2.2.2.2.2.2.2.2.1, y.2.2.2.2.2.2.2.2.2.2.1, y.2.2.2.2.2.2.2.2.2.2.2.1, y.2.2.2.2.2.2.2.2.2.2.2.2.1, y.2.2.2.2.2.2.2.2.2.2.2.2.2.1, y.2.2.2.2.2.2.2.2.2.2.2.2.2.2.1, y.2.2.2.2.2.2.2.2.2.2.2.2.2.2.2⟩) (fun x => (x.phase, (x.item, (x.op, (x.batch, (x.kids, (x.held, (x.stop, (x.node, (x.at_, (x.layer, (x.left, (x.width, (x.who, (x.x, (x.y, x.until_)))))))))))))))) (fun _ => rfl))) (valsOne (valInt .i64)))))) (a := ⟨.exit 0, [2, 3], (valsCons (valBox celThread) (valsOne (valBox (celAs (celApp (celInt .i64) (celApp (celInt .i64) (celApp celOp (celApp (celLst .entry) (celApp (celOwn 179 .kid) (celApp (celLst .int) (celApp (celInt .i64) (celApp (celInt .i64) (celApp (celInt .i64) (celApp (celInt .i64) (celApp (celInt .i64) (celApp (celInt .i64) (celApp (celInt .i64) (celApp (celInt .i64) (celApp (celInt .i64) (celInt .i64)))))))))))))))) Thread (fun y => ⟨y.1, y.2.1, y.2.2.1, y.2.2.2.1, y.2.2.2.2.1, y.2.2.2.2.2.1, y.2.2.2.2.2.2.1, y.2.2.2.2.2.2.2.1, y.2.2.2.2.2.2.2.2.1, y.2.2.2.2.2.2.2.2.2.1, y.2.2.2.2.2.2.2.2.2.2.1, y.2.2.2.2.2.2.2.2.2.2.2.1, y.2.2.2.2.2.2.2.2.2.2.2.2.1, y.2.2.2.2.2.2.2.2.2.2.2.2.2.1, y.2.2.2.2.2.2.2.2.2.2.2.2.2.2.1, y.2.2.2.2.2.2.2.2.2.2.2.2.2.2.2⟩) (fun x => (x.phase, (x.item, (x.op, (x.batch, (x.kids, (x.held, (x.stop, (x.node, (x.at_, (x.layer, (x.left, (x.width, (x.who, (x.x, (x.y, x.until_)))))))))))))))) (fun _ => rfl)))))⟩) (step := T_law13_fiber_3) g109 rfl loops_inNil (fun x => by kernel_rfl)
noncomputable def s109 : Spec := mkSpec (valsOne (valSt celThread)) (resOne (valSt celThread)) C_law13_fiber
set_option maxRecDepth 100000 in
theorem ok109 : SpecOK Try.prog 109 s109 :=
  mkSpec_ok (V := e109) (L := (assocL [(3, l109_3)])) (rounds := 20) (depth := 6) g109 (loops_fn (nt := 55) (by kernel_rfl) (ntB_ok (by kernel_rfl)) (loopsOK_cons lok109_3 loopsOK_nil)) (fun x => by kernel_rfl)

/- millstream/millstreamlaw13.marks -/
noncomputable def e110 : Env := env1 []
theorem g110 : GoodEnv e110 := goodEnv mix1 ent1 goods_nil
noncomputable def l110_3 : LSpec := loop1 [0, 3, 4] (valsCons (valLst .mark) (valsCons (valOwn 129 .mark) (valsOne (valInt .i64)))) (⟨.exit 0, [3], (valsOne (valOwn 129 .mark))⟩ : Way) (whileM T_law13_marks_3)
set_option maxRecDepth 100000 in
theorem lok110_3 : LoopOK e110 42 l110_3 (fnLoop e110.P 110 3) :=
  loop1_ok (L := assocL []) (rounds := 20) (depth := 6) (ts := [0, 3, 4]) (v := (valsCons (valLst .mark) (valsCons (valOwn 129 .mark) (valsOne (valInt .i64))))) (a := ⟨.exit 0, [3], (valsOne (valOwn 129 .mark))⟩) (step := T_law13_marks_3) g110 rfl loops_inNil (fun x => by kernel_rfl)
noncomputable def s110 : Spec := mkSpec (valsOne (valLst .mark)) (resOne (valLst .mark)) C_law13_marks
set_option maxRecDepth 100000 in
theorem ok110 : SpecOK Try.prog 110 s110 :=
  mkSpec_ok (V := e110) (L := (assocL [(3, l110_3)])) (rounds := 20) (depth := 6) g110 (loops_fn (nt := 42) (by kernel_rfl) (ntB_ok (by kernel_rfl)) (loopsOK_cons lok110_3 loopsOK_nil)) (fun x => by kernel_rfl)

/- millstream/millstreamlaw13.its -/
noncomputable def e40 : Env := env1 [(108, s108), (109, s109), (110, s110)]
theorem g40 : GoodEnv e40 := goodEnv mix1 ent1 (goods_cons ok108 rfl (goods_cons ok109 rfl (goods_cons ok110 rfl goods_nil)))
noncomputable def s40 : Spec := mkSpec (valsOne (valSt celTurn)) (resOne (valSt celTurn)) C_law13_its
set_option maxRecDepth 100000 in
theorem ok40 : SpecOK Try.prog 40 s40 :=
  mkSpec_ok (V := e40) (L := nL) (rounds := 20) (depth := 6) g40 loops_none (fun x => by kernel_rfl)

/- millstream/millstreamref02.Ints -/
noncomputable def e48 : Env := env1 []
theorem g48 : GoodEnv e48 := goodEnv mix1 ent1 goods_nil
noncomputable def l48_4 : LSpec := loop2 [0, 1, 5] (valsCons (valLst .int) (valsCons (valLst .int) (valsOne (valInt .i64)))) (⟨.exit 0, [], valsNil⟩ : Way) (⟨.ret, [4], (valsOne (valBool))⟩ : Way) (whileM T_ref02_Ints_4)
set_option maxRecDepth 100000 in
theorem lok48_4 : LoopOK e48 26 l48_4 (fnLoop e48.P 48 4) :=
  loop2_ok (L := assocL []) (rounds := 20) (depth := 6) (ts := [0, 1, 5]) (v := (valsCons (valLst .int) (valsCons (valLst .int) (valsOne (valInt .i64))))) (a := ⟨.exit 0, [], valsNil⟩) (b := ⟨.ret, [4], (valsOne (valBool))⟩) (step := T_ref02_Ints_4) g48 rfl rfl loops_inNil (fun x => by kernel_rfl)
noncomputable def s48 : Spec := mkSpec (valsCons (valLst .int) (valsOne (valLst .int))) (resOne (valBool)) C_ref02_Ints
set_option maxRecDepth 100000 in
theorem ok48 : SpecOK Try.prog 48 s48 :=
  mkSpec_ok (V := e48) (L := (assocL [(4, l48_4)])) (rounds := 20) (depth := 6) g48 (loops_fn (nt := 26) (by kernel_rfl) (ntB_ok (by kernel_rfl)) (loopsOK_cons lok48_4 loopsOK_nil)) (fun x => by kernel_rfl)

/- millstream/millstreamref02.Same -/
noncomputable def e54 : Env := env1 []
theorem g54 : GoodEnv e54 := goodEnv mix1 ent1 goods_nil
noncomputable def l54_4 : LSpec := loop2 [0, 1, 5] (valsCons (valLst .entry) (valsCons (valLst .entry) (valsOne (valInt .i64)))) (⟨.exit 0, [], valsNil⟩ : Way) (⟨.ret, [4], (valsOne (valBool))⟩ : Way) (whileM T_ref02_Same_4)
set_option maxRecDepth 100000 in
theorem lok54_4 : LoopOK e54 26 l54_4 (fnLoop e54.P 54 4) :=
  loop2_ok (L := assocL []) (rounds := 20) (depth := 6) (ts := [0, 1, 5]) (v := (valsCons (valLst .entry) (valsCons (valLst .entry) (valsOne (valInt .i64))))) (a := ⟨.exit 0, [], valsNil⟩) (b := ⟨.ret, [4], (valsOne (valBool))⟩) (step := T_ref02_Same_4) g54 rfl rfl loops_inNil (fun x => by kernel_rfl)
noncomputable def s54 : Spec := mkSpec (valsCons (valLst .entry) (valsOne (valLst .entry))) (resOne (valBool)) C_ref02_Same
set_option maxRecDepth 100000 in
theorem ok54 : SpecOK Try.prog 54 s54 :=
  mkSpec_ok (V := e54) (L := (assocL [(4, l54_4)])) (rounds := 20) (depth := 6) g54 (loops_fn (nt := 26) (by kernel_rfl) (ntB_ok (by kernel_rfl)) (loopsOK_cons lok54_4 loopsOK_nil)) (fun x => by kernel_rfl)

/- millstream/millstreamref03.Same -/
noncomputable def e111 : Env := env1 [(48, s48), (54, s54)]
theorem g111 : GoodEnv e111 := goodEnv mix1 ent1 (goods_cons ok48 rfl (goods_cons ok54 rfl goods_nil))
noncomputable def l111_4 : LSpec := loop2 [2, 3, 5] (valsCons (valBox celMemo) (valsCons (valBox celMemo) (valsOne (valInt .i64)))) (⟨.exit 0, [], valsNil⟩ : Way) (⟨.ret, [4], (valsOne (valBool))⟩ : Way) (whileM T_ref03_Same_4)
set_option maxRecDepth 100000 in
theorem lok111_4 : LoopOK e111 40 l111_4 (fnLoop e111.P 111 4) :=
  loop2_ok (L := assocL []) (rounds := 20) (depth := 6) (ts := [2, 3, 5]) (v := (valsCons (valBox celMemo) (valsCons (valBox celMemo) (valsOne (valInt .i64))))) (a := ⟨.exit 0, [], valsNil⟩) (b := ⟨.ret, [4], (valsOne (valBool))⟩) (step := T_ref03_Same_4) g111 rfl rfl loops_inNil (fun x => by kernel_rfl)
noncomputable def s111 : Spec := mkSpec (valsCons (valSt celMemo) (valsOne (valSt celMemo))) (resOne (valBool)) C_ref03_Same
set_option maxRecDepth 100000 in
theorem ok111 : SpecOK Try.prog 111 s111 :=
  mkSpec_ok (V := e111) (L := (assocL [(4, l111_4)])) (rounds := 20) (depth := 6) g111 (loops_fn (nt := 40) (by kernel_rfl) (ntB_ok (by kernel_rfl)) (loopsOK_cons lok111_4 loopsOK_nil)) (fun x => by kernel_rfl)

/- millstream/millstreamref10.Same -/
noncomputable def e112 : Env := env1 [(48, s48), (54, s54)]
theorem g112 : GoodEnv e112 := goodEnv mix1 ent1 (goods_cons ok48 rfl (goods_cons ok54 rfl goods_nil))
noncomputable def l112_4 : LSpec := loop2 [2, 3, 5] (valsCons (valBox celThread) (valsCons (valBox celThread) (valsOne (valInt .i64)))) (⟨.exit 0, [2, 3], (valsCons (valBox celThread) (valsOne (valBox celThread)))⟩ : Way) (⟨.ret, [4], (valsOne (valBool))⟩ : Way) (whileM T_ref10_Same_4)
set_option maxRecDepth 100000 in
theorem lok112_4 : LoopOK e112 136 l112_4 (fnLoop e112.P 112 4) :=
  loop2_ok (L := assocL []) (rounds := 20) (depth := 6) (ts := [2, 3, 5]) (v := (valsCons (valBox celThread) (valsCons (valBox celThread) (valsOne (valInt .i64))))) (a := ⟨.exit 0, [2, 3], (valsCons (valBox celThread) (valsOne (valBox celThread)))⟩) (b := ⟨.ret, [4], (valsOne (valBool))⟩) (step := T_ref10_Same_4) g112 rfl rfl loops_inNil (fun x => by kernel_rfl)
noncomputable def s112 : Spec := mkSpec (valsCons (valSt celThread) (valsOne (valSt celThread))) (resOne (valBool)) C_ref10_Same
set_option maxRecDepth 100000 in
theorem ok112 : SpecOK Try.prog 112 s112 :=
  mkSpec_ok (V := e112) (L := (assocL [(4, l112_4)])) (rounds := 20) (depth := 6) g112 (loops_fn (nt := 136) (by kernel_rfl) (ntB_ok (by kernel_rfl)) (loopsOK_cons lok112_4 loopsOK_nil)) (fun x => by kernel_rfl)

/- millstream/millstreamref04.Same -/
noncomputable def e113 : Env := env1 []
theorem g113 : GoodEnv e113 := goodEnv mix1 ent1 goods_nil
noncomputable def l113_4 : LSpec := loop2 [2, 3, 5] (valsCons (valBox celTape) (valsCons (valBox celTape) (valsOne (valInt .i64)))) (⟨.exit 0, [], valsNil⟩ : Way) (⟨.ret, [4], (valsOne (valBool))⟩ : Way) (whileM T_ref04_Same_4)
set_option maxRecDepth 100000 in
theorem lok113_4 : LoopOK e113 38 l113_4 (fnLoop e113.P 113 4) :=
  loop2_ok (L := assocL []) (rounds := 20) (depth := 6) (ts := [2, 3, 5]) (v := (valsCons (valBox celTape) (valsCons (valBox celTape) (valsOne (valInt .i64))))) (a := ⟨.exit 0, [], valsNil⟩) (b := ⟨.ret, [4], (valsOne (valBool))⟩) (step := T_ref04_Same_4) g113 rfl rfl loops_inNil (fun x => by kernel_rfl)
noncomputable def s113 : Spec := mkSpec (valsCons (valSt celTape) (valsOne (valSt celTape))) (resOne (valBool)) C_ref04_Same
set_option maxRecDepth 100000 in
theorem ok113 : SpecOK Try.prog 113 s113 :=
  mkSpec_ok (V := e113) (L := (assocL [(4, l113_4)])) (rounds := 20) (depth := 6) g113 (loops_fn (nt := 38) (by kernel_rfl) (ntB_ok (by kernel_rfl)) (loopsOK_cons lok113_4 loopsOK_nil)) (fun x => by kernel_rfl)

/- millstream/millstreamref10.Marks -/
noncomputable def e114 : Env := env1 []
theorem g114 : GoodEnv e114 := goodEnv mix1 ent1 goods_nil
noncomputable def l114_4 : LSpec := loop2 [0, 1, 5] (valsCons (valLst .mark) (valsCons (valLst .mark) (valsOne (valInt .i64)))) (⟨.exit 0, [], valsNil⟩ : Way) (⟨.ret, [4], (valsOne (valBool))⟩ : Way) (whileM T_ref10_Marks_4)
set_option maxRecDepth 100000 in
theorem lok114_4 : LoopOK e114 26 l114_4 (fnLoop e114.P 114 4) :=
  loop2_ok (L := assocL []) (rounds := 20) (depth := 6) (ts := [0, 1, 5]) (v := (valsCons (valLst .mark) (valsCons (valLst .mark) (valsOne (valInt .i64))))) (a := ⟨.exit 0, [], valsNil⟩) (b := ⟨.ret, [4], (valsOne (valBool))⟩) (step := T_ref10_Marks_4) g114 rfl rfl loops_inNil (fun x => by kernel_rfl)
noncomputable def s114 : Spec := mkSpec (valsCons (valLst .mark) (valsOne (valLst .mark))) (resOne (valBool)) C_ref10_Marks
set_option maxRecDepth 100000 in
theorem ok114 : SpecOK Try.prog 114 s114 :=
  mkSpec_ok (V := e114) (L := (assocL [(4, l114_4)])) (rounds := 20) (depth := 6) g114 (loops_fn (nt := 26) (by kernel_rfl) (ntB_ok (by kernel_rfl)) (loopsOK_cons lok114_4 loopsOK_nil)) (fun x => by kernel_rfl)

/- millstream/millstreamref10.Alike -/
noncomputable def e41 : Env := env1 [(111, s111), (112, s112), (113, s113), (114, s114)]
theorem g41 : GoodEnv e41 := goodEnv mix1 ent1 (goods_cons ok111 rfl (goods_cons ok112 rfl (goods_cons ok113 rfl (goods_cons ok114 rfl goods_nil))))
noncomputable def s41 : Spec := mkSpec (valsCons (valSt celTurn) (valsOne (valSt celTurn))) (resOne (valBool)) C_ref10_Alike
set_option maxRecDepth 100000 in
theorem ok41 : SpecOK Try.prog 41 s41 :=
  mkSpec_ok (V := e41) (L := nL) (rounds := 20) (depth := 6) g41 loops_none (fun x => by kernel_rfl)

/- millstream/millstreamlaw13.ClimbSteps -/
noncomputable def e6 : Env := env1 [(35, s35), (36, s36), (37, s37), (38, s38), (39, s39), (40, s40), (41, s41), (42, s42), (43, s43)]
theorem g6 : GoodEnv e6 := goodEnv mix1 ent1 (goods_cons ok35 rfl (goods_cons ok36 rfl (goods_cons ok37 rfl (goods_cons ok38 rfl (goods_cons ok39 rfl (goods_cons ok40 rfl (goods_cons ok41 rfl (goods_cons ok42 rfl (goods_cons ok43 rfl goods_nil)))))))))
noncomputable def s6 : Spec := mkSpec (valsOne (valSt celTurn)) (resOne (valBool)) C_law13_ClimbSteps
set_option maxRecDepth 100000 in
theorem ok6 : SpecOK Try.prog 6 s6 :=
  mkSpec_ok (V := e6) (L := nL) (rounds := 20) (depth := 6) g6 loops_none (fun x => by kernel_rfl)

/- millstream/millstreamref07.Leaf -/
noncomputable def e46 : Env := env1 []
theorem g46 : GoodEnv e46 := goodEnv mix1 ent1 goods_nil
noncomputable def l46_5 : LSpec := loop1 [0, 1, 5, 6] (valsCons (valInt .i64) (valsCons (valInt .i64) (valsCons (valInt .i64) (valsOne (valInt .i64))))) (⟨.exit 0, [1, 5], (valsCons (valInt .i64) (valsOne (valInt .i64)))⟩ : Way) (whileM T_ref07_Leaf_5)
set_option maxRecDepth 100000 in
theorem lok46_5 : LoopOK e46 22 l46_5 (fnLoop e46.P 46 5) :=
  loop1_ok (L := assocL []) (rounds := 20) (depth := 6) (ts := [0, 1, 5, 6]) (v := (valsCons (valInt .i64) (valsCons (valInt .i64) (valsCons (valInt .i64) (valsOne (valInt .i64)))))) (a := ⟨.exit 0, [1, 5], (valsCons (valInt .i64) (valsOne (valInt .i64)))⟩) (step := T_ref07_Leaf_5) g46 rfl loops_inNil (fun x => by kernel_rfl)
noncomputable def s46 : Spec := mkSpec (valsCons (valInt .i64) (valsOne (valInt .i64))) (resOne (valInt .i64)) C_ref07_Leaf
set_option maxRecDepth 100000 in
theorem ok46 : SpecOK Try.prog 46 s46 :=
  mkSpec_ok (V := e46) (L := (assocL [(5, l46_5)])) (rounds := 20) (depth := 6) g46 (loops_fn (nt := 22) (by kernel_rfl) (ntB_ok (by kernel_rfl)) (loopsOK_cons lok46_5 loopsOK_nil)) (fun x => by kernel_rfl)

/- millstream/millstreamref07.Path -/
noncomputable def e49 : Env := env1 [(46, s46), (106, s106)]
theorem g49 : GoodEnv e49 := goodEnv mix1 ent1 (goods_cons ok46 rfl (goods_cons ok106 rfl goods_nil))
noncomputable def l49_3 : LSpec := loop1 [5, 6] (valsCons (valOwn 3 .int) (valsOne (valInt .i64))) (⟨.exit 0, [5], (valsOne (valOwn 3 .int))⟩ : Way) (whileM T_ref07_Path_3)
set_option maxRecDepth 100000 in
theorem lok49_3 : LoopOK e49 20 l49_3 (fnLoop e49.P 49 3) :=
  loop1_ok (L := assocL []) (rounds := 20) (depth := 6) (ts := [5, 6]) (v := (valsCons (valOwn 3 .int) (valsOne (valInt .i64)))) (a := ⟨.exit 0, [5], (valsOne (valOwn 3 .int))⟩) (step := T_ref07_Path_3) g49 rfl loops_inNil (fun x => by kernel_rfl)
noncomputable def s49 : Spec := mkSpec (valsCons (valInt .i64) (valsOne (valInt .i64))) (resOne (valLst .int)) C_ref07_Path
set_option maxRecDepth 100000 in
theorem ok49 : SpecOK Try.prog 49 s49 :=
  mkSpec_ok (V := e49) (L := (assocL [(3, l49_3)])) (rounds := 20) (depth := 6) g49 (loops_fn (nt := 20) (by kernel_rfl) (ntB_ok (by kernel_rfl)) (loopsOK_cons lok49_3 loopsOK_nil)) (fun x => by kernel_rfl)

/- millstream/millstreamlaw13.ClimbAlone -/
noncomputable def e7 : Env := env1 [(37, s37), (38, s38), (44, s44), (45, s45), (46, s46), (47, s47), (48, s48), (49, s49), (50, s50), (51, s51)]
theorem g7 : GoodEnv e7 := goodEnv mix1 ent1 (goods_cons ok37 rfl (goods_cons ok38 rfl (goods_cons ok44 rfl (goods_cons ok45 rfl (goods_cons ok46 rfl (goods_cons ok47 rfl (goods_cons ok48 rfl (goods_cons ok49 rfl (goods_cons ok50 rfl (goods_cons ok51 rfl goods_nil))))))))))
noncomputable def l7_16 : LSpec := loop2 [7, 8, 9, 13] (valsCons (valBox celConfig) (valsCons (valInt .i64) (valsCons (valBox celTurn) (valsOne (valInt .i64))))) (⟨.exit 2, [], valsNil⟩ : Way) (⟨.ret, [6], (valsOne (valBool))⟩ : Way) (whileM T_law13_ClimbAlone_16)
set_option maxRecDepth 100000 in
theorem lok7_16 : LoopOK e7 126 l7_16 (fnLoop e7.P 7 16) :=
  loop2_ok (L := assocL []) (rounds := 20) (depth := 6) (ts := [7, 8, 9, 13]) (v := (valsCons (valBox celConfig) (valsCons (valInt .i64) (valsCons (valBox celTurn) (valsOne (valInt .i64)))))) (a := ⟨.exit 2, [], valsNil⟩) (b := ⟨.ret, [6], (valsOne (valBool))⟩) (step := T_law13_ClimbAlone_16) g7 rfl rfl loops_inNil (fun x => by kernel_rfl)
noncomputable def l7_7 : LSpec := loop2 [3, 7, 8, 9, 10] (valsCons (valBox celConfig) (valsCons (valBox celConfig) (valsCons (valInt .i64) (valsCons (valBox celTurn) (valsOne (valInt .i64)))))) (⟨.exit 0, [3, 7, 8, 9], (valsCons (valBox celConfig) (valsCons (valBox celConfig) (valsCons (valInt .i64) (valsOne (valBox celTurn)))))⟩ : Way) (⟨.ret, [6], (valsOne (valBool))⟩ : Way) (whileM T_law13_ClimbAlone_7)
set_option maxRecDepth 100000 in
theorem lok7_7 : LoopOK e7 126 l7_7 (fnLoop e7.P 7 7) :=
  loop2_ok (L := assocL []) (rounds := 20) (depth := 6) (ts := [3, 7, 8, 9, 10]) (v := (valsCons (valBox celConfig) (valsCons (valBox celConfig) (valsCons (valInt .i64) (valsCons (valBox celTurn) (valsOne (valInt .i64))))))) (a := ⟨.exit 0, [3, 7, 8, 9], (valsCons (valBox celConfig) (valsCons (valBox celConfig) (valsCons (valInt .i64) (valsOne (valBox celTurn)))))⟩) (b := ⟨.ret, [6], (valsOne (valBool))⟩) (step := T_law13_ClimbAlone_7) g7 rfl rfl loops_inNil (fun x => by kernel_rfl)
noncomputable def s7 : Spec := mkSpec (valsCons (valSt celConfig) (valsCons (valInt .u8) (valsOne (valInt .u8)))) (resOne (valBool)) C_law13_ClimbAlone
set_option maxRecDepth 100000 in
theorem ok7 : SpecOK Try.prog 7 s7 :=
  mkSpec_ok (V := e7) (L := (assocL [(16, l7_16), (7, l7_7)])) (rounds := 20) (depth := 6) g7 (loops_fn (nt := 126) (by kernel_rfl) (ntB_ok (by kernel_rfl)) (loopsOK_cons lok7_16 (loopsOK_cons lok7_7 loopsOK_nil))) (fun x => by kernel_rfl)

/- millstream/millstreamlaw13.ClimbJoins -/
noncomputable def e8 : Env := env1 [(35, s35), (36, s36), (37, s37), (38, s38), (40, s40), (41, s41), (50, s50), (51, s51), (52, s52), (53, s53)]
theorem g8 : GoodEnv e8 := goodEnv mix1 ent1 (goods_cons ok35 rfl (goods_cons ok36 rfl (goods_cons ok37 rfl (goods_cons ok38 rfl (goods_cons ok40 rfl (goods_cons ok41 rfl (goods_cons ok50 rfl (goods_cons ok51 rfl (goods_cons ok52 rfl (goods_cons ok53 rfl goods_nil))))))))))
noncomputable def s8 : Spec := mkSpec (valsCons (valSt celTurn) (valsCons (valInt .u8) (valsOne (valInt .u8)))) (resOne (valBool)) C_law13_ClimbJoins
set_option maxRecDepth 100000 in
theorem ok8 : SpecOK Try.prog 8 s8 :=
  mkSpec_ok (V := e8) (L := nL) (rounds := 20) (depth := 6) g8 loops_none (fun x => by kernel_rfl)

/- millstream/millstreamlaw13.ClimbRace -/
noncomputable def e9 : Env := env1 [(35, s35), (36, s36), (37, s37), (38, s38), (50, s50), (51, s51), (52, s52)]
theorem g9 : GoodEnv e9 := goodEnv mix1 ent1 (goods_cons ok35 rfl (goods_cons ok36 rfl (goods_cons ok37 rfl (goods_cons ok38 rfl (goods_cons ok50 rfl (goods_cons ok51 rfl (goods_cons ok52 rfl goods_nil)))))))
noncomputable def s9 : Spec := mkSpec (valsCons (valSt celTurn) (valsOne (valInt .u8))) (resOne (valBool)) C_law13_ClimbRace
set_option maxRecDepth 100000 in
theorem ok9 : SpecOK Try.prog 9 s9 :=
  mkSpec_ok (V := e9) (L := nL) (rounds := 20) (depth := 6) g9 loops_none (fun x => by kernel_rfl)

/- millstream/millstreamlaw13.ClimbDown -/
noncomputable def e10 : Env := env1 [(35, s35), (36, s36), (37, s37), (40, s40), (41, s41), (42, s42)]
theorem g10 : GoodEnv e10 := goodEnv mix1 ent1 (goods_cons ok35 rfl (goods_cons ok36 rfl (goods_cons ok37 rfl (goods_cons ok40 rfl (goods_cons ok41 rfl (goods_cons ok42 rfl goods_nil))))))
noncomputable def s10 : Spec := mkSpec (valsOne (valSt celTurn)) (resOne (valBool)) C_law13_ClimbDown
set_option maxRecDepth 100000 in
theorem ok10 : SpecOK Try.prog 10 s10 :=
  mkSpec_ok (V := e10) (L := nL) (rounds := 20) (depth := 6) g10 loops_none (fun x => by kernel_rfl)

/- millstream/millstreamlaw13.ClimbOther -/
noncomputable def e11 : Env := env1 [(35, s35), (36, s36), (37, s37), (38, s38), (50, s50), (51, s51), (52, s52), (54, s54), (55, s55)]
theorem g11 : GoodEnv e11 := goodEnv mix1 ent1 (goods_cons ok35 rfl (goods_cons ok36 rfl (goods_cons ok37 rfl (goods_cons ok38 rfl (goods_cons ok50 rfl (goods_cons ok51 rfl (goods_cons ok52 rfl (goods_cons ok54 rfl (goods_cons ok55 rfl goods_nil)))))))))
noncomputable def l11_13 : LSpec := loop2 [1, 3, 6, 7] (valsCons (valBox celTurn) (valsCons (valBox celTurn) (valsCons (valInt .i64) (valsOne (valInt .i64))))) (⟨.exit 2, [], valsNil⟩ : Way) (⟨.ret, [2], (valsOne (valBool))⟩ : Way) (whileM T_law13_ClimbOther_13)
set_option maxRecDepth 100000 in
theorem lok11_13 : LoopOK e11 128 l11_13 (fnLoop e11.P 11 13) :=
  loop2_ok (L := assocL []) (rounds := 20) (depth := 6) (ts := [1, 3, 6, 7]) (v := (valsCons (valBox celTurn) (valsCons (valBox celTurn) (valsCons (valInt .i64) (valsOne (valInt .i64)))))) (a := ⟨.exit 2, [], valsNil⟩) (b := ⟨.ret, [2], (valsOne (valBool))⟩) (step := T_law13_ClimbOther_13) g11 rfl rfl loops_inNil (fun x => by kernel_rfl)
noncomputable def l11_7 : LSpec := loop2 [1, 3, 5] (valsCons (valBox celTurn) (valsCons (valBox celTurn) (valsOne (valInt .i64)))) (⟨.exit 0, [1, 3], (valsCons (valBox celTurn) (valsOne (valBox celTurn)))⟩ : Way) (⟨.ret, [2], (valsOne (valBool))⟩ : Way) (whileM T_law13_ClimbOther_7)
set_option maxRecDepth 100000 in
theorem lok11_7 : LoopOK e11 128 l11_7 (fnLoop e11.P 11 7) :=
  loop2_ok (L := assocL []) (rounds := 20) (depth := 6) (ts := [1, 3, 5]) (v := (valsCons (valBox celTurn) (valsCons (valBox celTurn) (valsOne (valInt .i64))))) (a := ⟨.exit 0, [1, 3], (valsCons (valBox celTurn) (valsOne (valBox celTurn)))⟩) (b := ⟨.ret, [2], (valsOne (valBool))⟩) (step := T_law13_ClimbOther_7) g11 rfl rfl loops_inNil (fun x => by kernel_rfl)
noncomputable def s11 : Spec := mkSpec (valsOne (valSt celTurn)) (resOne (valBool)) C_law13_ClimbOther
set_option maxRecDepth 100000 in
theorem ok11 : SpecOK Try.prog 11 s11 :=
  mkSpec_ok (V := e11) (L := (assocL [(13, l11_13), (7, l11_7)])) (rounds := 20) (depth := 6) g11 (loops_fn (nt := 128) (by kernel_rfl) (ntB_ok (by kernel_rfl)) (loopsOK_cons lok11_13 (loopsOK_cons lok11_7 loopsOK_nil))) (fun x => by kernel_rfl)

/- millstream/millstreamlaw14.big -/
noncomputable def e59 : Env := env1 []
theorem g59 : GoodEnv e59 := goodEnv mix1 ent1 goods_nil
noncomputable def l59_2 : LSpec := loop2 [1, 3] (valsCons (valBox celTurn) (valsOne (valInt .i64))) (⟨.exit 0, [1], (valsOne (valBox celTurn))⟩ : Way) (⟨.ret, [2], (valsOne (valBool))⟩ : Way) (whileM T_law14_big_2)
set_option maxRecDepth 100000 in
theorem lok59_2 : LoopOK e59 70 l59_2 (fnLoop e59.P 59 2) :=
  loop2_ok (L := assocL []) (rounds := 20) (depth := 6) (ts := [1, 3]) (v := (valsCons (valBox celTurn) (valsOne (valInt .i64)))) (a := ⟨.exit 0, [1], (valsOne (valBox celTurn))⟩) (b := ⟨.ret, [2], (valsOne (valBool))⟩) (step := T_law14_big_2) g59 rfl rfl loops_inNil (fun x => by kernel_rfl)
noncomputable def s59 : Spec := mkSpec (valsOne (valSt celTurn)) (resOne (valBool)) C_law14_big
set_option maxRecDepth 100000 in
theorem ok59 : SpecOK Try.prog 59 s59 :=
  mkSpec_ok (V := e59) (L := (assocL [(2, l59_2)])) (rounds := 20) (depth := 6) g59 (loops_fn (nt := 70) (by kernel_rfl) (ntB_ok (by kernel_rfl)) (loopsOK_cons lok59_2 loopsOK_nil)) (fun x => by kernel_rfl)

/- millstream/millstreamlaw14.may -/
noncomputable def e60 : Env := env1 [(44, s44), (47, s47)]
theorem g60 : GoodEnv e60 := goodEnv mix1 ent1 (goods_cons ok44 rfl (goods_cons ok47 rfl goods_nil))
noncomputable def s60 : Spec := mkSpec (valsOne (valSt celTurn)) (resOne (valBool)) C_law14_may
set_option maxRecDepth 100000 in
theorem ok60 : SpecOK Try.prog 60 s60 :=
  mkSpec_ok (V := e60) (L := nL) (rounds := 20) (depth := 6) g60 loops_none (fun x => by kernel_rfl)

/- millstream/gather.held -/
noncomputable def e196 : Env := env1 [(93, s93)]
theorem g196 : GoodEnv e196 := goodEnv mix1 ent1 (goods_cons ok93 rfl goods_nil)
noncomputable def s196 : Spec := mkSpec (valsOne (valSt celTurn)) (resOne (valInt .i64)) C_gather_held
set_option maxRecDepth 100000 in
theorem ok196 : SpecOK Try.prog 196 s196 :=
  mkSpec_ok (V := e196) (L := nL) (rounds := 20) (depth := 6) g196 loops_none (fun x => by kernel_rfl)

/- millstream/code.Who -/
noncomputable def e197 : Env := env1 [(195, s195)]
theorem g197 : GoodEnv e197 := goodEnv mix1 ent1 (goods_cons ok195 rfl goods_nil)
noncomputable def s197 : Spec := mkSpec (valsOne (valInt .i64)) (resOne (valInt .i64)) C_code_Who
set_option maxRecDepth 100000 in
theorem ok197 : SpecOK Try.prog 197 s197 :=
  mkSpec_ok (V := e197) (L := nL) (rounds := 20) (depth := 6) g197 loops_none (fun x => by kernel_rfl)

/- millstream/gather.look -/
noncomputable def e178 : Env := env1 [(51, s51), (97, s97), (172, s172), (196, s196), (197, s197)]
theorem g178 : GoodEnv e178 := goodEnv mix1 ent1 (goods_cons ok51 rfl (goods_cons ok97 rfl (goods_cons ok172 rfl (goods_cons ok196 rfl (goods_cons ok197 rfl goods_nil)))))
noncomputable def s178 : Spec := mkSpec (valsOne (valSt celTurn)) (resOne (valSt celTurn)) C_gather_look
set_option maxRecDepth 100000 in
theorem ok178 : SpecOK Try.prog 178 s178 :=
  mkSpec_ok (V := e178) (L := nL) (rounds := 20) (depth := 6) g178 loops_none (fun x => by kernel_rfl)

/- millstream/gather.next -/
noncomputable def e200 : Env := env1 [(42, s42)]
theorem g200 : GoodEnv e200 := goodEnv mix1 ent1 (goods_cons ok42 rfl goods_nil)
noncomputable def s200 : Spec := mkSpec (valsOne (valSt celTurn)) (resOne (valSt celTurn)) C_gather_next
set_option maxRecDepth 100000 in
theorem ok200 : SpecOK Try.prog 200 s200 :=
  mkSpec_ok (V := e200) (L := nL) (rounds := 20) (depth := 6) g200 loops_none (fun x => by kernel_rfl)

/- millstream/gather.shut -/
noncomputable def e179 : Env := env1 [(51, s51), (96, s96), (196, s196), (200, s200)]
theorem g179 : GoodEnv e179 := goodEnv mix1 ent1 (goods_cons ok51 rfl (goods_cons ok96 rfl (goods_cons ok196 rfl (goods_cons ok200 rfl goods_nil))))
noncomputable def s179 : Spec := mkSpec (valsOne (valSt celTurn)) (resOne (valSt celTurn)) C_gather_shut
set_option maxRecDepth 100000 in
theorem ok179 : SpecOK Try.prog 179 s179 :=
  mkSpec_ok (V := e179) (L := nL) (rounds := 20) (depth := 6) g179 loops_none (fun x => by kernel_rfl)

/- slices.Grow[[]millstream/thread.Kid,millstream/thread.Kid] -/
noncomputable def e184 : Env := env1m []
theorem g184 : GoodEnv e184 := goodEnv mix1 ent1 goods_nil
noncomputable def s184 : Spec := mkSpec (valsCons (valNil) (valsOne (valInt .i64))) (resOne (valOwn 116 .kid)) C_slices_Grow_thread_Kid
set_option maxRecDepth 100000 in
theorem ok184 : SpecOK Try.prog 184 s184 :=
  mkSpec_ok (V := e184) (L := nL) (rounds := 20) (depth := 6) g184 loops_none (fun x => by kernel_rfl)

/- slices.Concat[[]millstream/thread.Kid,millstream/thread.Kid] -/
noncomputable def e137 : Env := env1 [(184, s184)]
theorem g137 : GoodEnv e137 := goodEnv mix1 ent1 (goods_cons ok184 rfl goods_nil)
noncomputable def l137_11 : LSpec := loop1 [6, 25, 26, 27] (valsCons (valOwn 116 .kid) (valsCons (valLst (.lst .kid)) (valsCons (valInt .i64) (valsOne (valInt .i64))))) (⟨.exit 2, [6], (valsOne (valOwn 116 .kid))⟩ : Way) (whileM T_slices_Concat_thread_Kid_11)
set_option maxRecDepth 100000 in
theorem lok137_11 : LoopOK e137 36 l137_11 (fnLoop e137.P 137 11) :=
  loop1_ok (L := assocL []) (rounds := 20) (depth := 6) (ts := [6, 25, 26, 27]) (v := (valsCons (valOwn 116 .kid) (valsCons (valLst (.lst .kid)) (valsCons (valInt .i64) (valsOne (valInt .i64)))))) (a := ⟨.exit 2, [6], (valsOne (valOwn 116 .kid))⟩) (step := T_slices_Concat_thread_Kid_11) g137 rfl loops_inNil (fun x => by kernel_rfl)
noncomputable def l137_3 : LSpec := loop1 [0, 3, 9, 10, 11] (valsCons (valLst (.lst .kid)) (valsCons (valInt .i64) (valsCons (valLst (.lst .kid)) (valsCons (valInt .i64) (valsOne (valInt .i64)))))) (⟨.exit 0, [0, 3], (valsCons (valLst (.lst .kid)) (valsOne (valInt .i64)))⟩ : Way) (whileM T_slices_Concat_thread_Kid_3)
set_option maxRecDepth 100000 in
theorem lok137_3 : LoopOK e137 36 l137_3 (fnLoop e137.P 137 3) :=
  loop1_ok (L := assocL []) (rounds := 20) (depth := 6) (ts := [0, 3, 9, 10, 11]) (v := (valsCons (valLst (.lst .kid)) (valsCons (valInt .i64) (valsCons (valLst (.lst .kid)) (valsCons (valInt .i64) (valsOne (valInt .i64))))))) (a := ⟨.exit 0, [0, 3], (valsCons (valLst (.lst .kid)) (valsOne (valInt .i64)))⟩) (step := T_slices_Concat_thread_Kid_3) g137 rfl loops_inNil (fun x => by kernel_rfl)
noncomputable def s137 : Spec := mkSpec (valsOne (valLst (.lst .kid))) (resOne (valOwn 116 .kid)) C_slices_Concat_thread_Kid
set_option maxRecDepth 100000 in
theorem ok137 : SpecOK Try.prog 137 s137 :=
  mkSpec_ok (V := e137) (L := (assocL [(11, l137_11), (3, l137_3)])) (rounds := 20) (depth := 6) g137 (loops_fn (nt := 36) (by kernel_rfl) (ntB_ok (by kernel_rfl)) (loopsOK_cons lok137_11 (loopsOK_cons lok137_3 loopsOK_nil))) (fun x => by kernel_rfl)

/- slices.Grow[[]millstream/batch.Entry,millstream/batch.Entry] -/
noncomputable def e204 : Env := env1m []
theorem g204 : GoodEnv e204 := goodEnv mix1 ent1 goods_nil
noncomputable def s204 : Spec := mkSpec (valsCons (valNil) (valsOne (valInt .i64))) (resOne (valOwn 166 .entry)) C_slices_Grow_batch_Entry
set_option maxRecDepth 100000 in
theorem ok204 : SpecOK Try.prog 204 s204 :=
  mkSpec_ok (V := e204) (L := nL) (rounds := 20) (depth := 6) g204 loops_none (fun x => by kernel_rfl)

/- slices.Concat[[]millstream/batch.Entry,millstream/batch.Entry] -/
noncomputable def e185 : Env := env1 [(204, s204)]
theorem g185 : GoodEnv e185 := goodEnv mix1 ent1 (goods_cons ok204 rfl goods_nil)
noncomputable def l185_11 : LSpec := loop1 [6, 25, 26, 27] (valsCons (valOwn 166 .entry) (valsCons (valLst (.lst .entry)) (valsCons (valInt .i64) (valsOne (valInt .i64))))) (⟨.exit 2, [6], (valsOne (valOwn 166 .entry))⟩ : Way) (whileM T_slices_Concat_batch_Entry_11)
set_option maxRecDepth 100000 in
theorem lok185_11 : LoopOK e185 36 l185_11 (fnLoop e185.P 185 11) :=
  loop1_ok (L := assocL []) (rounds := 20) (depth := 6) (ts := [6, 25, 26, 27]) (v := (valsCons (valOwn 166 .entry) (valsCons (valLst (.lst .entry)) (valsCons (valInt .i64) (valsOne (valInt .i64)))))) (a := ⟨.exit 2, [6], (valsOne (valOwn 166 .entry))⟩) (step := T_slices_Concat_batch_Entry_11) g185 rfl loops_inNil (fun x => by kernel_rfl)
noncomputable def l185_3 : LSpec := loop1 [0, 3, 9, 10, 11] (valsCons (valLst (.lst .entry)) (valsCons (valInt .i64) (valsCons (valLst (.lst .entry)) (valsCons (valInt .i64) (valsOne (valInt .i64)))))) (⟨.exit 0, [0, 3], (valsCons (valLst (.lst .entry)) (valsOne (valInt .i64)))⟩ : Way) (whileM T_slices_Concat_batch_Entry_3)
set_option maxRecDepth 100000 in
theorem lok185_3 : LoopOK e185 36 l185_3 (fnLoop e185.P 185 3) :=
  loop1_ok (L := assocL []) (rounds := 20) (depth := 6) (ts := [0, 3, 9, 10, 11]) (v := (valsCons (valLst (.lst .entry)) (valsCons (valInt .i64) (valsCons (valLst (.lst .entry)) (valsCons (valInt .i64) (valsOne (valInt .i64))))))) (a := ⟨.exit 0, [0, 3], (valsCons (valLst (.lst .entry)) (valsOne (valInt .i64)))⟩) (step := T_slices_Concat_batch_Entry_3) g185 rfl loops_inNil (fun x => by kernel_rfl)
noncomputable def s185 : Spec := mkSpec (valsOne (valLst (.lst .entry))) (resOne (valOwn 166 .entry)) C_slices_Concat_batch_Entry
set_option maxRecDepth 100000 in
theorem ok185 : SpecOK Try.prog 185 s185 :=
  mkSpec_ok (V := e185) (L := (assocL [(11, l185_11), (3, l185_3)])) (rounds := 20) (depth := 6) g185 (loops_fn (nt := 36) (by kernel_rfl) (ntB_ok (by kernel_rfl)) (loopsOK_cons lok185_11 (loopsOK_cons lok185_3 loopsOK_nil))) (fun x => by kernel_rfl)

/- millstream/batch.Join -/
noncomputable def e138 : Env := env1 [(185, s185)]
theorem g138 : GoodEnv e138 := goodEnv mix1 ent1 (goods_cons ok185 rfl goods_nil)
noncomputable def s138 : Spec := mkSpec (valsOne (valLst (.lst .entry))) (resOne (valLst .entry)) C_batch_Join
set_option maxRecDepth 100000 in
theorem ok138 : SpecOK Try.prog 138 s138 :=
  mkSpec_ok (V := e138) (L := nL) (rounds := 20) (depth := 6) g138 loops_none (fun x => by kernel_rfl)

/- millstream/gather.Take -/
noncomputable def e65 : Env := env1 [(137, s137), (138, s138)]
theorem g65 : GoodEnv e65 := goodEnv mix1 ent1 (goods_cons ok137 rfl (goods_cons ok138 rfl goods_nil))
noncomputable def s65 : Spec := mkSpec (valsCons (valSt celTurn) (valsCons (valInt .i64) (valsOne (valLst .entry)))) (resOne (valSt celTurn)) C_gather_Take
set_option maxRecDepth 100000 in
theorem ok65 : SpecOK Try.prog 65 s65 :=
  mkSpec_ok (V := e65) (L := nL) (rounds := 20) (depth := 6) g65 loops_none (fun x => by kernel_rfl)

/- millstream/wmem.at[[]millstream/batch.Entry] -/
noncomputable def e211 : Env := env1 []
theorem g211 : GoodEnv e211 := goodEnv mix1 ent1 goods_nil
noncomputable def s211 : Spec := mkSpec (valsCons (valLst (.lst .entry)) (valsOne (valInt .i64))) (resTup (valsCons (valLst .entry) (valsOne (valInt .i64)))) C_wmem_at_lbatch_Entry
set_option maxRecDepth 100000 in
theorem ok211 : SpecOK Try.prog 211 s211 :=
  mkSpec_ok (V := e211) (L := nL) (rounds := 20) (depth := 6) g211 loops_none (fun x => by kernel_rfl)

/- slices.Clone[[]millstream/batch.Entry,millstream/batch.Entry] -/
noncomputable def e212 : Env := env1 []
theorem g212 : GoodEnv e212 := goodEnv mix1 ent1 goods_nil
noncomputable def s212 : Spec := mkSpec (valsOne (valLst .entry)) (resOne (valOwn 166 .entry)) C_slices_Clone_batch_Entry
set_option maxRecDepth 100000 in
theorem ok212 : SpecOK Try.prog 212 s212 :=
  spec_nil (V := e212) (L := nL) (rounds := 20) (depth := 6) (r := (resOne (valOwn 166 .entry))) g212 loops_none (by kernel_rfl) (fun x => by kernel_rfl)

/- millstream/wmem.Box -/
noncomputable def e201 : Env := env1 [(211, s211), (212, s212)]
theorem g201 : GoodEnv e201 := goodEnv mix1 ent1 (goods_cons ok211 rfl (goods_cons ok212 rfl goods_nil))
noncomputable def s201 : Spec := mkSpec (valsCons (valSt celMemo) (valsOne (valInt .i64))) (resTup (valsCons (valLst .entry) (valsOne (valInt .i64)))) C_wmem_Box
set_option maxRecDepth 100000 in
theorem ok201 : SpecOK Try.prog 201 s201 :=
  mkSpec_ok (V := e201) (L := nL) (rounds := 20) (depth := 6) g201 loops_none (fun x => by kernel_rfl)

/- millstream/gather.collect -/
noncomputable def e180 : Env := env1 [(65, s65), (201, s201)]
theorem g180 : GoodEnv e180 := goodEnv mix1 ent1 (goods_cons ok65 rfl (goods_cons ok201 rfl goods_nil))
noncomputable def s180 : Spec := mkSpec (valsOne (valSt celTurn)) (resOne (valSt celTurn)) C_gather_collect
set_option maxRecDepth 100000 in
theorem ok180 : SpecOK Try.prog 180 s180 :=
  mkSpec_ok (V := e180) (L := nL) (rounds := 20) (depth := 6) g180 loops_none (fun x => by kernel_rfl)

/- millstream/wmem.Store -/
noncomputable def e142 : Env := env1 [(166, s166), (171, s171)]
theorem g142 : GoodEnv e142 := goodEnv mix1 ent1 (goods_cons ok166 rfl (goods_cons ok171 rfl goods_nil))
noncomputable def s142 : Spec := mkSpec (valsCons (valSt celMemo) (valsCons (valInt .i64) (valsOne (valInt .i64)))) (resTup (valsCons (valSt celMemo) (valsOne (valInt .i64)))) C_wmem_Store
set_option maxRecDepth 100000 in
theorem ok142 : SpecOK Try.prog 142 s142 :=
  mkSpec_ok (V := e142) (L := nL) (rounds := 20) (depth := 6) g142 loops_none (fun x => by kernel_rfl)

/- millstream/gather.free -/
noncomputable def e181 : Env := env1 [(142, s142), (196, s196), (200, s200)]
theorem g181 : GoodEnv e181 := goodEnv mix1 ent1 (goods_cons ok142 rfl (goods_cons ok196 rfl (goods_cons ok200 rfl goods_nil)))
noncomputable def s181 : Spec := mkSpec (valsOne (valSt celTurn)) (resOne (valSt celTurn)) C_gather_free
set_option maxRecDepth 100000 in
theorem ok181 : SpecOK Try.prog 181 s181 :=
  mkSpec_ok (V := e181) (L := nL) (rounds := 20) (depth := 6) g181 loops_none (fun x => by kernel_rfl)

/- slices.Clone[[][]millstream/batch.Entry,[]millstream/batch.Entry] -/
noncomputable def e213 : Env := env1 []
theorem g213 : GoodEnv e213 := goodEnv mix1 ent1 goods_nil
noncomputable def s213 : Spec := mkSpec (valsOne (valLst (.lst .entry))) (resOne (valOwn 71 (.lst .entry))) C_slices_Clone_lbatch_Entry
set_option maxRecDepth 100000 in
theorem ok213 : SpecOK Try.prog 213 s213 :=
  spec_nil (V := e213) (L := nL) (rounds := 20) (depth := 6) (r := (resOne (valOwn 71 (.lst .entry)))) g213 loops_none (by kernel_rfl) (fun x => by kernel_rfl)

/- millstream/wmem.Put -/
noncomputable def e203 : Env := env1 [(211, s211), (212, s212), (213, s213)]
theorem g203 : GoodEnv e203 := goodEnv mix1 ent1 (goods_cons ok211 rfl (goods_cons ok212 rfl (goods_cons ok213 rfl goods_nil)))
noncomputable def s203 : Spec := mkSpec (valsCons (valSt celMemo) (valsCons (valInt .i64) (valsOne (valLst .entry)))) (resTup (valsCons (valSt celMemo) (valsOne (valInt .i64)))) C_wmem_Put
set_option maxRecDepth 100000 in
theorem ok203 : SpecOK Try.prog 203 s203 :=
  mkSpec_ok (V := e203) (L := nL) (rounds := 20) (depth := 6) g203 loops_none (fun x => by kernel_rfl)

/- millstream/gather.publish -/
noncomputable def e182 : Env := env1 [(203, s203)]
theorem g182 : GoodEnv e182 := goodEnv mix1 ent1 (goods_cons ok203 rfl goods_nil)
noncomputable def s182 : Spec := mkSpec (valsOne (valSt celTurn)) (resOne (valSt celTurn)) C_gather_publish
set_option maxRecDepth 100000 in
theorem ok182 : SpecOK Try.prog 182 s182 :=
  mkSpec_ok (V := e182) (L := nL) (rounds := 20) (depth := 6) g182 loops_none (fun x => by kernel_rfl)

/- millstream/code.Deposited -/
noncomputable def e68 : Env := env1 [(120, s120)]
theorem g68 : GoodEnv e68 := goodEnv mix1 ent1 (goods_cons ok120 rfl goods_nil)
noncomputable def s68 : Spec := mkSpec (valsOne (valInt .i64)) (resOne (valInt .i64)) C_code_Deposited
set_option maxRecDepth 100000 in
theorem ok68 : SpecOK Try.prog 68 s68 :=
  mkSpec_ok (V := e68) (L := nL) (rounds := 20) (depth := 6) g68 loops_none (fun x => by kernel_rfl)

/- millstream/gather.deposit -/
noncomputable def e183 : Env := env1 [(68, s68), (93, s93), (142, s142)]
theorem g183 : GoodEnv e183 := goodEnv mix1 ent1 (goods_cons ok68 rfl (goods_cons ok93 rfl (goods_cons ok142 rfl goods_nil)))
noncomputable def s183 : Spec := mkSpec (valsOne (valSt celTurn)) (resOne (valSt celTurn)) C_gather_deposit
set_option maxRecDepth 100000 in
theorem ok183 : SpecOK Try.prog 183 s183 :=
  mkSpec_ok (V := e183) (L := nL) (rounds := 20) (depth := 6) g183 loops_none (fun x => by kernel_rfl)

/- millstream/gather.Step -/
noncomputable def e62 : Env := env1 [(178, s178), (179, s179), (180, s180), (181, s181), (182, s182), (183, s183)]
theorem g62 : GoodEnv e62 := goodEnv mix1 ent1 (goods_cons ok178 rfl (goods_cons ok179 rfl (goods_cons ok180 rfl (goods_cons ok181 rfl (goods_cons ok182 rfl (goods_cons ok183 rfl goods_nil))))))
noncomputable def s62 : Spec := mkSpec (valsOne (valSt celTurn)) (resTup (valsCons (valSt celTurn) (valsOne (valBool)))) C_gather_Step
set_option maxRecDepth 100000 in
theorem ok62 : SpecOK Try.prog 62 s62 :=
  mkSpec_ok (V := e62) (L := nL) (rounds := 20) (depth := 6) g62 loops_none (fun x => by kernel_rfl)

/- millstream/millstreamlaw14.shown -/
noncomputable def e61 : Env := env1 [(45, s45), (62, s62), (68, s68)]
theorem g61 : GoodEnv e61 := goodEnv mix1 ent1 (goods_cons ok45 rfl (goods_cons ok62 rfl (goods_cons ok68 rfl goods_nil)))
noncomputable def s61 : Spec := mkSpec valsNil (resOne (valBool)) C_law14_shown
set_option maxRecDepth 100000 in
theorem ok61 : SpecOK Try.prog 61 s61 :=
  mkSpec_ok (V := e61) (L := nL) (rounds := 20) (depth := 6) g61 loops_none (fun x => by kernel_rfl)

/- millstream/millstreamref02.Join -/
noncomputable def e139 : Env := env1 []
theorem g139 : GoodEnv e139 := goodEnv mix1 ent1 goods_nil
noncomputable def l139_3 : LSpec := loop1 [0, 3, 4] (valsCons (valLst (.lst .entry)) (valsCons (valOwn 164 .entry) (valsOne (valInt .i64)))) (⟨.exit 0, [3], (valsOne (valOwn 164 .entry))⟩ : Way) (whileM T_ref02_Join_3)
set_option maxRecDepth 100000 in
theorem lok139_3 : LoopOK e139 19 l139_3 (fnLoop e139.P 139 3) :=
  loop1_ok (L := assocL []) (rounds := 20) (depth := 6) (ts := [0, 3, 4]) (v := (valsCons (valLst (.lst .entry)) (valsCons (valOwn 164 .entry) (valsOne (valInt .i64))))) (a := ⟨.exit 0, [3], (valsOne (valOwn 164 .entry))⟩) (step := T_ref02_Join_3) g139 rfl loops_inNil (fun x => by kernel_rfl)
noncomputable def s139 : Spec := mkSpec (valsOne (valLst (.lst .entry))) (resOne (valLst .entry)) C_ref02_Join
set_option maxRecDepth 100000 in
theorem ok139 : SpecOK Try.prog 139 s139 :=
  mkSpec_ok (V := e139) (L := (assocL [(3, l139_3)])) (rounds := 20) (depth := 6) g139 (loops_fn (nt := 19) (by kernel_rfl) (ntB_ok (by kernel_rfl)) (loopsOK_cons lok139_3 loopsOK_nil)) (fun x => by kernel_rfl)

/- millstream/millstreamref14.Take -/
noncomputable def e66 : Env := env1 [(139, s139)]
theorem g66 : GoodEnv e66 := goodEnv mix1 ent1 (goods_cons ok139 rfl goods_nil)
noncomputable def s66 : Spec := mkSpec (valsCons (valSt celTurn) (valsCons (valInt .i64) (valsOne (valLst .entry)))) (resOne (valSt celTurn)) C_ref14_Take
set_option maxRecDepth 100000 in
theorem ok66 : SpecOK Try.prog 66 s66 :=
  mkSpec_ok (V := e66) (L := nL) (rounds := 20) (depth := 6) g66 loops_none (fun x => by kernel_rfl)

/- millstream/millstreamref14.held -/
noncomputable def e127 : Env := env1 [(50, s50)]
theorem g127 : GoodEnv e127 := goodEnv mix1 ent1 (goods_cons ok50 rfl goods_nil)
noncomputable def s127 : Spec := mkSpec (valsOne (valSt celTurn)) (resOne (valInt .i64)) C_ref14_held
set_option maxRecDepth 100000 in
theorem ok127 : SpecOK Try.prog 127 s127 :=
  mkSpec_ok (V := e127) (L := nL) (rounds := 20) (depth := 6) g127 loops_none (fun x => by kernel_rfl)

/- millstream/millstreamref08.Who -/
noncomputable def e128 : Env := env1 [(101, s101)]
theorem g128 : GoodEnv e128 := goodEnv mix1 ent1 (goods_cons ok101 rfl goods_nil)
noncomputable def s128 : Spec := mkSpec (valsOne (valInt .i64)) (resOne (valInt .i64)) C_ref08_Who
set_option maxRecDepth 100000 in
theorem ok128 : SpecOK Try.prog 128 s128 :=
  mkSpec_ok (V := e128) (L := nL) (rounds := 20) (depth := 6) g128 loops_none (fun x => by kernel_rfl)

/- millstream/millstreamref14.next -/
noncomputable def e129 : Env := env1 [(43, s43)]
theorem g129 : GoodEnv e129 := goodEnv mix1 ent1 (goods_cons ok43 rfl goods_nil)
noncomputable def s129 : Spec := mkSpec (valsOne (valSt celTurn)) (resOne (valSt celTurn)) C_ref14_next
set_option maxRecDepth 100000 in
theorem ok129 : SpecOK Try.prog 129 s129 :=
  mkSpec_ok (V := e129) (L := nL) (rounds := 20) (depth := 6) g129 loops_none (fun x => by kernel_rfl)

/- millstream/millstreamref03.Box -/
noncomputable def e130 : Env := env1 []
theorem g130 : GoodEnv e130 := goodEnv mix1 ent1 goods_nil
noncomputable def s130 : Spec := mkSpec (valsCons (valSt celMemo) (valsOne (valInt .i64))) (resTup (valsCons (valLst .entry) (valsOne (valInt .i64)))) C_ref03_Box
set_option maxRecDepth 100000 in
theorem ok130 : SpecOK Try.prog 130 s130 :=
  mkSpec_ok (V := e130) (L := nL) (rounds := 20) (depth := 6) g130 loops_none (fun x => by kernel_rfl)

/- millstream/millstreamref03.Put -/
noncomputable def e132 : Env := env1 []
theorem g132 : GoodEnv e132 := goodEnv mix1 ent1 goods_nil
noncomputable def s132 : Spec := mkSpec (valsCons (valSt celMemo) (valsCons (valInt .i64) (valsOne (valLst .entry)))) (resTup (valsCons (valSt celMemo) (valsOne (valInt .i64)))) C_ref03_Put
set_option maxRecDepth 100000 in
theorem ok132 : SpecOK Try.prog 132 s132 :=
  mkSpec_ok (V := e132) (L := nL) (rounds := 20) (depth := 6) g132 loops_none (fun x => by kernel_rfl)

/- millstream/millstreamref14.Step -/
noncomputable def e63 : Env := env1 [(50, s50), (66, s66), (100, s100), (101, s101), (104, s104), (105, s105), (127, s127), (128, s128), (129, s129), (130, s130), (131, s131), (132, s132), (133, s133)]
theorem g63 : GoodEnv e63 := goodEnv mix1 ent1 (goods_cons ok50 rfl (goods_cons ok66 rfl (goods_cons ok100 rfl (goods_cons ok101 rfl (goods_cons ok104 rfl (goods_cons ok105 rfl (goods_cons ok127 rfl (goods_cons ok128 rfl (goods_cons ok129 rfl (goods_cons ok130 rfl (goods_cons ok131 rfl (goods_cons ok132 rfl (goods_cons ok133 rfl goods_nil)))))))))))))
noncomputable def s63 : Spec := mkSpec (valsOne (valSt celTurn)) (resTup (valsCons (valSt celTurn) (valsOne (valBool)))) C_ref14_Step
set_option maxRecDepth 100000 in
theorem ok63 : SpecOK Try.prog 63 s63 :=
  mkSpec_ok (V := e63) (L := nL) (rounds := 20) (depth := 6) g63 loops_none (fun x => by kernel_rfl)

/- millstream/millstreamlaw14.entries -/
noncomputable def e67 : Env := env1 []
theorem g67 : GoodEnv e67 := goodEnv mix1 ent1 goods_nil
noncomputable def l67_3 : LSpec := loop1 [0, 3, 4] (valsCons (valLst .entry) (valsCons (valOwn 164 .entry) (valsOne (valInt .i64)))) (⟨.exit 0, [3], (valsOne (valOwn 164 .entry))⟩ : Way) (whileM T_law14_entries_3)
set_option maxRecDepth 100000 in
theorem lok67_3 : LoopOK e67 27 l67_3 (fnLoop e67.P 67 3) :=
  loop1_ok (L := assocL []) (rounds := 20) (depth := 6) (ts := [0, 3, 4]) (v := (valsCons (valLst .entry) (valsCons (valOwn 164 .entry) (valsOne (valInt .i64))))) (a := ⟨.exit 0, [3], (valsOne (valOwn 164 .entry))⟩) (step := T_law14_entries_3) g67 rfl loops_inNil (fun x => by kernel_rfl)
noncomputable def s67 : Spec := mkSpec (valsOne (valLst .entry)) (resOne (valOwn 164 .entry)) C_law14_entries
set_option maxRecDepth 100000 in
theorem ok67 : SpecOK Try.prog 67 s67 :=
  mkSpec_ok (V := e67) (L := (assocL [(3, l67_3)])) (rounds := 20) (depth := 6) g67 (loops_fn (nt := 27) (by kernel_rfl) (ntB_ok (by kernel_rfl)) (loopsOK_cons lok67_3 loopsOK_nil)) (fun x => by kernel_rfl)

/- millstream/millstreamlaw14.memory -/
noncomputable def e134 : Env := env1 [(67, s67)]
theorem g134 : GoodEnv e134 := goodEnv mix1 ent1 (goods_cons ok67 rfl goods_nil)
noncomputable def l134_3 : LSpec := loop1 [1, 2, 3, 4] (valsCons (valBox celMemo) (valsCons (valBox celMemo) (valsCons (valBox (celAs (celApp (celLst .int) (celOwn 80 (.lst .entry))) Memo (fun y => ⟨y.1, y.2⟩) (fun x => (x.words, x.boxes)) (fun _ => rfl))) (valsOne (valInt .i64))))) (⟨.exit 0, [2, 3], (valsCons (valBox celMemo) (valsOne (valBox (celAs (celApp (celLst .int) (celOwn 80 (.lst .entry))) Memo (fun y => ⟨y.1, y.2⟩) (fun x => (x.words, x.boxes)) (fun _ => rfl)))))⟩ : Way) (whileM T_law14_memory_3)
set_option maxRecDepth 100000 in
theorem lok134_3 : LoopOK e134 27 l134_3 (fnLoop e134.P 134 3) :=
  loop1_ok (L := assocL []) (rounds := 20) (depth := 6) (ts := [1, 2, 3, 4]) (v := (valsCons (valBox celMemo) (valsCons (valBox celMemo) (valsCons (valBox (celAs (celApp (celLst .int) (celOwn 80 (.lst .entry))) Memo (fun y => ⟨y.1, y.2⟩) (fun x => (x.words, x.boxes)) (fun _ => rfl))) (valsOne (valInt .i64)))))) (a := ⟨.exit 0, [2, 3], (valsCons (valBox celMemo) (valsOne (valBox (celAs (celApp (celLst .int) (celOwn 80 (.lst .entry))) Memo (fun y => ⟨y.1, y.2⟩) (fun x => (x.words, x.boxes)) (fun _ => rfl)))))⟩) (step := T_law14_memory_3) g134 rfl loops_inNil (fun x => by kernel_rfl)
noncomputable def s134 : Spec := mkSpec (valsOne (valSt celMemo)) (resOne (valSt celMemo)) C_law14_memory
set_option maxRecDepth 100000 in
theorem ok134 : SpecOK Try.prog 134 s134 :=
  mkSpec_ok (V := e134) (L := (assocL [(3, l134_3)])) (rounds := 20) (depth := 6) g134 (loops_fn (nt := 27) (by kernel_rfl) (ntB_ok (by kernel_rfl)) (loopsOK_cons lok134_3 loopsOK_nil)) (fun x => by kernel_rfl)

/- millstream/millstreamlaw14.fiber -/
noncomputable def e135 : Env := env1 [(67, s67)]
theorem g135 : GoodEnv e135 := goodEnv mix1 ent1 (goods_cons ok67 rfl goods_nil)
noncomputable def l135_3 : LSpec := loop1 [1, 2, 3, 4] (valsCons (valBox celThread) (valsCons (valBox celThread) (valsCons (valBox (celAs (celApp (celInt .i64) (celApp (celInt .i64) (celApp celOp (celApp (celLst .entry) (celApp (celOwn 179 .kid) (celApp (celLst .int) (celApp (celInt .i64) (celApp (celInt .i64) (celApp (celInt .i64) (celApp (celInt .i64) (celApp (celInt .i64) (celApp (celInt .i64) (celApp (celInt .i64) (celApp (celInt .i64) (celApp (celInt .i64) (celInt .i64)))))))))))))))) Thread (fun y => ⟨y.1, y.2.1, y.2.2.1, y.2.2.2.1, y.2.2.2.2.1, y.2.2.2.2.2.1, y.2.2.2.2.2.2.1, y.2.2.2.2.2.2.2.1, y.2.2.2.2.2.2.2.2.1, y.2.2.2.2.2.2.2.2.2.1, y.2.2.2.2.2.2.2.2.2.2.1, y.2.2.2.2.2.2.2.2.2.2.2.1, y.2.2.2.2.2.2.2.2.2.2.2.2.1, y.2.2.2.2.2.2.2.2.2.2.2.2.2.1, y.2.2.2.2.2.2.2.2.2.2.2.2.2.2.1, y.2.2.2.2.2.2.2.2.2.2.2.2.2.2.2⟩) (fun x => (x.phase, (x.item, (x.op, (x.batch, (x.kids, (x.held, (x.stop, (x.node, (x.at_, (x.layer, (x.left, (x.width, (x.who, (x.x, (x.y, x.until_)))))))))))))))) (fun _ => rfl))) (valsOne (valInt .i64))))) (⟨.exit 0, [2, 3], (valsCons (valBox celThread) (valsOne (valBox (celAs (celApp (celInt .i64) (celApp (celInt .i64) (celApp celOp (celApp (celLst .entry) (celApp (celOwn 179 .kid) (celApp (celLst .int) (celApp (celInt .i64) (celApp (celInt .i64) (celApp (celInt .i64) (celApp (celInt .i64) (celApp (celInt .i64) (celApp (celInt .i64) (celApp (celInt .i64) (celApp (celInt .i64) (celApp (celInt .i64) (celInt .i64)))))))))))))))) Thread (fun y => ⟨y.1, y.2.1, y.2.2.1, y.2.2.2.1, y.2.2.2.2.1, y.2.2.2.2.2.1, y.2.2.2.2.2.2.1, y.2.2.2.2.2.2.2.1, y.2.2.2.2.2.2.2.2.1, y.2.2.2.2.2.2.2.2.2.1, y.2.2.2.2.2.2.2.2.2.2.1, y.2.2.2.2.2.2.2.2.2.2.2.1, y.2.2.2.2.2.2.2.2.2.2.2.2.1, y.2.2.2.2.2.2.2.2.2.2.2.2.2.1, y.2.2.2.2.2.2.2.2.2.2.2.2.2.2.1, y.2.2.2.2.2.2.2.2.2.2.2.2.2.2.2⟩) (fun x => (x.phase, (x.item, (x.op, (x.batch, (x.kids, (x.held, (x.stop, (x.node, (x.at_, (x.layer, (x.left, (x.width, (x.who, (x.x, (x.y, x.until_)))))))))))))))) (fun _ => rfl)))))⟩ : Way) (whileM T_law14_fiber_3)
set_option maxRecDepth 100000 in
theorem lok135_3 : LoopOK e135 55 l135_3 (fnLoop e135.P 135 3) :=
  loop1_ok (L := assocL []) (rounds := 20) (depth := 6) (ts := [1, 2, 3, 4]) (v := (valsCons (valBox celThread) (valsCons (valBox celThread) (valsCons (valBox (celAs (celApp (celInt .i64) (celApp (celInt .i64) (celApp celOp (celApp (celLst .entry) (celApp (celOwn 179 .kid) (celApp (celLst .int) (celApp (celInt .i64) (celApp (celInt .i64) (celApp (celInt .i64) (celApp (celInt .i64) (celApp (celInt .i64) (celApp (celInt .i64) (celApp (celInt .i64) (celApp (celInt .i64) (celApp (celInt .i64) (celInt .i64)))))))))))))))) Thread (fun y => ⟨y.1, y.2.1, y.2.2.1, y.2.2.2.1, y.2.2.2.2.1, y.2.2.2.2.2.1, y.2.2.2.2.2.2.1, y.2.2.2.2.2.2.2.1, y.2.2.2.2.2.2.2.2.1, y.2.2.2.2.2.2.2.2.2.1, y.2.2.2.2.2.2.2.2.2.2.1, y.2.2.2.2.2.2.2.2.2.2.2.1, y.2.2.2.2.2.2.2.2.2.2.2.2.1, y.2.2.2.2.2.2.2.2.2.2.2.2.2.1, y.2.2.2.2.2.2.2.2.2.2.2.2.2.2.1, y.2.2.2.2.2.2.2.2.2.2.2.2.2.2.2⟩) (fun x => (x.phase, (x.item, (x.op, (x.batch, (x.kids, (x.held, (x.stop, (x.node, (x.at_, (x.layer, (x.left, (x.width, (x.who, (x.x, (x.y, x.until_)))))))))))))))) (fun _ => rfl))) (valsOne (valInt .i64)))))) (a := ⟨.exit 0, [2, 3], (valsCons (valBox celThread) (valsOne (valBox (celAs (celApp (celInt .i64) (celApp (celInt .i64) (celApp celOp (celApp (celLst .entry) (celApp (celOwn 179 .kid) (celApp (celLst .int) (celApp (celInt .i64) (celApp (celInt .i64) (celApp (celInt .i64) (celApp (celInt .i64) (celApp (celInt .i64) (celApp (celInt .i64) (celApp (celInt .i64) (celApp (celInt .i64) (celApp (celInt .i64) (celInt .i64)))))))))))))))) Thread (fun y => ⟨y.1, y.2.1, y.2.2.1, y.2.2.2.1, y.2.2.2.2.1, y.2.2.2.2.2.1, y.2.2.2.2.2.2.1, y.2.2.2.2.2.2.2.1, y.2.2.2.2.2.2.2.2.1, y.2.2.2.2.2.2.2.2.2.1, y.2.2.2.2.2.2.2.2.2.2.1, y.2.2.2.2.2.2.2.2.2.2.2.1, y.2.2.2.2.2.2.2.2.2.2.2.2.1, y.2.2.2.2.2.2.2.2.2.2.2.2.2.1, y.2.2.2.2.2.2.2.2.2.2.2.2.2.2.1, y.2.2.2.2.2.2.2.2.2.2.2.2.2.2.2⟩) (fun x => (x.phase, (x.item, (x.op, (x.batch, (x.kids, (x.held, (x.stop, (x.node, (x.at_, (x.layer, (x.left, (x.width, (x.who, (x.x, (x.y, x.until_)))))))))))))))) (fun _ => rfl)))))⟩) (step := T_law14_fiber_3) g135 rfl loops_inNil (fun x => by kernel_rfl)
noncomputable def s135 : Spec := mkSpec (valsOne (valSt celThread)) (resOne (valSt celThread)) C_law14_fiber
set_option maxRecDepth 100000 in
theorem ok135 : SpecOK Try.prog 135 s135 :=
  mkSpec_ok (V := e135) (L := (assocL [(3, l135_3)])) (rounds := 20) (depth := 6) g135 (loops_fn (nt := 55) (by kernel_rfl) (ntB_ok (by kernel_rfl)) (loopsOK_cons lok135_3 loopsOK_nil)) (fun x => by kernel_rfl)

/- millstream/millstreamlaw14.marks -/
noncomputable def e136 : Env := env1 []
theorem g136 : GoodEnv e136 := goodEnv mix1 ent1 goods_nil
noncomputable def l136_3 : LSpec := loop1 [0, 3, 4] (valsCons (valLst .mark) (valsCons (valOwn 129 .mark) (valsOne (valInt .i64)))) (⟨.exit 0, [3], (valsOne (valOwn 129 .mark))⟩ : Way) (whileM T_law14_marks_3)
set_option maxRecDepth 100000 in
theorem lok136_3 : LoopOK e136 42 l136_3 (fnLoop e136.P 136 3) :=
  loop1_ok (L := assocL []) (rounds := 20) (depth := 6) (ts := [0, 3, 4]) (v := (valsCons (valLst .mark) (valsCons (valOwn 129 .mark) (valsOne (valInt .i64))))) (a := ⟨.exit 0, [3], (valsOne (valOwn 129 .mark))⟩) (step := T_law14_marks_3) g136 rfl loops_inNil (fun x => by kernel_rfl)
noncomputable def s136 : Spec := mkSpec (valsOne (valLst .mark)) (resOne (valLst .mark)) C_law14_marks
set_option maxRecDepth 100000 in
theorem ok136 : SpecOK Try.prog 136 s136 :=
  mkSpec_ok (V := e136) (L := (assocL [(3, l136_3)])) (rounds := 20) (depth := 6) g136 (loops_fn (nt := 42) (by kernel_rfl) (ntB_ok (by kernel_rfl)) (loopsOK_cons lok136_3 loopsOK_nil)) (fun x => by kernel_rfl)

/- millstream/millstreamlaw14.its -/
noncomputable def e64 : Env := env1 [(134, s134), (135, s135), (136, s136)]
theorem g64 : GoodEnv e64 := goodEnv mix1 ent1 (goods_cons ok134 rfl (goods_cons ok135 rfl (goods_cons ok136 rfl goods_nil)))
noncomputable def s64 : Spec := mkSpec (valsOne (valSt celTurn)) (resOne (valSt celTurn)) C_law14_its
set_option maxRecDepth 100000 in
theorem ok64 : SpecOK Try.prog 64 s64 :=
  mkSpec_ok (V := e64) (L := nL) (rounds := 20) (depth := 6) g64 loops_none (fun x => by kernel_rfl)

/- millstream/millstreamlaw14.GatherSteps -/
noncomputable def e13 : Env := env1 [(41, s41), (59, s59), (60, s60), (61, s61), (62, s62), (63, s63), (64, s64), (65, s65), (66, s66), (67, s67)]
theorem g13 : GoodEnv e13 := goodEnv mix1 ent1 (goods_cons ok41 rfl (goods_cons ok59 rfl (goods_cons ok60 rfl (goods_cons ok61 rfl (goods_cons ok62 rfl (goods_cons ok63 rfl (goods_cons ok64 rfl (goods_cons ok65 rfl (goods_cons ok66 rfl (goods_cons ok67 rfl goods_nil))))))))))
noncomputable def s13 : Spec := mkSpec (valsCons (valSt celTurn) (valsCons (valInt .i64) (valsOne (valLst .entry)))) (resOne (valBool)) C_law14_GatherSteps
set_option maxRecDepth 100000 in
theorem ok13 : SpecOK Try.prog 13 s13 :=
  mkSpec_ok (V := e13) (L := nL) (rounds := 20) (depth := 6) g13 loops_none (fun x => by kernel_rfl)

/- millstream/millstreamlaw14.GatherAll -/
noncomputable def e14 : Env := env1 [(50, s50), (51, s51), (54, s54), (59, s59), (60, s60), (61, s61), (62, s62), (67, s67), (68, s68)]
theorem g14 : GoodEnv e14 := goodEnv mix1 ent1 (goods_cons ok50 rfl (goods_cons ok51 rfl (goods_cons ok54 rfl (goods_cons ok59 rfl (goods_cons ok60 rfl (goods_cons ok61 rfl (goods_cons ok62 rfl (goods_cons ok67 rfl (goods_cons ok68 rfl goods_nil)))))))))
noncomputable def l14_39 : LSpec := loop2 [2, 5, 13, 17] (valsCons (valBox celTurn) (valsCons (valBox celConfig) (valsCons (valBox celTurn) (valsOne (valInt .i64))))) (⟨.exit 6, [2, 13], (valsCons (valBox celTurn) (valsOne (valBox celTurn)))⟩ : Way) (⟨.ret, [4], (valsOne (valBool))⟩ : Way) (whileM T_law14_GatherAll_39)
set_option maxRecDepth 100000 in
theorem lok14_39 : LoopOK e14 233 l14_39 (fnLoop e14.P 14 39) :=
  loop2_ok (L := assocL []) (rounds := 20) (depth := 6) (ts := [2, 5, 13, 17]) (v := (valsCons (valBox celTurn) (valsCons (valBox celConfig) (valsCons (valBox celTurn) (valsOne (valInt .i64)))))) (a := ⟨.exit 6, [2, 13], (valsCons (valBox celTurn) (valsOne (valBox celTurn)))⟩) (b := ⟨.ret, [4], (valsOne (valBool))⟩) (step := T_law14_GatherAll_39) g14 rfl rfl loops_inNil (fun x => by kernel_rfl)
noncomputable def l14_30 : LSpec := loop2 [2, 5, 6, 7, 8, 13, 14] (valsCons (valBox celTurn) (valsCons (valBox celConfig) (valsCons (valLst .int) (valsCons (valOwn 164 .entry) (valsCons (valInt .i64) (valsCons (valBox celTurn) (valsOne (valInt .i64)))))))) (⟨.exit 4, [2, 5, 6, 7, 13], (valsCons (valBox celTurn) (valsCons (valBox celConfig) (valsCons (valLst .int) (valsCons (valOwn 164 .entry) (valsOne (valBox celTurn))))))⟩ : Way) (⟨.ret, [4], (valsOne (valBool))⟩ : Way) (whileM T_law14_GatherAll_30)
set_option maxRecDepth 100000 in
theorem lok14_30 : LoopOK e14 233 l14_30 (fnLoop e14.P 14 30) :=
  loop2_ok (L := assocL []) (rounds := 20) (depth := 6) (ts := [2, 5, 6, 7, 8, 13, 14]) (v := (valsCons (valBox celTurn) (valsCons (valBox celConfig) (valsCons (valLst .int) (valsCons (valOwn 164 .entry) (valsCons (valInt .i64) (valsCons (valBox celTurn) (valsOne (valInt .i64))))))))) (a := ⟨.exit 4, [2, 5, 6, 7, 13], (valsCons (valBox celTurn) (valsCons (valBox celConfig) (valsCons (valLst .int) (valsCons (valOwn 164 .entry) (valsOne (valBox celTurn))))))⟩) (b := ⟨.ret, [4], (valsOne (valBool))⟩) (step := T_law14_GatherAll_30) g14 rfl rfl loops_inNil (fun x => by kernel_rfl)
noncomputable def l14_12 : LSpec := loop2 [1, 2, 5, 6, 7, 8, 9, 10, 11] (valsCons (valLst .u8) (valsCons (valBox celTurn) (valsCons (valBox celConfig) (valsCons (valOwn 3 .int) (valsCons (valOwn 164 .entry) (valsCons (valInt .i64) (valsCons (valInt .i64) (valsCons (valInt .i64) (valsOne (valInt .i64)))))))))) (⟨.exit 2, [1, 2, 5, 6, 7, 8, 9, 10], (valsCons (valLst .u8) (valsCons (valBox celTurn) (valsCons (valBox celConfig) (valsCons (valOwn 3 .int) (valsCons (valOwn 164 .entry) (valsCons (valInt .i64) (valsCons (valInt .i64) (valsOne (valInt .i64)))))))))⟩ : Way) (⟨.ret, [4], (valsOne (valBool))⟩ : Way) (whileM T_law14_GatherAll_12)
set_option maxRecDepth 100000 in
theorem lok14_12 : LoopOK e14 233 l14_12 (fnLoop e14.P 14 12) :=
  loop2_ok (L := assocL []) (rounds := 20) (depth := 6) (ts := [1, 2, 5, 6, 7, 8, 9, 10, 11]) (v := (valsCons (valLst .u8) (valsCons (valBox celTurn) (valsCons (valBox celConfig) (valsCons (valOwn 3 .int) (valsCons (valOwn 164 .entry) (valsCons (valInt .i64) (valsCons (valInt .i64) (valsCons (valInt .i64) (valsOne (valInt .i64))))))))))) (a := ⟨.exit 2, [1, 2, 5, 6, 7, 8, 9, 10], (valsCons (valLst .u8) (valsCons (valBox celTurn) (valsCons (valBox celConfig) (valsCons (valOwn 3 .int) (valsCons (valOwn 164 .entry) (valsCons (valInt .i64) (valsCons (valInt .i64) (valsOne (valInt .i64)))))))))⟩) (b := ⟨.ret, [4], (valsOne (valBool))⟩) (step := T_law14_GatherAll_12) g14 rfl rfl loops_inNil (fun x => by kernel_rfl)
noncomputable def l14_8 : LSpec := loop2 [1, 2, 5, 6, 7, 8, 9] (valsCons (valLst .u8) (valsCons (valBox celTurn) (valsCons (valBox celConfig) (valsCons (valOwn 3 .int) (valsCons (valOwn 164 .entry) (valsCons (valInt .i64) (valsOne (valInt .i64)))))))) (⟨.exit 0, [2, 5, 6, 7, 8], (valsCons (valBox celTurn) (valsCons (valBox celConfig) (valsCons (valOwn 3 .int) (valsCons (valOwn 164 .entry) (valsOne (valInt .i64))))))⟩ : Way) (⟨.ret, [4], (valsOne (valBool))⟩ : Way) (whileM T_law14_GatherAll_8)
set_option maxRecDepth 100000 in
theorem lok14_8 : LoopOK e14 233 l14_8 (fnLoop e14.P 14 8) :=
  loop2_ok (L := assocL [(12, l14_12)]) (rounds := 20) (depth := 6) (ts := [1, 2, 5, 6, 7, 8, 9]) (v := (valsCons (valLst .u8) (valsCons (valBox celTurn) (valsCons (valBox celConfig) (valsCons (valOwn 3 .int) (valsCons (valOwn 164 .entry) (valsCons (valInt .i64) (valsOne (valInt .i64))))))))) (a := ⟨.exit 0, [2, 5, 6, 7, 8], (valsCons (valBox celTurn) (valsCons (valBox celConfig) (valsCons (valOwn 3 .int) (valsCons (valOwn 164 .entry) (valsOne (valInt .i64))))))⟩) (b := ⟨.ret, [4], (valsOne (valBool))⟩) (step := T_law14_GatherAll_8) g14 rfl rfl (loops_in (by kernel_rfl) (loopsOK_cons lok14_12 loopsOK_nil)) (fun x => by kernel_rfl)
noncomputable def s14 : Spec := mkSpec (valsCons (valSt celTurn) (valsOne (valLst .u8))) (resOne (valBool)) C_law14_GatherAll
set_option maxRecDepth 100000 in
theorem ok14 : SpecOK Try.prog 14 s14 :=
  mkSpec_ok (V := e14) (L := (assocL [(39, l14_39), (30, l14_30), (12, l14_12), (8, l14_8)])) (rounds := 20) (depth := 6) g14 (loops_fn (nt := 233) (by kernel_rfl) (ntB_ok (by kernel_rfl)) (loopsOK_cons lok14_39 (loopsOK_cons lok14_30 (loopsOK_cons lok14_12 (loopsOK_cons lok14_8 loopsOK_nil))))) (fun x => by kernel_rfl)

/- millstream/millstreamlaw14.GatherLeaves -/
noncomputable def e15 : Env := env1 [(50, s50), (54, s54), (59, s59), (60, s60), (61, s61), (62, s62), (67, s67), (68, s68)]
theorem g15 : GoodEnv e15 := goodEnv mix1 ent1 (goods_cons ok50 rfl (goods_cons ok54 rfl (goods_cons ok59 rfl (goods_cons ok60 rfl (goods_cons ok61 rfl (goods_cons ok62 rfl (goods_cons ok67 rfl (goods_cons ok68 rfl goods_nil))))))))
noncomputable def l15_13 : LSpec := loop2 [1, 4, 5, 7, 9] (valsCons (valBox celTurn) (valsCons (valInt .i64) (valsCons (valBox celTurn) (valsCons (valBox celTurn) (valsOne (valInt .i64)))))) (⟨.exit 0, [1, 4, 5, 7], (valsCons (valBox celTurn) (valsCons (valInt .i64) (valsCons (valBox celTurn) (valsOne (valBox celTurn)))))⟩ : Way) (⟨.ret, [2], (valsOne (valBool))⟩ : Way) (whileM T_law14_GatherLeaves_13)
set_option maxRecDepth 100000 in
theorem lok15_13 : LoopOK e15 147 l15_13 (fnLoop e15.P 15 13) :=
  loop2_ok (L := assocL []) (rounds := 20) (depth := 6) (ts := [1, 4, 5, 7, 9]) (v := (valsCons (valBox celTurn) (valsCons (valInt .i64) (valsCons (valBox celTurn) (valsCons (valBox celTurn) (valsOne (valInt .i64))))))) (a := ⟨.exit 0, [1, 4, 5, 7], (valsCons (valBox celTurn) (valsCons (valInt .i64) (valsCons (valBox celTurn) (valsOne (valBox celTurn)))))⟩) (b := ⟨.ret, [2], (valsOne (valBool))⟩) (step := T_law14_GatherLeaves_13) g15 rfl rfl loops_inNil (fun x => by kernel_rfl)
noncomputable def s15 : Spec := mkSpec (valsOne (valSt celTurn)) (resOne (valBool)) C_law14_GatherLeaves
set_option maxRecDepth 100000 in
theorem ok15 : SpecOK Try.prog 15 s15 :=
  mkSpec_ok (V := e15) (L := (assocL [(13, l15_13)])) (rounds := 20) (depth := 6) g15 (loops_fn (nt := 147) (by kernel_rfl) (ntB_ok (by kernel_rfl)) (loopsOK_cons lok15_13 loopsOK_nil)) (fun x => by kernel_rfl)

/- millstream/millstreamlaw14.GatherWaits -/
noncomputable def e16 : Env := env1 [(41, s41), (50, s50), (52, s52), (59, s59), (60, s60), (61, s61), (62, s62), (64, s64)]
theorem g16 : GoodEnv e16 := goodEnv mix1 ent1 (goods_cons ok41 rfl (goods_cons ok50 rfl (goods_cons ok52 rfl (goods_cons ok59 rfl (goods_cons ok60 rfl (goods_cons ok61 rfl (goods_cons ok62 rfl (goods_cons ok64 rfl goods_nil))))))))
noncomputable def s16 : Spec := mkSpec (valsCons (valSt celTurn) (valsOne (valInt .u8))) (resOne (valBool)) C_law14_GatherWaits
set_option maxRecDepth 100000 in
theorem ok16 : SpecOK Try.prog 16 s16 :=
  mkSpec_ok (V := e16) (L := nL) (rounds := 20) (depth := 6) g16 loops_none (fun x => by kernel_rfl)

/- millstream/millstreamlaw14.GatherRace -/
noncomputable def e17 : Env := env1 [(41, s41), (50, s50), (51, s51), (52, s52), (59, s59), (60, s60), (61, s61), (62, s62), (64, s64)]
theorem g17 : GoodEnv e17 := goodEnv mix1 ent1 (goods_cons ok41 rfl (goods_cons ok50 rfl (goods_cons ok51 rfl (goods_cons ok52 rfl (goods_cons ok59 rfl (goods_cons ok60 rfl (goods_cons ok61 rfl (goods_cons ok62 rfl (goods_cons ok64 rfl goods_nil)))))))))
noncomputable def s17 : Spec := mkSpec (valsCons (valSt celTurn) (valsOne (valInt .u8))) (resOne (valBool)) C_law14_GatherRace
set_option maxRecDepth 100000 in
theorem ok17 : SpecOK Try.prog 17 s17 :=
  mkSpec_ok (V := e17) (L := nL) (rounds := 20) (depth := 6) g17 loops_none (fun x => by kernel_rfl)

/- millstream/millstreamlaw15.big -/
noncomputable def e69 : Env := env1 []
theorem g69 : GoodEnv e69 := goodEnv mix1 ent1 goods_nil
noncomputable def l69_2 : LSpec := loop2 [1, 3] (valsCons (valBox celTurn) (valsOne (valInt .i64))) (⟨.exit 0, [1], (valsOne (valBox celTurn))⟩ : Way) (⟨.ret, [2], (valsOne (valBool))⟩ : Way) (whileM T_law15_big_2)
set_option maxRecDepth 100000 in
theorem lok69_2 : LoopOK e69 70 l69_2 (fnLoop e69.P 69 2) :=
  loop2_ok (L := assocL []) (rounds := 20) (depth := 6) (ts := [1, 3]) (v := (valsCons (valBox celTurn) (valsOne (valInt .i64)))) (a := ⟨.exit 0, [1], (valsOne (valBox celTurn))⟩) (b := ⟨.ret, [2], (valsOne (valBool))⟩) (step := T_law15_big_2) g69 rfl rfl loops_inNil (fun x => by kernel_rfl)
noncomputable def s69 : Spec := mkSpec (valsOne (valSt celTurn)) (resOne (valBool)) C_law15_big
set_option maxRecDepth 100000 in
theorem ok69 : SpecOK Try.prog 69 s69 :=
  mkSpec_ok (V := e69) (L := (assocL [(2, l69_2)])) (rounds := 20) (depth := 6) g69 (loops_fn (nt := 70) (by kernel_rfl) (ntB_ok (by kernel_rfl)) (loopsOK_cons lok69_2 loopsOK_nil)) (fun x => by kernel_rfl)

/- millstream/millstreamlaw15.may -/
noncomputable def e140 : Env := env1 [(44, s44), (47, s47)]
theorem g140 : GoodEnv e140 := goodEnv mix1 ent1 (goods_cons ok44 rfl (goods_cons ok47 rfl goods_nil))
noncomputable def s140 : Spec := mkSpec (valsOne (valSt celTurn)) (resOne (valBool)) C_law15_may
set_option maxRecDepth 100000 in
theorem ok140 : SpecOK Try.prog 140 s140 :=
  mkSpec_ok (V := e140) (L := nL) (rounds := 20) (depth := 6) g140 loops_none (fun x => by kernel_rfl)

/- millstream/millstreamlaw15.layered -/
noncomputable def e70 : Env := env1 [(140, s140)]
theorem g70 : GoodEnv e70 := goodEnv mix1 ent1 (goods_cons ok140 rfl goods_nil)
noncomputable def s70 : Spec := mkSpec (valsOne (valSt celTurn)) (resOne (valBool)) C_law15_layered
set_option maxRecDepth 100000 in
theorem ok70 : SpecOK Try.prog 70 s70 :=
  mkSpec_ok (V := e70) (L := nL) (rounds := 20) (depth := 6) g70 loops_none (fun x => by kernel_rfl)

/- millstream/code.Open -/
noncomputable def e77 : Env := env1 [(120, s120)]
theorem g77 : GoodEnv e77 := goodEnv mix1 ent1 (goods_cons ok120 rfl goods_nil)
noncomputable def s77 : Spec := mkSpec (valsCons (valInt .i64) (valsOne (valInt .i64))) (resOne (valInt .i64)) C_code_Open
set_option maxRecDepth 100000 in
theorem ok77 : SpecOK Try.prog 77 s77 :=
  mkSpec_ok (V := e77) (L := nL) (rounds := 20) (depth := 6) g77 loops_none (fun x => by kernel_rfl)

/- millstream/arena.Line -/
noncomputable def e191 : Env := env1 [(165, s165)]
theorem g191 : GoodEnv e191 := goodEnv mix1 ent1 (goods_cons ok165 rfl goods_nil)
noncomputable def s191 : Spec := mkSpec (valsCons (valSt celConfig) (valsOne (valInt .i64))) (resOne (valInt .i64)) C_arena_Line
set_option maxRecDepth 100000 in
theorem ok191 : SpecOK Try.prog 191 s191 :=
  mkSpec_ok (V := e191) (L := nL) (rounds := 20) (depth := 6) g191 loops_none (fun x => by kernel_rfl)

/- (*millstream/collide.diver).line -/
noncomputable def e143 : Env := env1 [(191, s191)]
theorem g143 : GoodEnv e143 := goodEnv mix1 ent1 (goods_cons ok191 rfl goods_nil)
noncomputable def s143 : Spec := mkSpecL (valsCons (valPtr (celApp celTurn (celInt .i64))) (valsOne (valInt .i64))) (resOne (valInt .i64)) C_collide_diver_line
set_option maxRecDepth 100000 in
theorem ok143 : SpecOK Try.prog 143 s143 :=
  mkSpecL_ok (V := e143) (L := nL) (rounds := 20) (depth := 6) g143 loops_none (fun x => by kernel_rfl)

/- millstream/commit.Onward -/
noncomputable def e144 : Env := env1 [(53, s53)]
theorem g144 : GoodEnv e144 := goodEnv mix1 ent1 (goods_cons ok53 rfl goods_nil)
noncomputable def s144 : Spec := mkSpec (valsOne (valSt celTurn)) (resOne (valSt celTurn)) C_commit_Onward
set_option maxRecDepth 100000 in
theorem ok144 : SpecOK Try.prog 144 s144 :=
  mkSpec_ok (V := e144) (L := nL) (rounds := 20) (depth := 6) g144 loops_none (fun x => by kernel_rfl)

/- millstream/tape.Below -/
noncomputable def e205 : Env := env1 [(214, s214)]
theorem g205 : GoodEnv e205 := goodEnv mix1 ent1 (goods_cons ok214 rfl goods_nil)
noncomputable def s205 : Spec := mkSpec (valsCons (valSt celTape) (valsOne (valInt .i64))) (resTup (valsCons (valInt .i64) (valsOne (valSt celTape)))) C_tape_Below
set_option maxRecDepth 100000 in
theorem ok205 : SpecOK Try.prog 205 s205 :=
  mkSpec_ok (V := e205) (L := nL) (rounds := 20) (depth := 6) g205 loops_none (fun x => by kernel_rfl)

/- millstream/wmem.Swap -/
noncomputable def e206 : Env := env1 [(166, s166), (171, s171)]
theorem g206 : GoodEnv e206 := goodEnv mix1 ent1 (goods_cons ok166 rfl (goods_cons ok171 rfl goods_nil))
noncomputable def s206 : Spec := mkSpec (valsCons (valSt celMemo) (valsCons (valInt .i64) (valsOne (valInt .i64)))) (resTup (valsCons (valSt celMemo) (valsCons (valInt .i64) (valsOne (valInt .i64))))) C_wmem_Swap
set_option maxRecDepth 100000 in
theorem ok206 : SpecOK Try.prog 206 s206 :=
  mkSpec_ok (V := e206) (L := nL) (rounds := 20) (depth := 6) g206 loops_none (fun x => by kernel_rfl)

/- millstream/arena.Slot -/
noncomputable def e207 : Env := env1 [(165, s165)]
theorem g207 : GoodEnv e207 := goodEnv mix1 ent1 (goods_cons ok165 rfl goods_nil)
noncomputable def s207 : Spec := mkSpec (valsCons (valSt celConfig) (valsCons (valInt .i64) (valsCons (valInt .i64) (valsOne (valInt .i64))))) (resOne (valInt .i64)) C_arena_Slot
set_option maxRecDepth 100000 in
theorem ok207 : SpecOK Try.prog 207 s207 :=
  mkSpec_ok (V := e207) (L := nL) (rounds := 20) (depth := 6) g207 loops_none (fun x => by kernel_rfl)

/- millstream/collide.Step -/
noncomputable def e72 : Env := env1 [(53, s53), (65, s65), (77, s77), (96, s96), (97, s97), (142, s142), (143, s143), (144, s144), (201, s201), (203, s203), (205, s205), (206, s206), (207, s207)]
theorem g72 : GoodEnv e72 := goodEnv mix1 ent1 (goods_cons ok53 rfl (goods_cons ok65 rfl (goods_cons ok77 rfl (goods_cons ok96 rfl (goods_cons ok97 rfl (goods_cons ok142 rfl (goods_cons ok143 rfl (goods_cons ok144 rfl (goods_cons ok201 rfl (goods_cons ok203 rfl (goods_cons ok205 rfl (goods_cons ok206 rfl (goods_cons ok207 rfl goods_nil)))))))))))))
noncomputable def s72 : Spec := mkSpec (valsOne (valSt celTurn)) (resTup (valsCons (valSt celTurn) (valsOne (valBool)))) C_collide_Step
set_option maxRecDepth 100000 in
theorem ok72 : SpecOK Try.prog 72 s72 :=
  mkSpec_ok (V := e72) (L := nL) (rounds := 20) (depth := 6) g72 loops_none (fun x => by kernel_rfl)

/- millstream/millstreamlaw15.shown -/
noncomputable def e71 : Env := env1 [(45, s45), (72, s72), (77, s77)]
theorem g71 : GoodEnv e71 := goodEnv mix1 ent1 (goods_cons ok45 rfl (goods_cons ok72 rfl (goods_cons ok77 rfl goods_nil)))
noncomputable def l71_12 : LSpec := loop2 [1, 2, 4, 5, 6] (valsCons (valBox celConfig) (valsCons (valBox celMemo) (valsCons (valBox celTurn) (valsCons (valOwn 3 .int) (valsOne (valInt .i64)))))) (⟨.exit 0, [1, 2, 4, 5], (valsCons (valBox celConfig) (valsCons (valBox celMemo) (valsCons (valBox celTurn) (valsOne (valOwn 3 .int)))))⟩ : Way) (⟨.ret, [0], (valsOne (valBool))⟩ : Way) (whileM T_law15_shown_12)
set_option maxRecDepth 100000 in
theorem lok71_12 : LoopOK e71 142 l71_12 (fnLoop e71.P 71 12) :=
  loop2_ok (L := assocL []) (rounds := 20) (depth := 6) (ts := [1, 2, 4, 5, 6]) (v := (valsCons (valBox celConfig) (valsCons (valBox celMemo) (valsCons (valBox celTurn) (valsCons (valOwn 3 .int) (valsOne (valInt .i64))))))) (a := ⟨.exit 0, [1, 2, 4, 5], (valsCons (valBox celConfig) (valsCons (valBox celMemo) (valsCons (valBox celTurn) (valsOne (valOwn 3 .int)))))⟩) (b := ⟨.ret, [0], (valsOne (valBool))⟩) (step := T_law15_shown_12) g71 rfl rfl loops_inNil (fun x => by kernel_rfl)
noncomputable def s71 : Spec := mkSpec valsNil (resOne (valBool)) C_law15_shown
set_option maxRecDepth 100000 in
theorem ok71 : SpecOK Try.prog 71 s71 :=
  mkSpec_ok (V := e71) (L := (assocL [(12, l71_12)])) (rounds := 20) (depth := 6) g71 (loops_fn (nt := 142) (by kernel_rfl) (ntB_ok (by kernel_rfl)) (loopsOK_cons lok71_12 loopsOK_nil)) (fun x => by kernel_rfl)

/- millstream/millstreamref06.Line -/
noncomputable def e76 : Env := env1 [(118, s118)]
theorem g76 : GoodEnv e76 := goodEnv mix1 ent1 (goods_cons ok118 rfl goods_nil)
noncomputable def s76 : Spec := mkSpec (valsCons (valSt celConfig) (valsOne (valInt .i64))) (resOne (valInt .i64)) C_ref06_Line
set_option maxRecDepth 100000 in
theorem ok76 : SpecOK Try.prog 76 s76 :=
  mkSpec_ok (V := e76) (L := nL) (rounds := 20) (depth := 6) g76 loops_none (fun x => by kernel_rfl)

/- millstream/millstreamref15.stored -/
noncomputable def e145 : Env := env1 [(76, s76), (131, s131), (174, s174)]
theorem g145 : GoodEnv e145 := goodEnv mix1 ent1 (goods_cons ok76 rfl (goods_cons ok131 rfl (goods_cons ok174 rfl goods_nil)))
noncomputable def s145 : Spec := mkSpec (valsCons (valSt celTurn) (valsOne (valInt .i64))) (resOne (valSt celTurn)) C_ref15_stored
set_option maxRecDepth 100000 in
theorem ok145 : SpecOK Try.prog 145 s145 :=
  mkSpec_ok (V := e145) (L := nL) (rounds := 20) (depth := 6) g145 loops_none (fun x => by kernel_rfl)

/- millstream/millstreamref06.Slot -/
noncomputable def e75 : Env := env1 [(118, s118), (119, s119)]
theorem g75 : GoodEnv e75 := goodEnv mix1 ent1 (goods_cons ok118 rfl (goods_cons ok119 rfl goods_nil))
noncomputable def s75 : Spec := mkSpec (valsCons (valSt celConfig) (valsCons (valInt .i64) (valsCons (valInt .i64) (valsOne (valInt .i64))))) (resOne (valInt .i64)) C_ref06_Slot
set_option maxRecDepth 100000 in
theorem ok75 : SpecOK Try.prog 75 s75 :=
  mkSpec_ok (V := e75) (L := nL) (rounds := 20) (depth := 6) g75 loops_none (fun x => by kernel_rfl)

/- millstream/millstreamref04.Next -/
noncomputable def e209 : Env := env1 []
theorem g209 : GoodEnv e209 := goodEnv mix1 ent1 goods_nil
noncomputable def s209 : Spec := mkSpec (valsOne (valSt celTape)) (resTup (valsCons (valInt .i64) (valsOne (valSt celTape)))) C_ref04_Next
set_option maxRecDepth 100000 in
theorem ok209 : SpecOK Try.prog 209 s209 :=
  mkSpec_ok (V := e209) (L := nL) (rounds := 20) (depth := 6) g209 loops_none (fun x => by kernel_rfl)

/- millstream/millstreamref04.Below -/
noncomputable def e192 : Env := env1 [(209, s209)]
theorem g192 : GoodEnv e192 := goodEnv mix1 ent1 (goods_cons ok209 rfl goods_nil)
noncomputable def s192 : Spec := mkSpec (valsCons (valSt celTape) (valsOne (valInt .i64))) (resTup (valsCons (valInt .i64) (valsOne (valSt celTape)))) C_ref04_Below
set_option maxRecDepth 100000 in
theorem ok192 : SpecOK Try.prog 192 s192 :=
  mkSpec_ok (V := e192) (L := nL) (rounds := 20) (depth := 6) g192 loops_none (fun x => by kernel_rfl)

/- millstream/millstreamref03.Swap -/
noncomputable def e193 : Env := env1 [(100, s100), (131, s131)]
theorem g193 : GoodEnv e193 := goodEnv mix1 ent1 (goods_cons ok100 rfl (goods_cons ok131 rfl goods_nil))
noncomputable def s193 : Spec := mkSpec (valsCons (valSt celMemo) (valsCons (valInt .i64) (valsOne (valInt .i64)))) (resTup (valsCons (valSt celMemo) (valsCons (valInt .i64) (valsOne (valInt .i64))))) C_ref03_Swap
set_option maxRecDepth 100000 in
theorem ok193 : SpecOK Try.prog 193 s193 :=
  mkSpec_ok (V := e193) (L := nL) (rounds := 20) (depth := 6) g193 loops_none (fun x => by kernel_rfl)

/- millstream/millstreamref15.swap -/
noncomputable def e146 : Env := env1 [(75, s75), (192, s192), (193, s193)]
theorem g146 : GoodEnv e146 := goodEnv mix1 ent1 (goods_cons ok75 rfl (goods_cons ok192 rfl (goods_cons ok193 rfl goods_nil)))
noncomputable def s146 : Spec := mkSpec (valsOne (valSt celTurn)) (resOne (valSt celTurn)) C_ref15_swap
set_option maxRecDepth 100000 in
theorem ok146 : SpecOK Try.prog 146 s146 :=
  mkSpec_ok (V := e146) (L := nL) (rounds := 20) (depth := 6) g146 loops_none (fun x => by kernel_rfl)

/- millstream/millstreamref15.compared -/
noncomputable def e147 : Env := env1 [(76, s76), (104, s104), (174, s174)]
theorem g147 : GoodEnv e147 := goodEnv mix1 ent1 (goods_cons ok76 rfl (goods_cons ok104 rfl (goods_cons ok174 rfl goods_nil)))
noncomputable def s147 : Spec := mkSpec (valsCons (valSt celTurn) (valsCons (valInt .i64) (valsCons (valInt .i64) (valsOne (valInt .i64))))) (resOne (valSt celTurn)) C_ref15_compared
set_option maxRecDepth 100000 in
theorem ok147 : SpecOK Try.prog 147 s147 :=
  mkSpec_ok (V := e147) (L := nL) (rounds := 20) (depth := 6) g147 loops_none (fun x => by kernel_rfl)

/- millstream/millstreamref15.spin -/
noncomputable def e148 : Env := env1 [(76, s76), (100, s100), (102, s102), (174, s174)]
theorem g148 : GoodEnv e148 := goodEnv mix1 ent1 (goods_cons ok76 rfl (goods_cons ok100 rfl (goods_cons ok102 rfl (goods_cons ok174 rfl goods_nil))))
noncomputable def s148 : Spec := mkSpec (valsOne (valSt celTurn)) (resOne (valSt celTurn)) C_ref15_spin
set_option maxRecDepth 100000 in
theorem ok148 : SpecOK Try.prog 148 s148 :=
  mkSpec_ok (V := e148) (L := nL) (rounds := 20) (depth := 6) g148 loops_none (fun x => by kernel_rfl)

/- millstream/millstreamref15.half -/
noncomputable def e149 : Env := env1 []
theorem g149 : GoodEnv e149 := goodEnv mix1 ent1 goods_nil
noncomputable def s149 : Spec := mkSpec (valsOne (valInt .i64)) (resOne (valInt .i64)) C_ref15_half
set_option maxRecDepth 100000 in
theorem ok149 : SpecOK Try.prog 149 s149 :=
  mkSpec_ok (V := e149) (L := nL) (rounds := 20) (depth := 6) g149 loops_none (fun x => by kernel_rfl)

/- millstream/millstreamref12.Onward -/
noncomputable def e150 : Env := env1 [(102, s102)]
theorem g150 : GoodEnv e150 := goodEnv mix1 ent1 (goods_cons ok102 rfl goods_nil)
noncomputable def s150 : Spec := mkSpec (valsOne (valSt celTurn)) (resOne (valSt celTurn)) C_ref12_Onward
set_option maxRecDepth 100000 in
theorem ok150 : SpecOK Try.prog 150 s150 :=
  mkSpec_ok (V := e150) (L := nL) (rounds := 20) (depth := 6) g150 loops_none (fun x => by kernel_rfl)

/- millstream/millstreamref15.Step -/
noncomputable def e73 : Env := env1 [(66, s66), (130, s130), (132, s132), (145, s145), (146, s146), (147, s147), (148, s148), (149, s149), (150, s150)]
theorem g73 : GoodEnv e73 := goodEnv mix1 ent1 (goods_cons ok66 rfl (goods_cons ok130 rfl (goods_cons ok132 rfl (goods_cons ok145 rfl (goods_cons ok146 rfl (goods_cons ok147 rfl (goods_cons ok148 rfl (goods_cons ok149 rfl (goods_cons ok150 rfl goods_nil)))))))))
noncomputable def s73 : Spec := mkSpec (valsOne (valSt celTurn)) (resTup (valsCons (valSt celTurn) (valsOne (valBool)))) C_ref15_Step
set_option maxRecDepth 100000 in
theorem ok73 : SpecOK Try.prog 73 s73 :=
  mkSpec_ok (V := e73) (L := nL) (rounds := 20) (depth := 6) g73 loops_none (fun x => by kernel_rfl)

/- millstream/millstreamlaw15.entries -/
noncomputable def e78 : Env := env1 []
theorem g78 : GoodEnv e78 := goodEnv mix1 ent1 goods_nil
noncomputable def l78_3 : LSpec := loop1 [0, 3, 4] (valsCons (valLst .entry) (valsCons (valOwn 164 .entry) (valsOne (valInt .i64)))) (⟨.exit 0, [3], (valsOne (valOwn 164 .entry))⟩ : Way) (whileM T_law15_entries_3)
set_option maxRecDepth 100000 in
theorem lok78_3 : LoopOK e78 27 l78_3 (fnLoop e78.P 78 3) :=
  loop1_ok (L := assocL []) (rounds := 20) (depth := 6) (ts := [0, 3, 4]) (v := (valsCons (valLst .entry) (valsCons (valOwn 164 .entry) (valsOne (valInt .i64))))) (a := ⟨.exit 0, [3], (valsOne (valOwn 164 .entry))⟩) (step := T_law15_entries_3) g78 rfl loops_inNil (fun x => by kernel_rfl)
noncomputable def s78 : Spec := mkSpec (valsOne (valLst .entry)) (resOne (valOwn 164 .entry)) C_law15_entries
set_option maxRecDepth 100000 in
theorem ok78 : SpecOK Try.prog 78 s78 :=
  mkSpec_ok (V := e78) (L := (assocL [(3, l78_3)])) (rounds := 20) (depth := 6) g78 (loops_fn (nt := 27) (by kernel_rfl) (ntB_ok (by kernel_rfl)) (loopsOK_cons lok78_3 loopsOK_nil)) (fun x => by kernel_rfl)

/- millstream/millstreamlaw15.memory -/
noncomputable def e151 : Env := env1 [(78, s78)]
theorem g151 : GoodEnv e151 := goodEnv mix1 ent1 (goods_cons ok78 rfl goods_nil)
noncomputable def l151_3 : LSpec := loop1 [1, 2, 3, 4] (valsCons (valBox celMemo) (valsCons (valBox celMemo) (valsCons (valBox (celAs (celApp (celLst .int) (celOwn 80 (.lst .entry))) Memo (fun y => ⟨y.1, y.2⟩) (fun x => (x.words, x.boxes)) (fun _ => rfl))) (valsOne (valInt .i64))))) (⟨.exit 0, [2, 3], (valsCons (valBox celMemo) (valsOne (valBox (celAs (celApp (celLst .int) (celOwn 80 (.lst .entry))) Memo (fun y => ⟨y.1, y.2⟩) (fun x => (x.words, x.boxes)) (fun _ => rfl)))))⟩ : Way) (whileM T_law15_memory_3)
set_option maxRecDepth 100000 in
theorem lok151_3 : LoopOK e151 27 l151_3 (fnLoop e151.P 151 3) :=
  loop1_ok (L := assocL []) (rounds := 20) (depth := 6) (ts := [1, 2, 3, 4]) (v := (valsCons (valBox celMemo) (valsCons (valBox celMemo) (valsCons (valBox (celAs (celApp (celLst .int) (celOwn 80 (.lst .entry))) Memo (fun y => ⟨y.1, y.2⟩) (fun x => (x.words, x.boxes)) (fun _ => rfl))) (valsOne (valInt .i64)))))) (a := ⟨.exit 0, [2, 3], (valsCons (valBox celMemo) (valsOne (valBox (celAs (celApp (celLst .int) (celOwn 80 (.lst .entry))) Memo (fun y => ⟨y.1, y.2⟩) (fun x => (x.words, x.boxes)) (fun _ => rfl)))))⟩) (step := T_law15_memory_3) g151 rfl loops_inNil (fun x => by kernel_rfl)
noncomputable def s151 : Spec := mkSpec (valsOne (valSt celMemo)) (resOne (valSt celMemo)) C_law15_memory
set_option maxRecDepth 100000 in
theorem ok151 : SpecOK Try.prog 151 s151 :=
  mkSpec_ok (V := e151) (L := (assocL [(3, l151_3)])) (rounds := 20) (depth := 6) g151 (loops_fn (nt := 27) (by kernel_rfl) (ntB_ok (by kernel_rfl)) (loopsOK_cons lok151_3 loopsOK_nil)) (fun x => by kernel_rfl)

/- millstream/millstreamlaw15.fiber -/
noncomputable def e152 : Env := env1 [(78, s78)]
theorem g152 : GoodEnv e152 := goodEnv mix1 ent1 (goods_cons ok78 rfl goods_nil)
noncomputable def l152_3 : LSpec := loop1 [1, 2, 3, 4] (valsCons (valBox celThread) (valsCons (valBox celThread) (valsCons (valBox (celAs (celApp (celInt .i64) (celApp (celInt .i64) (celApp celOp (celApp (celLst .entry) (celApp (celOwn 179 .kid) (celApp (celLst .int) (celApp (celInt .i64) (celApp (celInt .i64) (celApp (celInt .i64) (celApp (celInt .i64) (celApp (celInt .i64) (celApp (celInt .i64) (celApp (celInt .i64) (celApp (celInt .i64) (celApp (celInt .i64) (celInt .i64)))))))))))))))) Thread (fun y => ⟨y.1, y.2.1, y.2.2.1, y.2.2.2.1, y.2.2.2.2.1, y.2.2.2.2.2.1, y.2.2.2.2.2.2.1, y.2.2.2.2.2.2.2.1, y.2.2.2.2.2.2.2.2.1, y.2.2.2.2.2.2.2.2.2.1, y.2.2.2.2.2.2.2.2.2.2.1, y.2.2.2.2.2.2.2.2.2.2.2.1, y.2.2.2.2.2.2.2.2.2.2.2.2.1, y.2.2.2.2.2.2.2.2.2.2.2.2.2.1, y.2.2.2.2.2.2.2.2.2.2.2.2.2.2.1, y.2.2.2.2.2.2.2.2.2.2.2.2.2.2.2⟩) (fun x => (x.phase, (x.item, (x.op, (x.batch, (x.kids, (x.held, (x.stop, (x.node, (x.at_, (x.layer, (x.left, (x.width, (x.who, (x.x, (x.y, x.until_)))))))))))))))) (fun _ => rfl))) (valsOne (valInt .i64))))) (⟨.exit 0, [2, 3], (valsCons (valBox celThread) (valsOne (valBox (celAs (celApp (celInt .i64) (celApp (celInt .i64) (celApp celOp (celApp (celLst .entry) (celApp (celOwn 179 .kid) (celApp (celLst .int) (celApp (celInt .i64) (celApp (celInt .i64) (celApp (celInt .i64) (celApp (celInt .i64) (celApp (celInt .i64) (celApp (celInt .i64) (celApp (celInt .i64) (celApp (celInt .i64) (celApp (celInt .i64) (celInt .i64)))))))))))))))) Thread (fun y => ⟨y.1, y.2.1, y.2.2.1, y.2.2.2.1, y.2.2.2.2.1, y.2.2.2.2.2.1, y.2.2.2.2.2.2.1, y.2.2.2.2.2.2.2.1, y.2.2.2.2.2.2.2.2.1, y.2.2.2.2.2.2.2.2.2.1, y.2.2.2.2.2.2.2.2.2.2.1, y.2.2.2.2.2.2.2.2.2.2.2.1, y.2.2.2.2.2.2.2.2.2.2.2.2.1, y.2.2.2.2.2.2.2.2.2.2.2.2.2.1, y.2.2.2.2.2.2.2.2.2.2.2.2.2.2.1, y.2.2.2.2.2.2.2.2.2.2.2.2.2.2.2⟩) (fun x => (x.phase, (x.item, (x.op, (x.batch, (x.kids, (x.held, (x.stop, (x.node, (x.at_, (x.layer, (x.left, (x.width, (x.who, (x.x, (x.y, x.until_)))))))))))))))) (fun _ => rfl)))))⟩ : Way) (whileM T_law15_fiber_3)
set_option maxRecDepth 100000 in
theorem lok152_3 : LoopOK e152 55 l152_3 (fnLoop e152.P 152 3) :=
  loop1_ok (L := assocL []) (rounds := 20) (depth := 6) (ts := [1, 2, 3, 4]) (v := (valsCons (valBox celThread) (valsCons (valBox celThread) (valsCons (valBox (celAs (celApp (celInt .i64) (celApp (celInt .i64) (celApp celOp (celApp (celLst .entry) (celApp (celOwn 179 .kid) (celApp (celLst .int) (celApp (celInt .i64) (celApp (celInt .i64) (celApp (celInt .i64) (celApp (celInt .i64) (celApp (celInt .i64) (celApp (celInt .i64) (celApp (celInt .i64) (celApp (celInt .i64) (celApp (celInt .i64) (celInt .i64)))))))))))))))) Thread (fun y => ⟨y.1, y.2.1, y.2.2.1, y.2.2.2.1, y.2.2.2.2.1, y.2.2.2.2.2.1, y.2.2.2.2.2.2.1, y.2.2.2.2.2.2.2.1, y.2.2.2.2.2.2.2.2.1, y.2.2.2.2.2.2.2.2.2.1, y.2.2.2.2.2.2.2.2.2.2.1, y.2.2.2.2.2.2.2.2.2.2.2.1, y.2.2.2.2.2.2.2.2.2.2.2.2.1, y.2.2.2.2.2.2.2.2.2.2.2.2.2.1, y.2.2.2.2.2.2.2.2.2.2.2.2.2.2.1, y.2.2.2.2.2.2.2.2.2.2.2.2.2.2.2⟩) (fun x => (x.phase, (x.item, (x.op, (x.batch, (x.kids, (x.held, (x.stop, (x.node, (x.at_, (x.layer, (x.left, (x.width, (x.who, (x.x, (x.y, x.until_)))))))))))))))) (fun _ => rfl))) (valsOne (valInt .i64)))))) (a := ⟨.exit 0, [2, 3], (valsCons (valBox celThread) (valsOne (valBox (celAs (celApp (celInt .i64) (celApp (celInt .i64) (celApp celOp (celApp (celLst .entry) (celApp (celOwn 179 .kid) (celApp (celLst .int) (celApp (celInt .i64) (celApp (celInt .i64) (celApp (celInt .i64) (celApp (celInt .i64) (celApp (celInt .i64) (celApp (celInt .i64) (celApp (celInt .i64) (celApp (celInt .i64) (celApp (celInt .i64) (celInt .i64)))))))))))))))) Thread (fun y => ⟨y.1, y.2.1, y.2.2.1, y.2.2.2.1, y.2.2.2.2.1, y.2.2.2.2.2.1, y.2.2.2.2.2.2.1, y.2.2.2.2.2.2.2.1, y.2.2.2.2.2.2.2.2.1, y.2.2.2.2.2.2.2.2.2.1, y.2.2.2.2.2.2.2.2.2.2.1, y.2.2.2.2.2.2.2.2.2.2.2.1, y.2.2.2.2.2.2.2.2.2.2.2.2.1, y.2.2.2.2.2.2.2.2.2.2.2.2.2.1, y.2.2.2.2.2.2.2.2.2.2.2.2.2.2.1, y.2.2.2.2.2.2.2.2.2.2.2.2.2.2.2⟩) (fun x => (x.phase, (x.item, (x.op, (x.batch, (x.kids, (x.held, (x.stop, (x.node, (x.at_, (x.layer, (x.left, (x.width, (x.who, (x.x, (x.y, x.until_)))))))))))))))) (fun _ => rfl)))))⟩) (step := T_law15_fiber_3) g152 rfl loops_inNil (fun x => by kernel_rfl)
noncomputable def s152 : Spec := mkSpec (valsOne (valSt celThread)) (resOne (valSt celThread)) C_law15_fiber
set_option maxRecDepth 100000 in
theorem ok152 : SpecOK Try.prog 152 s152 :=
  mkSpec_ok (V := e152) (L := (assocL [(3, l152_3)])) (rounds := 20) (depth := 6) g152 (loops_fn (nt := 55) (by kernel_rfl) (ntB_ok (by kernel_rfl)) (loopsOK_cons lok152_3 loopsOK_nil)) (fun x => by kernel_rfl)

/- millstream/millstreamlaw15.marks -/
noncomputable def e153 : Env := env1 []
theorem g153 : GoodEnv e153 := goodEnv mix1 ent1 goods_nil
noncomputable def l153_3 : LSpec := loop1 [0, 3, 4] (valsCons (valLst .mark) (valsCons (valOwn 129 .mark) (valsOne (valInt .i64)))) (⟨.exit 0, [3], (valsOne (valOwn 129 .mark))⟩ : Way) (whileM T_law15_marks_3)
set_option maxRecDepth 100000 in
theorem lok153_3 : LoopOK e153 42 l153_3 (fnLoop e153.P 153 3) :=
  loop1_ok (L := assocL []) (rounds := 20) (depth := 6) (ts := [0, 3, 4]) (v := (valsCons (valLst .mark) (valsCons (valOwn 129 .mark) (valsOne (valInt .i64))))) (a := ⟨.exit 0, [3], (valsOne (valOwn 129 .mark))⟩) (step := T_law15_marks_3) g153 rfl loops_inNil (fun x => by kernel_rfl)
noncomputable def s153 : Spec := mkSpec (valsOne (valLst .mark)) (resOne (valLst .mark)) C_law15_marks
set_option maxRecDepth 100000 in
theorem ok153 : SpecOK Try.prog 153 s153 :=
  mkSpec_ok (V := e153) (L := (assocL [(3, l153_3)])) (rounds := 20) (depth := 6) g153 (loops_fn (nt := 42) (by kernel_rfl) (ntB_ok (by kernel_rfl)) (loopsOK_cons lok153_3 loopsOK_nil)) (fun x => by kernel_rfl)

/- millstream/millstreamlaw15.its -/
noncomputable def e74 : Env := env1 [(151, s151), (152, s152), (153, s153)]
theorem g74 : GoodEnv e74 := goodEnv mix1 ent1 (goods_cons ok151 rfl (goods_cons ok152 rfl (goods_cons ok153 rfl goods_nil)))
noncomputable def s74 : Spec := mkSpec (valsOne (valSt celTurn)) (resOne (valSt celTurn)) C_law15_its
set_option maxRecDepth 100000 in
theorem ok74 : SpecOK Try.prog 74 s74 :=
  mkSpec_ok (V := e74) (L := nL) (rounds := 20) (depth := 6) g74 loops_none (fun x => by kernel_rfl)

/- millstream/millstreamlaw15.CollideSteps -/
noncomputable def e18 : Env := env1 [(41, s41), (69, s69), (70, s70), (71, s71), (72, s72), (73, s73), (74, s74)]
theorem g18 : GoodEnv e18 := goodEnv mix1 ent1 (goods_cons ok41 rfl (goods_cons ok69 rfl (goods_cons ok70 rfl (goods_cons ok71 rfl (goods_cons ok72 rfl (goods_cons ok73 rfl (goods_cons ok74 rfl goods_nil)))))))
noncomputable def s18 : Spec := mkSpec (valsOne (valSt celTurn)) (resOne (valBool)) C_law15_CollideSteps
set_option maxRecDepth 100000 in
theorem ok18 : SpecOK Try.prog 18 s18 :=
  mkSpec_ok (V := e18) (L := nL) (rounds := 20) (depth := 6) g18 loops_none (fun x => by kernel_rfl)

/- millstream/millstreamlaw15.CollideAlone -/
noncomputable def e19 : Env := env1 [(54, s54), (69, s69), (70, s70), (71, s71), (72, s72), (75, s75), (76, s76), (77, s77), (78, s78)]
theorem g19 : GoodEnv e19 := goodEnv mix1 ent1 (goods_cons ok54 rfl (goods_cons ok69 rfl (goods_cons ok70 rfl (goods_cons ok71 rfl (goods_cons ok72 rfl (goods_cons ok75 rfl (goods_cons ok76 rfl (goods_cons ok77 rfl (goods_cons ok78 rfl goods_nil)))))))))
noncomputable def l19_13 : LSpec := loop2 [1, 3, 4, 6, 7] (valsCons (valBox celTurn) (valsCons (valBox celConfig) (valsCons (valLst .int) (valsCons (valBox celTurn) (valsOne (valInt .i64)))))) (⟨.exit 2, [1, 3, 4, 6, 7], (valsCons (valBox celTurn) (valsCons (valBox celConfig) (valsCons (valLst .int) (valsCons (valBox celTurn) (valsOne (valInt .i64))))))⟩ : Way) (⟨.ret, [2], (valsOne (valBool))⟩ : Way) (whileM T_law15_CollideAlone_13)
set_option maxRecDepth 100000 in
theorem lok19_13 : LoopOK e19 246 l19_13 (fnLoop e19.P 19 13) :=
  loop2_ok (L := assocL []) (rounds := 20) (depth := 6) (ts := [1, 3, 4, 6, 7]) (v := (valsCons (valBox celTurn) (valsCons (valBox celConfig) (valsCons (valLst .int) (valsCons (valBox celTurn) (valsOne (valInt .i64))))))) (a := ⟨.exit 2, [1, 3, 4, 6, 7], (valsCons (valBox celTurn) (valsCons (valBox celConfig) (valsCons (valLst .int) (valsCons (valBox celTurn) (valsOne (valInt .i64))))))⟩) (b := ⟨.ret, [2], (valsOne (valBool))⟩) (step := T_law15_CollideAlone_13) g19 rfl rfl loops_inNil (fun x => by kernel_rfl)
noncomputable def l19_6 : LSpec := loop1 [1, 3, 4, 5] (valsCons (valBox celTurn) (valsCons (valBox celConfig) (valsCons (valOwn 3 .int) (valsOne (valInt .i64))))) (⟨.exit 0, [1, 3, 4], (valsCons (valBox celTurn) (valsCons (valBox celConfig) (valsOne (valOwn 3 .int))))⟩ : Way) (whileM T_law15_CollideAlone_6)
set_option maxRecDepth 100000 in
theorem lok19_6 : LoopOK e19 246 l19_6 (fnLoop e19.P 19 6) :=
  loop1_ok (L := assocL []) (rounds := 20) (depth := 6) (ts := [1, 3, 4, 5]) (v := (valsCons (valBox celTurn) (valsCons (valBox celConfig) (valsCons (valOwn 3 .int) (valsOne (valInt .i64)))))) (a := ⟨.exit 0, [1, 3, 4], (valsCons (valBox celTurn) (valsCons (valBox celConfig) (valsOne (valOwn 3 .int))))⟩) (step := T_law15_CollideAlone_6) g19 rfl loops_inNil (fun x => by kernel_rfl)
noncomputable def s19 : Spec := mkSpec (valsOne (valSt celTurn)) (resOne (valBool)) C_law15_CollideAlone
set_option maxRecDepth 100000 in
theorem ok19 : SpecOK Try.prog 19 s19 :=
  mkSpec_ok (V := e19) (L := (assocL [(13, l19_13), (6, l19_6)])) (rounds := 20) (depth := 6) g19 (loops_fn (nt := 246) (by kernel_rfl) (ntB_ok (by kernel_rfl)) (loopsOK_cons lok19_13 (loopsOK_cons lok19_6 loopsOK_nil))) (fun x => by kernel_rfl)

/- millstream/millstreamlaw15.CollideMeets -/
noncomputable def e20 : Env := env1 [(54, s54), (69, s69), (70, s70), (71, s71), (72, s72), (75, s75), (76, s76), (77, s77), (78, s78)]
theorem g20 : GoodEnv e20 := goodEnv mix1 ent1 (goods_cons ok54 rfl (goods_cons ok69 rfl (goods_cons ok70 rfl (goods_cons ok71 rfl (goods_cons ok72 rfl (goods_cons ok75 rfl (goods_cons ok76 rfl (goods_cons ok77 rfl (goods_cons ok78 rfl goods_nil)))))))))
noncomputable def l20_23 : LSpec := loop2 [2, 3, 4, 10, 11, 12, 14, 15, 16, 17] (valsCons (valBool) (valsCons (valInt .i64) (valsCons (valBox celTurn) (valsCons (valInt .i64) (valsCons (valInt .i64) (valsCons (valLst .int) (valsCons (valInt .i64) (valsCons (valInt .i64) (valsCons (valBox celTurn) (valsOne (valInt .i64))))))))))) (⟨.exit 2, [2, 3, 4, 10, 11, 14, 15, 16], (valsCons (valBool) (valsCons (valInt .i64) (valsCons (valBox celTurn) (valsCons (valInt .i64) (valsCons (valInt .i64) (valsCons (valInt .i64) (valsCons (valInt .i64) (valsOne (valBox celTurn)))))))))⟩ : Way) (⟨.ret, [8], (valsOne (valBool))⟩ : Way) (whileM T_law15_CollideMeets_23)
set_option maxRecDepth 100000 in
theorem lok20_23 : LoopOK e20 287 l20_23 (fnLoop e20.P 20 23) :=
  loop2_ok (L := assocL []) (rounds := 20) (depth := 6) (ts := [2, 3, 4, 10, 11, 12, 14, 15, 16, 17]) (v := (valsCons (valBool) (valsCons (valInt .i64) (valsCons (valBox celTurn) (valsCons (valInt .i64) (valsCons (valInt .i64) (valsCons (valLst .int) (valsCons (valInt .i64) (valsCons (valInt .i64) (valsCons (valBox celTurn) (valsOne (valInt .i64)))))))))))) (a := ⟨.exit 2, [2, 3, 4, 10, 11, 14, 15, 16], (valsCons (valBool) (valsCons (valInt .i64) (valsCons (valBox celTurn) (valsCons (valInt .i64) (valsCons (valInt .i64) (valsCons (valInt .i64) (valsCons (valInt .i64) (valsOne (valBox celTurn)))))))))⟩) (b := ⟨.ret, [8], (valsOne (valBool))⟩) (step := T_law15_CollideMeets_23) g20 rfl rfl loops_inNil (fun x => by kernel_rfl)
noncomputable def l20_10 : LSpec := loop1 [2, 3, 4, 9, 10, 11, 12, 13] (valsCons (valBool) (valsCons (valInt .i64) (valsCons (valBox celTurn) (valsCons (valBox celConfig) (valsCons (valInt .i64) (valsCons (valInt .i64) (valsCons (valOwn 3 .int) (valsOne (valInt .i64))))))))) (⟨.exit 0, [2, 3, 4, 9, 10, 11, 12], (valsCons (valBool) (valsCons (valInt .i64) (valsCons (valBox celTurn) (valsCons (valBox celConfig) (valsCons (valInt .i64) (valsCons (valInt .i64) (valsOne (valOwn 3 .int))))))))⟩ : Way) (whileM T_law15_CollideMeets_10)
set_option maxRecDepth 100000 in
theorem lok20_10 : LoopOK e20 287 l20_10 (fnLoop e20.P 20 10) :=
  loop1_ok (L := assocL []) (rounds := 20) (depth := 6) (ts := [2, 3, 4, 9, 10, 11, 12, 13]) (v := (valsCons (valBool) (valsCons (valInt .i64) (valsCons (valBox celTurn) (valsCons (valBox celConfig) (valsCons (valInt .i64) (valsCons (valInt .i64) (valsCons (valOwn 3 .int) (valsOne (valInt .i64)))))))))) (a := ⟨.exit 0, [2, 3, 4, 9, 10, 11, 12], (valsCons (valBool) (valsCons (valInt .i64) (valsCons (valBox celTurn) (valsCons (valBox celConfig) (valsCons (valInt .i64) (valsCons (valInt .i64) (valsOne (valOwn 3 .int))))))))⟩) (step := T_law15_CollideMeets_10) g20 rfl loops_inNil (fun x => by kernel_rfl)
noncomputable def s20 : Spec := mkSpec (valsCons (valSt celTurn) (valsCons (valInt .u8) (valsCons (valBool) (valsOne (valInt .i64))))) (resOne (valBool)) C_law15_CollideMeets
set_option maxRecDepth 100000 in
theorem ok20 : SpecOK Try.prog 20 s20 :=
  mkSpec_ok (V := e20) (L := (assocL [(23, l20_23), (10, l20_10)])) (rounds := 20) (depth := 6) g20 (loops_fn (nt := 287) (by kernel_rfl) (ntB_ok (by kernel_rfl)) (loopsOK_cons lok20_23 (loopsOK_cons lok20_10 loopsOK_nil))) (fun x => by kernel_rfl)

/- millstream/millstreamlaw15.CollideCaught -/
noncomputable def e21 : Env := env1 [(41, s41), (69, s69), (70, s70), (71, s71), (72, s72), (74, s74), (76, s76), (77, s77)]
theorem g21 : GoodEnv e21 := goodEnv mix1 ent1 (goods_cons ok41 rfl (goods_cons ok69 rfl (goods_cons ok70 rfl (goods_cons ok71 rfl (goods_cons ok72 rfl (goods_cons ok74 rfl (goods_cons ok76 rfl (goods_cons ok77 rfl goods_nil))))))))
noncomputable def s21 : Spec := mkSpec (valsCons (valSt celTurn) (valsCons (valInt .i64) (valsOne (valInt .u8)))) (resOne (valBool)) C_law15_CollideCaught
set_option maxRecDepth 100000 in
theorem ok21 : SpecOK Try.prog 21 s21 :=
  mkSpec_ok (V := e21) (L := nL) (rounds := 20) (depth := 6) g21 loops_none (fun x => by kernel_rfl)

/- millstream/millstreamlaw15.CollideSelf -/
noncomputable def e22 : Env := env1 [(69, s69), (70, s70), (71, s71), (72, s72), (75, s75)]
theorem g22 : GoodEnv e22 := goodEnv mix1 ent1 (goods_cons ok69 rfl (goods_cons ok70 rfl (goods_cons ok71 rfl (goods_cons ok72 rfl (goods_cons ok75 rfl goods_nil)))))
noncomputable def l22_8 : LSpec := loop1 [1, 2, 5, 6, 7] (valsCons (valInt .i64) (valsCons (valBox celTurn) (valsCons (valBox celConfig) (valsCons (valOwn 3 .int) (valsOne (valInt .i64)))))) (⟨.exit 0, [2, 6], (valsCons (valBox celTurn) (valsOne (valOwn 3 .int)))⟩ : Way) (whileM T_law15_CollideSelf_8)
set_option maxRecDepth 100000 in
theorem lok22_8 : LoopOK e22 130 l22_8 (fnLoop e22.P 22 8) :=
  loop1_ok (L := assocL []) (rounds := 20) (depth := 6) (ts := [1, 2, 5, 6, 7]) (v := (valsCons (valInt .i64) (valsCons (valBox celTurn) (valsCons (valBox celConfig) (valsCons (valOwn 3 .int) (valsOne (valInt .i64))))))) (a := ⟨.exit 0, [2, 6], (valsCons (valBox celTurn) (valsOne (valOwn 3 .int)))⟩) (step := T_law15_CollideSelf_8) g22 rfl loops_inNil (fun x => by kernel_rfl)
noncomputable def s22 : Spec := mkSpec (valsCons (valSt celTurn) (valsOne (valInt .i64))) (resOne (valBool)) C_law15_CollideSelf
set_option maxRecDepth 100000 in
theorem ok22 : SpecOK Try.prog 22 s22 :=
  mkSpec_ok (V := e22) (L := (assocL [(8, l22_8)])) (rounds := 20) (depth := 6) g22 (loops_fn (nt := 130) (by kernel_rfl) (ntB_ok (by kernel_rfl)) (loopsOK_cons lok22_8 loopsOK_nil)) (fun x => by kernel_rfl)

/- millstream/millstreamlaw15.CollideSpins -/
noncomputable def e23 : Env := env1 [(53, s53), (69, s69), (70, s70), (71, s71), (72, s72), (76, s76), (77, s77)]
theorem g23 : GoodEnv e23 := goodEnv mix1 ent1 (goods_cons ok53 rfl (goods_cons ok69 rfl (goods_cons ok70 rfl (goods_cons ok71 rfl (goods_cons ok72 rfl (goods_cons ok76 rfl (goods_cons ok77 rfl goods_nil)))))))
noncomputable def l23_11 : LSpec := loop2 [2, 6, 7, 8] (valsCons (valBox celTurn) (valsCons (valLst .int) (valsCons (valBox celTurn) (valsOne (valInt .i64))))) (⟨.exit 0, [2, 6, 7, 8], (valsCons (valBox celTurn) (valsCons (valLst .int) (valsCons (valBox celTurn) (valsOne (valInt .i64)))))⟩ : Way) (⟨.ret, [4], (valsOne (valBool))⟩ : Way) (whileM T_law15_CollideSpins_11)
set_option maxRecDepth 100000 in
theorem lok23_11 : LoopOK e23 109 l23_11 (fnLoop e23.P 23 11) :=
  loop2_ok (L := assocL []) (rounds := 20) (depth := 6) (ts := [2, 6, 7, 8]) (v := (valsCons (valBox celTurn) (valsCons (valLst .int) (valsCons (valBox celTurn) (valsOne (valInt .i64)))))) (a := ⟨.exit 0, [2, 6, 7, 8], (valsCons (valBox celTurn) (valsCons (valLst .int) (valsCons (valBox celTurn) (valsOne (valInt .i64)))))⟩) (b := ⟨.ret, [4], (valsOne (valBool))⟩) (step := T_law15_CollideSpins_11) g23 rfl rfl loops_inNil (fun x => by kernel_rfl)
noncomputable def s23 : Spec := mkSpec (valsCons (valSt celTurn) (valsOne (valInt .u8))) (resOne (valBool)) C_law15_CollideSpins
set_option maxRecDepth 100000 in
theorem ok23 : SpecOK Try.prog 23 s23 :=
  mkSpec_ok (V := e23) (L := (assocL [(11, l23_11)])) (rounds := 20) (depth := 6) g23 (loops_fn (nt := 109) (by kernel_rfl) (ntB_ok (by kernel_rfl)) (loopsOK_cons lok23_11 loopsOK_nil)) (fun x => by kernel_rfl)

/- millstream/millstreamlaw15.CollideOther -/
noncomputable def e24 : Env := env1 [(54, s54), (69, s69), (70, s70), (71, s71), (72, s72), (75, s75), (76, s76), (77, s77), (78, s78)]
theorem g24 : GoodEnv e24 := goodEnv mix1 ent1 (goods_cons ok54 rfl (goods_cons ok69 rfl (goods_cons ok70 rfl (goods_cons ok71 rfl (goods_cons ok72 rfl (goods_cons ok75 rfl (goods_cons ok76 rfl (goods_cons ok77 rfl (goods_cons ok78 rfl goods_nil)))))))))
noncomputable def l24_20 : LSpec := loop1 [1, 3, 4, 7, 8, 9, 10] (valsCons (valBox celTurn) (valsCons (valBox celConfig) (valsCons (valBox celTurn) (valsCons (valInt .i64) (valsCons (valInt .i64) (valsCons (valBool) (valsOne (valInt .i64)))))))) (⟨.exit 4, [1, 3, 4, 7, 8, 9], (valsCons (valBox celTurn) (valsCons (valBox celConfig) (valsCons (valBox celTurn) (valsCons (valInt .i64) (valsCons (valInt .i64) (valsOne (valBool)))))))⟩ : Way) (whileM T_law15_CollideOther_20)
set_option maxRecDepth 100000 in
theorem lok24_20 : LoopOK e24 171 l24_20 (fnLoop e24.P 24 20) :=
  loop1_ok (L := assocL []) (rounds := 20) (depth := 6) (ts := [1, 3, 4, 7, 8, 9, 10]) (v := (valsCons (valBox celTurn) (valsCons (valBox celConfig) (valsCons (valBox celTurn) (valsCons (valInt .i64) (valsCons (valInt .i64) (valsCons (valBool) (valsOne (valInt .i64))))))))) (a := ⟨.exit 4, [1, 3, 4, 7, 8, 9], (valsCons (valBox celTurn) (valsCons (valBox celConfig) (valsCons (valBox celTurn) (valsCons (valInt .i64) (valsCons (valInt .i64) (valsOne (valBool)))))))⟩) (step := T_law15_CollideOther_20) g24 rfl loops_inNil (fun x => by kernel_rfl)
noncomputable def l24_14 : LSpec := loop2 [1, 3, 4, 7, 8] (valsCons (valBox celTurn) (valsCons (valBox celConfig) (valsCons (valBox celTurn) (valsCons (valInt .i64) (valsOne (valInt .i64)))))) (⟨.exit 2, [7], (valsOne (valInt .i64))⟩ : Way) (⟨.ret, [2], (valsOne (valBool))⟩ : Way) (whileM T_law15_CollideOther_14)
set_option maxRecDepth 100000 in
theorem lok24_14 : LoopOK e24 171 l24_14 (fnLoop e24.P 24 14) :=
  loop2_ok (L := assocL [(20, l24_20)]) (rounds := 20) (depth := 6) (ts := [1, 3, 4, 7, 8]) (v := (valsCons (valBox celTurn) (valsCons (valBox celConfig) (valsCons (valBox celTurn) (valsCons (valInt .i64) (valsOne (valInt .i64))))))) (a := ⟨.exit 2, [7], (valsOne (valInt .i64))⟩) (b := ⟨.ret, [2], (valsOne (valBool))⟩) (step := T_law15_CollideOther_14) g24 rfl rfl (loops_in (by kernel_rfl) (loopsOK_cons lok24_20 loopsOK_nil)) (fun x => by kernel_rfl)
noncomputable def l24_8 : LSpec := loop2 [1, 3, 4, 6] (valsCons (valBox celTurn) (valsCons (valBox celConfig) (valsCons (valBox celTurn) (valsOne (valInt .i64))))) (⟨.exit 0, [1, 3, 4], (valsCons (valBox celTurn) (valsCons (valBox celConfig) (valsOne (valBox celTurn))))⟩ : Way) (⟨.ret, [2], (valsOne (valBool))⟩ : Way) (whileM T_law15_CollideOther_8)
set_option maxRecDepth 100000 in
theorem lok24_8 : LoopOK e24 171 l24_8 (fnLoop e24.P 24 8) :=
  loop2_ok (L := assocL []) (rounds := 20) (depth := 6) (ts := [1, 3, 4, 6]) (v := (valsCons (valBox celTurn) (valsCons (valBox celConfig) (valsCons (valBox celTurn) (valsOne (valInt .i64)))))) (a := ⟨.exit 0, [1, 3, 4], (valsCons (valBox celTurn) (valsCons (valBox celConfig) (valsOne (valBox celTurn))))⟩) (b := ⟨.ret, [2], (valsOne (valBool))⟩) (step := T_law15_CollideOther_8) g24 rfl rfl loops_inNil (fun x => by kernel_rfl)
noncomputable def s24 : Spec := mkSpec (valsOne (valSt celTurn)) (resOne (valBool)) C_law15_CollideOther
set_option maxRecDepth 100000 in
theorem ok24 : SpecOK Try.prog 24 s24 :=
  mkSpec_ok (V := e24) (L := (assocL [(20, l24_20), (14, l24_14), (8, l24_8)])) (rounds := 20) (depth := 6) g24 (loops_fn (nt := 171) (by kernel_rfl) (ntB_ok (by kernel_rfl)) (loopsOK_cons lok24_20 (loopsOK_cons lok24_14 (loopsOK_cons lok24_8 loopsOK_nil)))) (fun x => by kernel_rfl)

end Go.Proofs.Mill
