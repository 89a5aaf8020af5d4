/- The functions compute this. -/
import Derived.Test.YtaopdopnecognaaGreatMillSeat3
import Derived.Test.YtaopdopnecognaaGreatMillFAb
namespace Go.Proofs.Mill
set_option linter.all false
/- millstream/fair.Round -/
noncomputable def e37 : Env := env1 []
theorem g37 : GoodEnv e37 := goodEnv mix1 ent1 goods_nil
noncomputable def l37_2 : LSpec := loop1 [2, 5, 6] (valsCons (valOwn 63 .sentry) (valsCons (valInt .i64) (valsOne (valInt .i64)))) (⟨.exit 0, [2], (valsOne (valOwn 63 .sentry))⟩ : Way) (whileM T_fair_Round_2)
set_option maxRecDepth 100000 in
theorem lok37_2 : LoopOK e37 16 l37_2 (fnLoop e37.P 37 2) :=
  loop1_ok (L := assocL []) (rounds := 20) (depth := 6) (ts := [2, 5, 6]) (v := (valsCons (valOwn 63 .sentry) (valsCons (valInt .i64) (valsOne (valInt .i64))))) (a := ⟨.exit 0, [2], (valsOne (valOwn 63 .sentry))⟩) (step := T_fair_Round_2) g37 rfl loops_inNil (fun x => by kernel_rfl)
noncomputable def s37 : Spec := mkSpec (valsOne (valSt celConfig)) (resOne (valLst .sentry)) C_fair_Round
set_option maxRecDepth 100000 in
theorem ok37 : SpecOK Tryz.prog 37 s37 :=
  mkSpec_ok (V := e37) (L := (assocL [(2, l37_2)])) (rounds := 20) (depth := 6) g37 (loops_fn (nt := 16) (by kernel_rfl) (ntB_ok (by kernel_rfl)) (loopsOK_cons lok37_2 loopsOK_nil)) (fun x => by kernel_rfl)

/- millstream/fair.Suffix -/
noncomputable def e17 : Env := env1 [(37, s37)]
theorem g17 : GoodEnv e17 := goodEnv mix1 ent1 (goods_cons ok37 rfl goods_nil)
noncomputable def l17_5 : LSpec := loop2 [1, 4, 5, 14, 15, 16] (valsCons (valInt .i64) (valsCons (valOwn 63 .sentry) (valsCons (valLst .sentry) (valsCons (valLst .sentry) (valsCons (valInt .i64) (valsOne (valInt .i64))))))) (⟨.exit 0, [4], (valsOne (valOwn 63 .sentry))⟩ : Way) (⟨.exit 2, [1, 4, 5], (valsCons (valInt .i64) (valsCons (valOwn 63 .sentry) (valsOne (valLst .sentry))))⟩ : Way) (whileM T_fair_Suffix_5)
set_option maxRecDepth 100000 in
theorem lok17_5 : LoopOK e17 29 l17_5 (fnLoop e17.P 17 5) :=
  loop2_ok (L := assocL []) (rounds := 20) (depth := 6) (ts := [1, 4, 5, 14, 15, 16]) (v := (valsCons (valInt .i64) (valsCons (valOwn 63 .sentry) (valsCons (valLst .sentry) (valsCons (valLst .sentry) (valsCons (valInt .i64) (valsOne (valInt .i64)))))))) (a := ⟨.exit 0, [4], (valsOne (valOwn 63 .sentry))⟩) (b := ⟨.exit 2, [1, 4, 5], (valsCons (valInt .i64) (valsCons (valOwn 63 .sentry) (valsOne (valLst .sentry))))⟩) (step := T_fair_Suffix_5) g17 rfl rfl loops_inNil (fun x => by kernel_rfl)
noncomputable def l17_2 : LSpec := loop1 [1, 4, 5] (valsCons (valInt .i64) (valsCons (valOwn 63 .sentry) (valsOne (valLst .sentry)))) (⟨.exit 0, [4], (valsOne (valOwn 63 .sentry))⟩ : Way) (whileM T_fair_Suffix_2)
set_option maxRecDepth 100000 in
theorem lok17_2 : LoopOK e17 29 l17_2 (fnLoop e17.P 17 2) :=
  loop1_ok (L := assocL [(5, l17_5)]) (rounds := 20) (depth := 6) (ts := [1, 4, 5]) (v := (valsCons (valInt .i64) (valsCons (valOwn 63 .sentry) (valsOne (valLst .sentry))))) (a := ⟨.exit 0, [4], (valsOne (valOwn 63 .sentry))⟩) (step := T_fair_Suffix_2) g17 rfl (loops_in (by kernel_rfl) (loopsOK_cons lok17_5 loopsOK_nil)) (fun x => by kernel_rfl)
noncomputable def s17 : Spec := mkSpec (valsCons (valSt celConfig) (valsOne (valInt .i64))) (resOne (valLst .sentry)) C_fair_Suffix
set_option maxRecDepth 100000 in
theorem ok17 : SpecOK Tryz.prog 17 s17 :=
  mkSpec_ok (V := e17) (L := (assocL [(5, l17_5), (2, l17_2)])) (rounds := 20) (depth := 6) g17 (loops_fn (nt := 29) (by kernel_rfl) (ntB_ok (by kernel_rfl)) (loopsOK_cons lok17_5 (loopsOK_cons lok17_2 loopsOK_nil))) (fun x => by kernel_rfl)

/- millstream/config.Steps -/
noncomputable def e53 : Env := env1 []
theorem g53 : GoodEnv e53 := goodEnv mix1 ent1 goods_nil
noncomputable def s53 : Spec := mkSpec (valsOne (valSt celConfig)) (resOne (valInt .i64)) C_config_Steps
set_option maxRecDepth 100000 in
theorem ok53 : SpecOK Tryz.prog 53 s53 :=
  mkSpec_ok (V := e53) (L := nL) (rounds := 20) (depth := 6) g53 loops_none (fun x => by kernel_rfl)

/- millstream/fair.Rounds -/
noncomputable def e18 : Env := env1 [(53, s53)]
theorem g18 : GoodEnv e18 := goodEnv mix1 ent1 (goods_cons ok53 rfl goods_nil)
noncomputable def s18 : Spec := mkSpec (valsOne (valSt celConfig)) (resOne (valInt .i64)) C_fair_Rounds
set_option maxRecDepth 100000 in
theorem ok18 : SpecOK Tryz.prog 18 s18 :=
  mkSpec_ok (V := e18) (L := nL) (rounds := 20) (depth := 6) g18 loops_none (fun x => by kernel_rfl)

/- millstream/millstreamref06.Nodes -/
noncomputable def e20 : Env := env1 []
theorem g20 : GoodEnv e20 := goodEnv mix1 ent1 goods_nil
noncomputable def l20_3 : LSpec := loop1 [1, 3, 4] (valsCons (valBox celConfig) (valsCons (valInt .i64) (valsOne (valInt .i64)))) (⟨.exit 0, [3], (valsOne (valInt .i64))⟩ : Way) (whileM T_ref06_Nodes_3)
set_option maxRecDepth 100000 in
theorem lok20_3 : LoopOK e20 15 l20_3 (fnLoop e20.P 20 3) :=
  loop1_ok (L := assocL []) (rounds := 20) (depth := 6) (ts := [1, 3, 4]) (v := (valsCons (valBox celConfig) (valsCons (valInt .i64) (valsOne (valInt .i64))))) (a := ⟨.exit 0, [3], (valsOne (valInt .i64))⟩) (step := T_ref06_Nodes_3) g20 rfl loops_inNil (fun x => by kernel_rfl)
noncomputable def s20 : Spec := mkSpec (valsOne (valSt celConfig)) (resOne (valInt .i64)) C_ref06_Nodes
set_option maxRecDepth 100000 in
theorem ok20 : SpecOK Tryz.prog 20 s20 :=
  mkSpec_ok (V := e20) (L := (assocL [(3, l20_3)])) (rounds := 20) (depth := 6) g20 (loops_fn (nt := 15) (by kernel_rfl) (ntB_ok (by kernel_rfl)) (loopsOK_cons lok20_3 loopsOK_nil)) (fun x => by kernel_rfl)

/- millstream/millstreamref06.block -/
noncomputable def e54 : Env := env1 [(20, s20)]
theorem g54 : GoodEnv e54 := goodEnv mix1 ent1 (goods_cons ok20 rfl goods_nil)
noncomputable def s54 : Spec := mkSpec (valsOne (valSt celConfig)) (resOne (valInt .i64)) C_ref06_block
set_option maxRecDepth 100000 in
theorem ok54 : SpecOK Tryz.prog 54 s54 :=
  mkSpec_ok (V := e54) (L := nL) (rounds := 20) (depth := 6) g54 loops_none (fun x => by kernel_rfl)

/- millstream/millstreamref06.Size -/
noncomputable def e19 : Env := env1 [(54, s54)]
theorem g19 : GoodEnv e19 := goodEnv mix1 ent1 (goods_cons ok54 rfl goods_nil)
noncomputable def s19 : Spec := mkSpec (valsOne (valSt celConfig)) (resOne (valInt .i64)) C_ref06_Size
set_option maxRecDepth 100000 in
theorem ok19 : SpecOK Tryz.prog 19 s19 :=
  mkSpec_ok (V := e19) (L := nL) (rounds := 20) (depth := 6) g19 loops_none (fun x => by kernel_rfl)

/- millstream/millstreamref06.Node -/
noncomputable def e21 : Env := env1 [(20, s20), (54, s54)]
theorem g21 : GoodEnv e21 := goodEnv mix1 ent1 (goods_cons ok20 rfl (goods_cons ok54 rfl goods_nil))
noncomputable def s21 : Spec := mkSpec (valsCons (valSt celConfig) (valsCons (valInt .i64) (valsOne (valInt .i64)))) (resOne (valInt .i64)) C_ref06_Node
set_option maxRecDepth 100000 in
theorem ok21 : SpecOK Tryz.prog 21 s21 :=
  mkSpec_ok (V := e21) (L := nL) (rounds := 20) (depth := 6) g21 loops_none (fun x => by kernel_rfl)

/- millstream/millstreamref06.Line -/
noncomputable def e22 : Env := env1 [(54, s54)]
theorem g22 : GoodEnv e22 := goodEnv mix1 ent1 (goods_cons ok54 rfl goods_nil)
noncomputable def s22 : Spec := mkSpec (valsCons (valSt celConfig) (valsOne (valInt .i64))) (resOne (valInt .i64)) C_ref06_Line
set_option maxRecDepth 100000 in
theorem ok22 : SpecOK Tryz.prog 22 s22 :=
  mkSpec_ok (V := e22) (L := nL) (rounds := 20) (depth := 6) g22 loops_none (fun x => by kernel_rfl)

/- millstream/thread.Busy -/
noncomputable def e24 : Env := env1 []
theorem g24 : GoodEnv e24 := goodEnv mix1 ent1 goods_nil
noncomputable def s24 : Spec := mkSpec (valsOne (valSt celThread)) (resOne (valBool)) C_thread_Busy
set_option maxRecDepth 100000 in
theorem ok24 : SpecOK Tryz.prog 24 s24 :=
  mkSpec_ok (V := e24) (L := nL) (rounds := 20) (depth := 6) g24 loops_none (fun x => by kernel_rfl)

/- millstream/script.within -/
noncomputable def e83 : Env := env1 []
theorem g83 : GoodEnv e83 := goodEnv mix1 ent1 goods_nil
noncomputable def s83 : Spec := mkSpec (valsCons (valInt .i64) (valsOne (valInt .i64))) (resOne (valBool)) C_script_within
set_option maxRecDepth 100000 in
theorem ok83 : SpecOK Tryz.prog 83 s83 :=
  mkSpec_ok (V := e83) (L := nL) (rounds := 20) (depth := 6) g83 loops_none (fun x => by kernel_rfl)

/- millstream/oper.Known -/
noncomputable def e107 : Env := env1 []
theorem g107 : GoodEnv e107 := goodEnv mix1 ent1 goods_nil
noncomputable def s107 : Spec := mkSpec (valsOne (valInt .i64)) (resOne (valBool)) C_oper_Known
set_option maxRecDepth 100000 in
theorem ok107 : SpecOK Tryz.prog 107 s107 :=
  mkSpec_ok (V := e107) (L := nL) (rounds := 20) (depth := 6) g107 loops_none (fun x => by kernel_rfl)

/- millstream/oper.May -/
noncomputable def e84 : Env := env1 [(107, s107)]
theorem g84 : GoodEnv e84 := goodEnv mix1 ent1 (goods_cons ok107 rfl goods_nil)
noncomputable def s84 : Spec := mkSpec (valsCons (valSt celOp) (valsOne (valBool))) (resOne (valBool)) C_oper_May
set_option maxRecDepth 100000 in
theorem ok84 : SpecOK Tryz.prog 84 s84 :=
  mkSpec_ok (V := e84) (L := nL) (rounds := 20) (depth := 6) g84 loops_none (fun x => by kernel_rfl)

/- millstream/script.Check -/
noncomputable def e61 : Env := env1 [(83, s83), (84, s84)]
theorem g61 : GoodEnv e61 := goodEnv mix1 ent1 (goods_cons ok83 rfl (goods_cons ok84 rfl goods_nil))
noncomputable def s61 : Spec := mkSpec (valsCons (valSt celConfig) (valsOne (valSt celSEntry))) (resOne (valInt .i64)) C_script_Check
set_option maxRecDepth 100000 in
theorem ok61 : SpecOK Tryz.prog 61 s61 :=
  mkSpec_ok (V := e61) (L := nL) (rounds := 20) (depth := 6) g61 loops_none (fun x => by kernel_rfl)

/- slices.Clone[[]millstream/thread.Thread,millstream/thread.Thread] -/
noncomputable def e85 : Env := env1 []
theorem g85 : GoodEnv e85 := goodEnv mix1 ent1 goods_nil
noncomputable def s85 : Spec := mkSpec (valsOne (valLst .thread)) (resOne (valOwn 57 .thread)) C_slices_Clone_thread_Thread
set_option maxRecDepth 100000 in
theorem ok85 : SpecOK Tryz.prog 85 s85 :=
  spec_nil (V := e85) (L := nL) (rounds := 20) (depth := 6) (r := (resOne (valOwn 57 .thread))) g85 loops_none (by kernel_rfl) (fun x => by kernel_rfl)

/- slices.Clone[[]millstream/thread.Mark,millstream/thread.Mark] -/
noncomputable def e86 : Env := env1 []
theorem g86 : GoodEnv e86 := goodEnv mix1 ent1 goods_nil
noncomputable def s86 : Spec := mkSpec (valsOne (valLst .mark)) (resOne (valOwn 65 .mark)) C_slices_Clone_thread_Mark
set_option maxRecDepth 100000 in
theorem ok86 : SpecOK Tryz.prog 86 s86 :=
  spec_nil (V := e86) (L := nL) (rounds := 20) (depth := 6) (r := (resOne (valOwn 65 .mark))) g86 loops_none (by kernel_rfl) (fun x => by kernel_rfl)

/- slices.Clone[[]millstream/world.Event,millstream/world.Event] -/
noncomputable def e87 : Env := env1 []
theorem g87 : GoodEnv e87 := goodEnv mix1 ent1 goods_nil
noncomputable def s87 : Spec := mkSpec (valsOne (valLst .event)) (resOne (valOwn 50 .event)) C_slices_Clone_world_Event
set_option maxRecDepth 100000 in
theorem ok87 : SpecOK Tryz.prog 87 s87 :=
  spec_nil (V := e87) (L := nL) (rounds := 20) (depth := 6) (r := (resOne (valOwn 50 .event))) g87 loops_none (by kernel_rfl) (fun x => by kernel_rfl)

/- millstream/shape.Leaf -/
noncomputable def e112 : Env := env1 []
theorem g112 : GoodEnv e112 := goodEnv mix1 ent1 goods_nil
noncomputable def s112 : Spec := mkSpec (valsCons (valInt .i64) (valsOne (valInt .i64))) (resOne (valInt .i64)) C_shape_Leaf
set_option maxRecDepth 100000 in
theorem ok112 : SpecOK Tryz.prog 112 s112 :=
  mkSpec_ok (V := e112) (L := nL) (rounds := 20) (depth := 6) g112 loops_none (fun x => by kernel_rfl)

/- millstream/thread.Begin -/
noncomputable def e100 : Env := env1 [(112, s112)]
theorem g100 : GoodEnv e100 := goodEnv mix1 ent1 (goods_cons ok112 rfl goods_nil)
noncomputable def s100 : Spec := mkSpec (valsCons (valSt celConfig) (valsCons (valInt .i64) (valsCons (valSt celThread) (valsCons (valInt .i64) (valsCons (valSt celOp) (valsOne (valInt .i64))))))) (resOne (valSt celThread)) C_thread_Begin
set_option maxRecDepth 100000 in
theorem ok100 : SpecOK Tryz.prog 100 s100 :=
  mkSpec_ok (V := e100) (L := nL) (rounds := 20) (depth := 6) g100 loops_none (fun x => by kernel_rfl)

/- millstream/world.Step -/
noncomputable def e26 : Env := env1 [(24, s24), (61, s61), (85, s85), (86, s86), (87, s87), (100, s100)]
theorem g26 : GoodEnv e26 := goodEnv mix1 ent1 (goods_cons ok24 rfl (goods_cons ok61 rfl (goods_cons ok85 rfl (goods_cons ok86 rfl (goods_cons ok87 rfl (goods_cons ok100 rfl goods_nil))))))
noncomputable def s26 : Spec := mkSpec (valsCons (valSt celWld) (valsOne (valSt celSEntry))) (resTup (valsCons (valSt celWld) (valsOne (valInt .i64)))) C_world_Step
set_option maxRecDepth 100000 in
theorem ok26 : SpecOK Tryz.prog 26 s26 :=
  mkSpec_ok (V := e26) (L := nL) (rounds := 20) (depth := 6) g26 loops_none (fun x => by kernel_rfl)

/- millstream/millstreamref05.Check -/
noncomputable def e49 : Env := env1 []
theorem g49 : GoodEnv e49 := goodEnv mix1 ent1 goods_nil
noncomputable def s49 : Spec := mkSpec (valsOne (valSt celConfig)) (resOne (valInt .i64)) C_ref05_Check
set_option maxRecDepth 100000 in
theorem ok49 : SpecOK Tryz.prog 49 s49 :=
  mkSpec_ok (V := e49) (L := nL) (rounds := 20) (depth := 6) g49 loops_none (fun x => by kernel_rfl)

/- millstream/millstreamref01.May -/
noncomputable def e44 : Env := env1 []
theorem g44 : GoodEnv e44 := goodEnv mix1 ent1 goods_nil
noncomputable def s44 : Spec := mkSpec (valsCons (valSt celOp) (valsOne (valBool))) (resOne (valBool)) C_ref01_May
set_option maxRecDepth 100000 in
theorem ok44 : SpecOK Tryz.prog 44 s44 :=
  mkSpec_ok (V := e44) (L := nL) (rounds := 20) (depth := 6) g44 loops_none (fun x => by kernel_rfl)

/- millstream/millstreamref09.Check -/
noncomputable def e65 : Env := env1 [(44, s44)]
theorem g65 : GoodEnv e65 := goodEnv mix1 ent1 (goods_cons ok44 rfl goods_nil)
noncomputable def s65 : Spec := mkSpec (valsCons (valSt celConfig) (valsOne (valSt celSEntry))) (resOne (valInt .i64)) C_ref09_Check
set_option maxRecDepth 100000 in
theorem ok65 : SpecOK Tryz.prog 65 s65 :=
  mkSpec_ok (V := e65) (L := nL) (rounds := 20) (depth := 6) g65 loops_none (fun x => by kernel_rfl)

/- millstream/millstreamref09.All -/
noncomputable def e30 : Env := env1 [(49, s49), (65, s65)]
theorem g30 : GoodEnv e30 := goodEnv mix1 ent1 (goods_cons ok49 rfl (goods_cons ok65 rfl goods_nil))
noncomputable def l30_7 : LSpec := loop2 [1, 2, 7] (valsCons (valLst .sentry) (valsCons (valBox celConfig) (valsOne (valInt .i64)))) (⟨.exit 0, [], valsNil⟩ : Way) (⟨.ret, [4, 5], (valsCons (valInt .i64) (valsOne (valInt .i64)))⟩ : Way) (whileM T_ref09_All_7)
set_option maxRecDepth 100000 in
theorem lok30_7 : LoopOK e30 33 l30_7 (fnLoop e30.P 30 7) :=
  loop2_ok (L := assocL []) (rounds := 20) (depth := 6) (ts := [1, 2, 7]) (v := (valsCons (valLst .sentry) (valsCons (valBox celConfig) (valsOne (valInt .i64))))) (a := ⟨.exit 0, [], valsNil⟩) (b := ⟨.ret, [4, 5], (valsCons (valInt .i64) (valsOne (valInt .i64)))⟩) (step := T_ref09_All_7) g30 rfl rfl loops_inNil (fun x => by kernel_rfl)
noncomputable def s30 : Spec := mkSpec (valsCons (valSt celConfig) (valsOne (valLst .sentry))) (resTup (valsCons (valInt .i64) (valsOne (valInt .i64)))) C_ref09_All
set_option maxRecDepth 100000 in
theorem ok30 : SpecOK Tryz.prog 30 s30 :=
  mkSpec_ok (V := e30) (L := (assocL [(7, l30_7)])) (rounds := 20) (depth := 6) g30 (loops_fn (nt := 33) (by kernel_rfl) (ntB_ok (by kernel_rfl)) (loopsOK_cons lok30_7 loopsOK_nil)) (fun x => by kernel_rfl)

/- millstream/millstreamlaw19.may -/
noncomputable def e32 : Env := env1 [(49, s49)]
theorem g32 : GoodEnv e32 := goodEnv mix1 ent1 (goods_cons ok49 rfl goods_nil)
noncomputable def s32 : Spec := mkSpec (valsOne (valSt celConfig)) (resOne (valBool)) C_law19_may
set_option maxRecDepth 100000 in
theorem ok32 : SpecOK Tryz.prog 32 s32 :=
  mkSpec_ok (V := e32) (L := nL) (rounds := 20) (depth := 6) g32 loops_none (fun x => by kernel_rfl)

/- millstream/millstreamref05.Steps -/
noncomputable def e73 : Env := env1 []
theorem g73 : GoodEnv e73 := goodEnv mix1 ent1 goods_nil
noncomputable def s73 : Spec := mkSpec (valsOne (valSt celConfig)) (resOne (valInt .i64)) C_ref05_Steps
set_option maxRecDepth 100000 in
theorem ok73 : SpecOK Tryz.prog 73 s73 :=
  mkSpec_ok (V := e73) (L := nL) (rounds := 20) (depth := 6) g73 loops_none (fun x => by kernel_rfl)

/- millstream/millstreamref19.Rounds -/
noncomputable def e34 : Env := env1 [(73, s73)]
theorem g34 : GoodEnv e34 := goodEnv mix1 ent1 (goods_cons ok73 rfl goods_nil)
noncomputable def s34 : Spec := mkSpec (valsOne (valSt celConfig)) (resOne (valInt .i64)) C_ref19_Rounds
set_option maxRecDepth 100000 in
theorem ok34 : SpecOK Tryz.prog 34 s34 :=
  mkSpec_ok (V := e34) (L := nL) (rounds := 20) (depth := 6) g34 loops_none (fun x => by kernel_rfl)

/- millstream/millstreamref09.Same -/
noncomputable def e35 : Env := env1 []
theorem g35 : GoodEnv e35 := goodEnv mix1 ent1 goods_nil
noncomputable def l35_4 : LSpec := loop2 [0, 1, 5] (valsCons (valLst .sentry) (valsCons (valLst .sentry) (valsOne (valInt .i64)))) (⟨.exit 0, [], valsNil⟩ : Way) (⟨.ret, [4], (valsOne (valBool))⟩ : Way) (whileM T_ref09_Same_4)
set_option maxRecDepth 100000 in
theorem lok35_4 : LoopOK e35 26 l35_4 (fnLoop e35.P 35 4) :=
  loop2_ok (L := assocL []) (rounds := 20) (depth := 6) (ts := [0, 1, 5]) (v := (valsCons (valLst .sentry) (valsCons (valLst .sentry) (valsOne (valInt .i64))))) (a := ⟨.exit 0, [], valsNil⟩) (b := ⟨.ret, [4], (valsOne (valBool))⟩) (step := T_ref09_Same_4) g35 rfl rfl loops_inNil (fun x => by kernel_rfl)
noncomputable def s35 : Spec := mkSpec (valsCons (valLst .sentry) (valsOne (valLst .sentry))) (resOne (valBool)) C_ref09_Same
set_option maxRecDepth 100000 in
theorem ok35 : SpecOK Tryz.prog 35 s35 :=
  mkSpec_ok (V := e35) (L := (assocL [(4, l35_4)])) (rounds := 20) (depth := 6) g35 (loops_fn (nt := 26) (by kernel_rfl) (ntB_ok (by kernel_rfl)) (loopsOK_cons lok35_4 loopsOK_nil)) (fun x => by kernel_rfl)

/- millstream/millstreamlaw19.its -/
noncomputable def e36 : Env := env1 []
theorem g36 : GoodEnv e36 := goodEnv mix1 ent1 goods_nil
noncomputable def l36_3 : LSpec := loop1 [0, 3, 4] (valsCons (valLst .sentry) (valsCons (valOwn 120 .sentry) (valsOne (valInt .i64)))) (⟨.exit 0, [3], (valsOne (valOwn 120 .sentry))⟩ : Way) (whileM T_law19_its_3)
set_option maxRecDepth 100000 in
theorem lok36_3 : LoopOK e36 37 l36_3 (fnLoop e36.P 36 3) :=
  loop1_ok (L := assocL []) (rounds := 20) (depth := 6) (ts := [0, 3, 4]) (v := (valsCons (valLst .sentry) (valsCons (valOwn 120 .sentry) (valsOne (valInt .i64))))) (a := ⟨.exit 0, [3], (valsOne (valOwn 120 .sentry))⟩) (step := T_law19_its_3) g36 rfl loops_inNil (fun x => by kernel_rfl)
noncomputable def s36 : Spec := mkSpec (valsOne (valLst .sentry)) (resOne (valLst .sentry)) C_law19_its
set_option maxRecDepth 100000 in
theorem ok36 : SpecOK Tryz.prog 36 s36 :=
  mkSpec_ok (V := e36) (L := (assocL [(3, l36_3)])) (rounds := 20) (depth := 6) g36 (loops_fn (nt := 37) (by kernel_rfl) (ntB_ok (by kernel_rfl)) (loopsOK_cons lok36_3 loopsOK_nil)) (fun x => by kernel_rfl)

/- millstream/millstreamref19.Suffix -/
noncomputable def e39 : Env := env1 []
theorem g39 : GoodEnv e39 := goodEnv mix1 ent1 goods_nil
noncomputable def l39_6 : LSpec := loop2 [1, 2, 5, 6, 7] (valsCons (valInt .i64) (valsCons (valBox celConfig) (valsCons (valOwn 120 .sentry) (valsCons (valInt .i64) (valsOne (valInt .i64)))))) (⟨.exit 2, [1, 2, 5, 6], (valsCons (valInt .i64) (valsCons (valBox celConfig) (valsCons (valOwn 120 .sentry) (valsOne (valInt .i64)))))⟩ : Way) (⟨.ret, [4], (valsOne (valLst .sentry))⟩ : Way) (whileM T_ref19_Suffix_6)
set_option maxRecDepth 100000 in
theorem lok39_6 : LoopOK e39 30 l39_6 (fnLoop e39.P 39 6) :=
  loop2_ok (L := assocL []) (rounds := 20) (depth := 6) (ts := [1, 2, 5, 6, 7]) (v := (valsCons (valInt .i64) (valsCons (valBox celConfig) (valsCons (valOwn 120 .sentry) (valsCons (valInt .i64) (valsOne (valInt .i64))))))) (a := ⟨.exit 2, [1, 2, 5, 6], (valsCons (valInt .i64) (valsCons (valBox celConfig) (valsCons (valOwn 120 .sentry) (valsOne (valInt .i64)))))⟩) (b := ⟨.ret, [4], (valsOne (valLst .sentry))⟩) (step := T_ref19_Suffix_6) g39 rfl rfl loops_inNil (fun x => by kernel_rfl)
noncomputable def l39_3 : LSpec := loop2 [1, 2, 5, 6] (valsCons (valInt .i64) (valsCons (valBox celConfig) (valsCons (valOwn 120 .sentry) (valsOne (valInt .i64))))) (⟨.exit 0, [5], (valsOne (valOwn 120 .sentry))⟩ : Way) (⟨.ret, [4], (valsOne (valLst .sentry))⟩ : Way) (whileM T_ref19_Suffix_3)
set_option maxRecDepth 100000 in
theorem lok39_3 : LoopOK e39 30 l39_3 (fnLoop e39.P 39 3) :=
  loop2_ok (L := assocL [(6, l39_6)]) (rounds := 20) (depth := 6) (ts := [1, 2, 5, 6]) (v := (valsCons (valInt .i64) (valsCons (valBox celConfig) (valsCons (valOwn 120 .sentry) (valsOne (valInt .i64)))))) (a := ⟨.exit 0, [5], (valsOne (valOwn 120 .sentry))⟩) (b := ⟨.ret, [4], (valsOne (valLst .sentry))⟩) (step := T_ref19_Suffix_3) g39 rfl rfl (loops_in (by kernel_rfl) (loopsOK_cons lok39_6 loopsOK_nil)) (fun x => by kernel_rfl)
noncomputable def s39 : Spec := mkSpec (valsCons (valSt celConfig) (valsOne (valInt .i64))) (resOne (valLst .sentry)) C_ref19_Suffix
set_option maxRecDepth 100000 in
theorem ok39 : SpecOK Tryz.prog 39 s39 :=
  mkSpec_ok (V := e39) (L := (assocL [(6, l39_6), (3, l39_3)])) (rounds := 20) (depth := 6) g39 (loops_fn (nt := 30) (by kernel_rfl) (ntB_ok (by kernel_rfl)) (loopsOK_cons lok39_6 (loopsOK_cons lok39_3 loopsOK_nil))) (fun x => by kernel_rfl)

/- millstream/millstreamref19.Round -/
noncomputable def e38 : Env := env1 [(39, s39)]
theorem g38 : GoodEnv e38 := goodEnv mix1 ent1 (goods_cons ok39 rfl goods_nil)
noncomputable def s38 : Spec := mkSpec (valsOne (valSt celConfig)) (resOne (valLst .sentry)) C_ref19_Round
set_option maxRecDepth 100000 in
theorem ok38 : SpecOK Tryz.prog 38 s38 :=
  mkSpec_ok (V := e38) (L := nL) (rounds := 20) (depth := 6) g38 loops_none (fun x => by kernel_rfl)

/- millstream/fair.behind -/
noncomputable def e74 : Env := env1 []
theorem g74 : GoodEnv e74 := goodEnv mix1 ent1 goods_nil
noncomputable def l74_2 : LSpec := loop2 [0, 6, 7] (valsCons (valLst .sentry) (valsCons (valInt .i64) (valsOne (valInt .i64)))) (⟨.exit 0, [0], (valsOne (valLst .sentry))⟩ : Way) (⟨.ret, [2], (valsOne (valLst .sentry))⟩ : Way) (whileM T_fair_behind_2)
set_option maxRecDepth 100000 in
theorem lok74_2 : LoopOK e74 26 l74_2 (fnLoop e74.P 74 2) :=
  loop2_ok (L := assocL []) (rounds := 20) (depth := 6) (ts := [0, 6, 7]) (v := (valsCons (valLst .sentry) (valsCons (valInt .i64) (valsOne (valInt .i64))))) (a := ⟨.exit 0, [0], (valsOne (valLst .sentry))⟩) (b := ⟨.ret, [2], (valsOne (valLst .sentry))⟩) (step := T_fair_behind_2) g74 rfl rfl loops_inNil (fun x => by kernel_rfl)
noncomputable def s74 : Spec := mkSpec (valsOne (valLst .sentry)) (resOne (valLst .sentry)) C_fair_behind
set_option maxRecDepth 100000 in
theorem ok74 : SpecOK Tryz.prog 74 s74 :=
  mkSpec_ok (V := e74) (L := (assocL [(2, l74_2)])) (rounds := 20) (depth := 6) g74 (loops_fn (nt := 26) (by kernel_rfl) (ntB_ok (by kernel_rfl)) (loopsOK_cons lok74_2 loopsOK_nil)) (fun x => by kernel_rfl)

/- millstream/fair.Whole -/
noncomputable def e40 : Env := env1 [(74, s74)]
theorem g40 : GoodEnv e40 := goodEnv mix1 ent1 (goods_cons ok74 rfl goods_nil)
noncomputable def l40_3 : LSpec := loop1 [2, 4, 5, 9, 10, 11] (valsCons (valBox celConfig) (valsCons (valInt .i64) (valsCons (valInt .i64) (valsCons (valLst .sentry) (valsCons (valInt .i64) (valsOne (valInt .i64))))))) (⟨.exit 0, [4], (valsOne (valInt .i64))⟩ : Way) (whileM T_fair_Whole_3)
set_option maxRecDepth 100000 in
theorem lok40_3 : LoopOK e40 34 l40_3 (fnLoop e40.P 40 3) :=
  loop1_ok (L := assocL []) (rounds := 20) (depth := 6) (ts := [2, 4, 5, 9, 10, 11]) (v := (valsCons (valBox celConfig) (valsCons (valInt .i64) (valsCons (valInt .i64) (valsCons (valLst .sentry) (valsCons (valInt .i64) (valsOne (valInt .i64)))))))) (a := ⟨.exit 0, [4], (valsOne (valInt .i64))⟩) (step := T_fair_Whole_3) g40 rfl loops_inNil (fun x => by kernel_rfl)
noncomputable def s40 : Spec := mkSpec (valsCons (valSt celConfig) (valsOne (valLst .sentry))) (resOne (valInt .i64)) C_fair_Whole
set_option maxRecDepth 100000 in
theorem ok40 : SpecOK Tryz.prog 40 s40 :=
  mkSpec_ok (V := e40) (L := (assocL [(3, l40_3)])) (rounds := 20) (depth := 6) g40 (loops_fn (nt := 34) (by kernel_rfl) (ntB_ok (by kernel_rfl)) (loopsOK_cons lok40_3 loopsOK_nil)) (fun x => by kernel_rfl)

/- millstream/millstreamref19.Whole -/
noncomputable def e41 : Env := env1 []
theorem g41 : GoodEnv e41 := goodEnv mix1 ent1 goods_nil
noncomputable def l41_9 : LSpec := loop1 [1, 2, 7, 8] (valsCons (valLst .sentry) (valsCons (valBox celConfig) (valsCons (valInt .i64) (valsOne (valInt .i64))))) (⟨.exit 2, [2, 7], (valsCons (valBox celConfig) (valsOne (valInt .i64)))⟩ : Way) (whileM T_ref19_Whole_9)
set_option maxRecDepth 100000 in
theorem lok41_9 : LoopOK e41 52 l41_9 (fnLoop e41.P 41 9) :=
  loop1_ok (L := assocL []) (rounds := 20) (depth := 6) (ts := [1, 2, 7, 8]) (v := (valsCons (valLst .sentry) (valsCons (valBox celConfig) (valsCons (valInt .i64) (valsOne (valInt .i64)))))) (a := ⟨.exit 2, [2, 7], (valsCons (valBox celConfig) (valsOne (valInt .i64)))⟩) (step := T_ref19_Whole_9) g41 rfl loops_inNil (fun x => by kernel_rfl)
noncomputable def l41_3 : LSpec := loop1 [1, 2, 5, 6] (valsCons (valLst .sentry) (valsCons (valBox celConfig) (valsCons (valInt .i64) (valsOne (valInt .i64))))) (⟨.exit 0, [1, 2, 5], (valsCons (valLst .sentry) (valsCons (valBox celConfig) (valsOne (valInt .i64))))⟩ : Way) (whileM T_ref19_Whole_3)
set_option maxRecDepth 100000 in
theorem lok41_3 : LoopOK e41 52 l41_3 (fnLoop e41.P 41 3) :=
  loop1_ok (L := assocL []) (rounds := 20) (depth := 6) (ts := [1, 2, 5, 6]) (v := (valsCons (valLst .sentry) (valsCons (valBox celConfig) (valsCons (valInt .i64) (valsOne (valInt .i64)))))) (a := ⟨.exit 0, [1, 2, 5], (valsCons (valLst .sentry) (valsCons (valBox celConfig) (valsOne (valInt .i64))))⟩) (step := T_ref19_Whole_3) g41 rfl loops_inNil (fun x => by kernel_rfl)
noncomputable def s41 : Spec := mkSpec (valsCons (valSt celConfig) (valsOne (valLst .sentry))) (resOne (valInt .i64)) C_ref19_Whole
set_option maxRecDepth 100000 in
theorem ok41 : SpecOK Tryz.prog 41 s41 :=
  mkSpec_ok (V := e41) (L := (assocL [(9, l41_9), (3, l41_3)])) (rounds := 20) (depth := 6) g41 (loops_fn (nt := 52) (by kernel_rfl) (ntB_ok (by kernel_rfl)) (loopsOK_cons lok41_9 (loopsOK_cons lok41_3 loopsOK_nil))) (fun x => by kernel_rfl)

/- millstream/fair.Fair -/
noncomputable def e42 : Env := env1 [(18, s18), (40, s40)]
theorem g42 : GoodEnv e42 := goodEnv mix1 ent1 (goods_cons ok18 rfl (goods_cons ok40 rfl goods_nil))
noncomputable def s42 : Spec := mkSpec (valsCons (valSt celConfig) (valsOne (valLst .sentry))) (resOne (valBool)) C_fair_Fair
set_option maxRecDepth 100000 in
theorem ok42 : SpecOK Tryz.prog 42 s42 :=
  mkSpec_ok (V := e42) (L := nL) (rounds := 20) (depth := 6) g42 loops_none (fun x => by kernel_rfl)

/- millstream/millstreamref19.Fair -/
noncomputable def e43 : Env := env1 [(34, s34), (41, s41)]
theorem g43 : GoodEnv e43 := goodEnv mix1 ent1 (goods_cons ok34 rfl (goods_cons ok41 rfl goods_nil))
noncomputable def s43 : Spec := mkSpec (valsCons (valSt celConfig) (valsOne (valLst .sentry))) (resOne (valBool)) C_ref19_Fair
set_option maxRecDepth 100000 in
theorem ok43 : SpecOK Tryz.prog 43 s43 :=
  mkSpec_ok (V := e43) (L := nL) (rounds := 20) (depth := 6) g43 loops_none (fun x => by kernel_rfl)

/- millstream/world.Busy -/
noncomputable def e45 : Env := env1 [(24, s24)]
theorem g45 : GoodEnv e45 := goodEnv mix1 ent1 (goods_cons ok24 rfl goods_nil)
noncomputable def l45_2 : LSpec := loop1 [2, 6, 7, 8] (valsCons (valInt .i64) (valsCons (valLst .thread) (valsCons (valInt .i64) (valsOne (valInt .i64))))) (⟨.exit 0, [2], (valsOne (valInt .i64))⟩ : Way) (whileM T_world_Busy_2)
set_option maxRecDepth 100000 in
theorem lok45_2 : LoopOK e45 18 l45_2 (fnLoop e45.P 45 2) :=
  loop1_ok (L := assocL []) (rounds := 20) (depth := 6) (ts := [2, 6, 7, 8]) (v := (valsCons (valInt .i64) (valsCons (valLst .thread) (valsCons (valInt .i64) (valsOne (valInt .i64)))))) (a := ⟨.exit 0, [2], (valsOne (valInt .i64))⟩) (step := T_world_Busy_2) g45 rfl loops_inNil (fun x => by kernel_rfl)
noncomputable def s45 : Spec := mkSpec (valsOne (valSt celWld)) (resOne (valInt .i64)) C_world_Busy
set_option maxRecDepth 100000 in
theorem ok45 : SpecOK Tryz.prog 45 s45 :=
  mkSpec_ok (V := e45) (L := (assocL [(2, l45_2)])) (rounds := 20) (depth := 6) g45 (loops_fn (nt := 18) (by kernel_rfl) (ntB_ok (by kernel_rfl)) (loopsOK_cons lok45_2 loopsOK_nil)) (fun x => by kernel_rfl)

/- millstream/millstreamref06.Cell -/
noncomputable def e47 : Env := env1 [(54, s54)]
theorem g47 : GoodEnv e47 := goodEnv mix1 ent1 (goods_cons ok54 rfl goods_nil)
noncomputable def s47 : Spec := mkSpec (valsCons (valSt celConfig) (valsOne (valInt .i64))) (resOne (valInt .i64)) C_ref06_Cell
set_option maxRecDepth 100000 in
theorem ok47 : SpecOK Tryz.prog 47 s47 :=
  mkSpec_ok (V := e47) (L := nL) (rounds := 20) (depth := 6) g47 loops_none (fun x => by kernel_rfl)

/- millstream/millstreamref01.sum -/
noncomputable def e75 : Env := env1 []
theorem g75 : GoodEnv e75 := goodEnv mix1 ent1 goods_nil
noncomputable def s75 : Spec := mkSpec (valsCons (valInt .i64) (valsOne (valInt .i64))) (resTup (valsCons (valInt .i64) (valsOne (valBool)))) C_ref01_sum
set_option maxRecDepth 100000 in
theorem ok75 : SpecOK Tryz.prog 75 s75 :=
  mkSpec_ok (V := e75) (L := nL) (rounds := 20) (depth := 6) g75 loops_none (fun x => by kernel_rfl)

/- millstream/millstreamref01.Apply -/
noncomputable def e48 : Env := env1 [(75, s75)]
theorem g48 : GoodEnv e48 := goodEnv mix1 ent1 (goods_cons ok75 rfl goods_nil)
noncomputable def s48 : Spec := mkSpec (valsCons (valSt celOp) (valsCons (valInt .i64) (valsCons (valInt .i64) (valsOne (valInt .i64))))) (resTup (valsCons (valInt .i64) (valsOne (valBool)))) C_ref01_Apply
set_option maxRecDepth 100000 in
theorem ok48 : SpecOK Tryz.prog 48 s48 :=
  mkSpec_ok (V := e48) (L := nL) (rounds := 20) (depth := 6) g48 loops_none (fun x => by kernel_rfl)

/- millstream/config.Check -/
noncomputable def e56 : Env := env1 []
theorem g56 : GoodEnv e56 := goodEnv mix1 ent1 goods_nil
noncomputable def l56_2 : LSpec := loop2 [1, 29, 30] (valsCons (valBox celConfig) (valsCons (valSt (celApp (celInt .i64) (celApp (celInt .i64) (celApp (celInt .i64) (celApp (celInt .i64) (celApp (celInt .i64) (celApp (celInt .i64) (celApp (celInt .i64) (celApp (celInt .i64) (celApp (celInt .i64) (celApp (celInt .i64) (celApp (celInt .i64) (celApp (celInt .i64) (celApp (celInt .i64) (celApp (celInt .i64) (celApp (celInt .i64) (celApp (celInt .i64) (celApp (celInt .i64) (celApp (celInt .i64) (celApp (celInt .i64) (celApp (celInt .i64) (celApp (celInt .i64) (celApp (celInt .i64) (celApp (celInt .i64) (celInt .i64))))))))))))))))))))))))) (valsOne (valInt .i64)))) (⟨.exit 0, [1], (valsOne (valBox celConfig))⟩ : Way) (⟨.ret, [2], (valsOne (valInt .i64))⟩ : Way) (whileM T_config_Check_2)
set_option maxRecDepth 100000 in
theorem lok56_2 : LoopOK e56 65 l56_2 (fnLoop e56.P 56 2) :=
  loop2_ok (L := assocL []) (rounds := 20) (depth := 6) (ts := [1, 29, 30]) (v := (valsCons (valBox celConfig) (valsCons (valSt (celApp (celInt .i64) (celApp (celInt .i64) (celApp (celInt .i64) (celApp (celInt .i64) (celApp (celInt .i64) (celApp (celInt .i64) (celApp (celInt .i64) (celApp (celInt .i64) (celApp (celInt .i64) (celApp (celInt .i64) (celApp (celInt .i64) (celApp (celInt .i64) (celApp (celInt .i64) (celApp (celInt .i64) (celApp (celInt .i64) (celApp (celInt .i64) (celApp (celInt .i64) (celApp (celInt .i64) (celApp (celInt .i64) (celApp (celInt .i64) (celApp (celInt .i64) (celApp (celInt .i64) (celApp (celInt .i64) (celInt .i64))))))))))))))))))))))))) (valsOne (valInt .i64))))) (a := ⟨.exit 0, [1], (valsOne (valBox celConfig))⟩) (b := ⟨.ret, [2], (valsOne (valInt .i64))⟩) (step := T_config_Check_2) g56 rfl rfl loops_inNil (fun x => by kernel_rfl)
noncomputable def s56 : Spec := mkSpec (valsOne (valSt celConfig)) (resOne (valInt .i64)) C_config_Check
set_option maxRecDepth 100000 in
theorem ok56 : SpecOK Tryz.prog 56 s56 :=
  mkSpec_ok (V := e56) (L := (assocL [(2, l56_2)])) (rounds := 20) (depth := 6) g56 (loops_fn (nt := 65) (by kernel_rfl) (ntB_ok (by kernel_rfl)) (loopsOK_cons lok56_2 loopsOK_nil)) (fun x => by kernel_rfl)

/- millstream/script.All -/
noncomputable def e51 : Env := env1 [(56, s56), (61, s61)]
theorem g51 : GoodEnv e51 := goodEnv mix1 ent1 (goods_cons ok56 rfl (goods_cons ok61 rfl goods_nil))
noncomputable def l51_7 : LSpec := loop2 [2, 18, 19, 20] (valsCons (valBox celConfig) (valsCons (valLst .sentry) (valsCons (valInt .i64) (valsOne (valInt .i64))))) (⟨.exit 0, [], valsNil⟩ : Way) (⟨.ret, [4, 5], (valsCons (valInt .i64) (valsOne (valInt .i64)))⟩ : Way) (whileM T_script_All_7)
set_option maxRecDepth 100000 in
theorem lok51_7 : LoopOK e51 33 l51_7 (fnLoop e51.P 51 7) :=
  loop2_ok (L := assocL []) (rounds := 20) (depth := 6) (ts := [2, 18, 19, 20]) (v := (valsCons (valBox celConfig) (valsCons (valLst .sentry) (valsCons (valInt .i64) (valsOne (valInt .i64)))))) (a := ⟨.exit 0, [], valsNil⟩) (b := ⟨.ret, [4, 5], (valsCons (valInt .i64) (valsOne (valInt .i64)))⟩) (step := T_script_All_7) g51 rfl rfl loops_inNil (fun x => by kernel_rfl)
noncomputable def s51 : Spec := mkSpec (valsCons (valSt celConfig) (valsOne (valLst .sentry))) (resTup (valsCons (valInt .i64) (valsOne (valInt .i64)))) C_script_All
set_option maxRecDepth 100000 in
theorem ok51 : SpecOK Tryz.prog 51 s51 :=
  mkSpec_ok (V := e51) (L := (assocL [(7, l51_7)])) (rounds := 20) (depth := 6) g51 (loops_fn (nt := 33) (by kernel_rfl) (ntB_ok (by kernel_rfl)) (loopsOK_cons lok51_7 loopsOK_nil)) (fun x => by kernel_rfl)

/- millstream/arena.Nodes -/
noncomputable def e110 : Env := env1 []
theorem g110 : GoodEnv e110 := goodEnv mix1 ent1 goods_nil
noncomputable def s110 : Spec := mkSpec (valsOne (valSt celConfig)) (resOne (valInt .i64)) C_arena_Nodes
set_option maxRecDepth 100000 in
theorem ok110 : SpecOK Tryz.prog 110 s110 :=
  mkSpec_ok (V := e110) (L := nL) (rounds := 20) (depth := 6) g110 loops_none (fun x => by kernel_rfl)

/- millstream/arena.of -/
noncomputable def e94 : Env := env1 [(110, s110)]
theorem g94 : GoodEnv e94 := goodEnv mix1 ent1 (goods_cons ok110 rfl goods_nil)
noncomputable def s94 : Spec := mkSpec (valsOne (valSt celConfig)) (resOne (valSt celPlan)) C_arena_of
set_option maxRecDepth 100000 in
theorem ok94 : SpecOK Tryz.prog 94 s94 :=
  mkSpec_ok (V := e94) (L := nL) (rounds := 20) (depth := 6) g94 loops_none (fun x => by kernel_rfl)

/- millstream/arena.Cell -/
noncomputable def e71 : Env := env1 [(94, s94)]
theorem g71 : GoodEnv e71 := goodEnv mix1 ent1 (goods_cons ok94 rfl goods_nil)
noncomputable def s71 : Spec := mkSpec (valsCons (valSt celConfig) (valsOne (valInt .i64))) (resOne (valInt .i64)) C_arena_Cell
set_option maxRecDepth 100000 in
theorem ok71 : SpecOK Tryz.prog 71 s71 :=
  mkSpec_ok (V := e71) (L := nL) (rounds := 20) (depth := 6) g71 loops_none (fun x => by kernel_rfl)

/- millstream/wmem.made[int] -/
noncomputable def e103 : Env := env1 []
theorem g103 : GoodEnv e103 := goodEnv mix1 ent1 goods_nil
noncomputable def s103 : Spec := mkSpec (valsOne (valInt .i64)) (resOne (valOwn 3 .int)) C_wmem_made_int
set_option maxRecDepth 100000 in
theorem ok103 : SpecOK Tryz.prog 103 s103 :=
  mkSpec_ok (V := e103) (L := nL) (rounds := 20) (depth := 6) g103 loops_none (fun x => by kernel_rfl)

/- millstream/wmem.made[[]millstream/batch.Entry] -/
noncomputable def e104 : Env := env1 []
theorem g104 : GoodEnv e104 := goodEnv mix1 ent1 goods_nil
noncomputable def s104 : Spec := mkSpec (valsOne (valInt .i64)) (resOne (valOwn 54 (.lst .entry))) C_wmem_made_lbatch_Entry
set_option maxRecDepth 100000 in
theorem ok104 : SpecOK Tryz.prog 104 s104 :=
  mkSpec_ok (V := e104) (L := nL) (rounds := 20) (depth := 6) g104 loops_none (fun x => by kernel_rfl)

/- millstream/wmem.New -/
noncomputable def e80 : Env := env1 [(103, s103), (104, s104)]
theorem g80 : GoodEnv e80 := goodEnv mix1 ent1 (goods_cons ok103 rfl (goods_cons ok104 rfl goods_nil))
noncomputable def s80 : Spec := mkSpec (valsCons (valInt .i64) (valsOne (valInt .i64))) (resOne (valSt (celAs (celApp (celOwn 3 .int) (celOwn 54 (.lst .entry))) Memo (fun y => ⟨y.1, y.2⟩) (fun x => (x.words, x.boxes)) (fun _ => rfl)))) C_wmem_New
set_option maxRecDepth 100000 in
theorem ok80 : SpecOK Tryz.prog 80 s80 :=
  mkSpec_ok (V := e80) (L := nL) (rounds := 20) (depth := 6) g80 loops_none (fun x => by kernel_rfl)

/- millstream/arena.Size -/
noncomputable def e81 : Env := env1 [(94, s94)]
theorem g81 : GoodEnv e81 := goodEnv mix1 ent1 (goods_cons ok94 rfl goods_nil)
noncomputable def s81 : Spec := mkSpec (valsOne (valSt celConfig)) (resOne (valInt .i64)) C_arena_Size
set_option maxRecDepth 100000 in
theorem ok81 : SpecOK Tryz.prog 81 s81 :=
  mkSpec_ok (V := e81) (L := nL) (rounds := 20) (depth := 6) g81 loops_none (fun x => by kernel_rfl)

/- millstream/arena.Build -/
noncomputable def e57 : Env := env1 [(71, s71), (80, s80), (81, s81)]
theorem g57 : GoodEnv e57 := goodEnv mix1 ent1 (goods_cons ok71 rfl (goods_cons ok80 rfl (goods_cons ok81 rfl goods_nil)))
noncomputable def l57_3 : LSpec := loop1 [1, 2, 3, 11, 12] (valsCons (valBox celConfig) (valsCons (valBox celMemo) (valsCons (valBox (celAs (celApp (celOwn 3 .int) (celOwn 54 (.lst .entry))) Memo (fun y => ⟨y.1, y.2⟩) (fun x => (x.words, x.boxes)) (fun _ => rfl))) (valsCons (valInt .i64) (valsOne (valInt .i64)))))) (⟨.exit 0, [2, 3], (valsCons (valBox celMemo) (valsOne (valBox (celAs (celApp (celOwn 3 .int) (celOwn 54 (.lst .entry))) Memo (fun y => ⟨y.1, y.2⟩) (fun x => (x.words, x.boxes)) (fun _ => rfl)))))⟩ : Way) (whileM T_arena_Build_3)
set_option maxRecDepth 100000 in
theorem lok57_3 : LoopOK e57 25 l57_3 (fnLoop e57.P 57 3) :=
  loop1_ok (L := assocL []) (rounds := 20) (depth := 6) (ts := [1, 2, 3, 11, 12]) (v := (valsCons (valBox celConfig) (valsCons (valBox celMemo) (valsCons (valBox (celAs (celApp (celOwn 3 .int) (celOwn 54 (.lst .entry))) Memo (fun y => ⟨y.1, y.2⟩) (fun x => (x.words, x.boxes)) (fun _ => rfl))) (valsCons (valInt .i64) (valsOne (valInt .i64))))))) (a := ⟨.exit 0, [2, 3], (valsCons (valBox celMemo) (valsOne (valBox (celAs (celApp (celOwn 3 .int) (celOwn 54 (.lst .entry))) Memo (fun y => ⟨y.1, y.2⟩) (fun x => (x.words, x.boxes)) (fun _ => rfl)))))⟩) (step := T_arena_Build_3) g57 rfl loops_inNil (fun x => by kernel_rfl)
noncomputable def s57 : Spec := mkSpec (valsOne (valSt celConfig)) (resOne (valSt (celAs (celApp (celOwn 3 .int) (celOwn 54 (.lst .entry))) Memo (fun y => ⟨y.1, y.2⟩) (fun x => (x.words, x.boxes)) (fun _ => rfl)))) C_arena_Build
set_option maxRecDepth 100000 in
theorem ok57 : SpecOK Tryz.prog 57 s57 :=
  mkSpec_ok (V := e57) (L := (assocL [(3, l57_3)])) (rounds := 20) (depth := 6) g57 (loops_fn (nt := 25) (by kernel_rfl) (ntB_ok (by kernel_rfl)) (loopsOK_cons lok57_3 loopsOK_nil)) (fun x => by kernel_rfl)

/- millstream/thread.New -/
noncomputable def e59 : Env := env1 []
theorem g59 : GoodEnv e59 := goodEnv mix1 ent1 goods_nil
noncomputable def s59 : Spec := mkSpec valsNil (resOne (valSt celThread)) C_thread_New
set_option maxRecDepth 100000 in
theorem ok59 : SpecOK Tryz.prog 59 s59 :=
  mkSpec_ok (V := e59) (L := nL) (rounds := 20) (depth := 6) g59 loops_none (fun x => by kernel_rfl)

/- slices.Clone[[]int,int] -/
noncomputable def e60 : Env := env1 []
theorem g60 : GoodEnv e60 := goodEnv mix1 ent1 goods_nil
noncomputable def s60 : Spec := mkSpec (valsOne (valLst .int)) (resOne (valOwn 3 .int)) C_slices_Clone_int
set_option maxRecDepth 100000 in
theorem ok60 : SpecOK Tryz.prog 60 s60 :=
  spec_nil (V := e60) (L := nL) (rounds := 20) (depth := 6) (r := (resOne (valOwn 3 .int))) g60 loops_none (by kernel_rfl) (fun x => by kernel_rfl)

/- millstream/script.size -/
noncomputable def e64 : Env := env1 []
theorem g64 : GoodEnv e64 := goodEnv mix1 ent1 goods_nil
noncomputable def s64 : Spec := mkSpec (valsOne (valInt .i64)) (resOne (valInt .i64)) C_script_size
set_option maxRecDepth 100000 in
theorem ok64 : SpecOK Tryz.prog 64 s64 :=
  mkSpec_ok (V := e64) (L := nL) (rounds := 20) (depth := 6) g64 loops_none (fun x => by kernel_rfl)

/- millstream/wmem.at[int] -/
noncomputable def e91 : Env := env1 []
theorem g91 : GoodEnv e91 := goodEnv mix1 ent1 goods_nil
noncomputable def s91 : Spec := mkSpec (valsCons (valLst .int) (valsOne (valInt .i64))) (resTup (valsCons (valInt .i64) (valsOne (valInt .i64)))) C_wmem_at_int
set_option maxRecDepth 100000 in
theorem ok91 : SpecOK Tryz.prog 91 s91 :=
  mkSpec_ok (V := e91) (L := nL) (rounds := 20) (depth := 6) g91 loops_none (fun x => by kernel_rfl)

/- millstream/wmem.Load -/
noncomputable def e70 : Env := env1 [(91, s91)]
theorem g70 : GoodEnv e70 := goodEnv mix1 ent1 (goods_cons ok91 rfl goods_nil)
noncomputable def s70 : Spec := mkSpec (valsCons (valSt celMemo) (valsOne (valInt .i64))) (resTup (valsCons (valInt .i64) (valsOne (valInt .i64)))) C_wmem_Load
set_option maxRecDepth 100000 in
theorem ok70 : SpecOK Tryz.prog 70 s70 :=
  mkSpec_ok (V := e70) (L := nL) (rounds := 20) (depth := 6) g70 loops_none (fun x => by kernel_rfl)

/- math/bits.Mul64 -/
noncomputable def e106 : Env := env1 []
theorem g106 : GoodEnv e106 := goodEnv mix1 ent1 goods_nil
noncomputable def s106 : Spec := mkSpec (valsCons (valInt .u64) (valsOne (valInt .u64))) (resTup (valsCons (valInt .u64) (valsOne (valInt .u64)))) C_math_bits_Mul64
set_option maxRecDepth 100000 in
theorem ok106 : SpecOK Tryz.prog 106 s106 :=
  mkSpec_ok (V := e106) (L := nL) (rounds := 20) (depth := 6) g106 loops_none (fun x => by kernel_rfl)

/- math/bits.Mul -/
noncomputable def e82 : Env := env1 [(106, s106)]
theorem g82 : GoodEnv e82 := goodEnv mix1 ent1 (goods_cons ok106 rfl goods_nil)
noncomputable def s82 : Spec := mkSpec (valsCons (valInt .u64) (valsOne (valInt .u64))) (resTup (valsCons (valInt .u64) (valsOne (valInt .u64)))) C_math_bits_Mul
set_option maxRecDepth 100000 in
theorem ok82 : SpecOK Tryz.prog 82 s82 :=
  mkSpec_ok (V := e82) (L := nL) (rounds := 20) (depth := 6) g82 loops_none (fun x => by kernel_rfl)

/- millstream/oper.beyond -/
noncomputable def e109 : Env := env1 []
theorem g109 : GoodEnv e109 := goodEnv mix1 ent1 goods_nil
noncomputable def s109 : Spec := mkSpec (valsCons (valInt .i64) (valsCons (valInt .i64) (valsCons (valInt .i64) (valsOne (valInt .i64))))) (resOne (valBool)) C_oper_beyond
set_option maxRecDepth 100000 in
theorem ok109 : SpecOK Tryz.prog 109 s109 :=
  mkSpec_ok (V := e109) (L := nL) (rounds := 20) (depth := 6) g109 loops_none (fun x => by kernel_rfl)

/- millstream/oper.Apply -/
noncomputable def e90 : Env := env1 [(109, s109)]
theorem g90 : GoodEnv e90 := goodEnv mix1 ent1 (goods_cons ok109 rfl goods_nil)
noncomputable def s90 : Spec := mkSpec (valsCons (valSt celOp) (valsCons (valInt .i64) (valsCons (valInt .i64) (valsOne (valInt .i64))))) (resTup (valsCons (valInt .i64) (valsOne (valBool)))) C_oper_Apply
set_option maxRecDepth 100000 in
theorem ok90 : SpecOK Tryz.prog 90 s90 :=
  mkSpec_ok (V := e90) (L := nL) (rounds := 20) (depth := 6) g90 loops_none (fun x => by kernel_rfl)

/- millstream/wmem.Store -/
noncomputable def e120 : Env := env1 [(60, s60), (91, s91)]
theorem g120 : GoodEnv e120 := goodEnv mix1 ent1 (goods_cons ok60 rfl (goods_cons ok91 rfl goods_nil))
noncomputable def s120 : Spec := mkSpec (valsCons (valSt celMemo) (valsCons (valInt .i64) (valsOne (valInt .i64)))) (resTup (valsCons (valSt celMemo) (valsOne (valInt .i64)))) C_wmem_Store
set_option maxRecDepth 100000 in
theorem ok120 : SpecOK Tryz.prog 120 s120 :=
  mkSpec_ok (V := e120) (L := nL) (rounds := 20) (depth := 6) g120 loops_none (fun x => by kernel_rfl)

/- millstream/arena.Line -/
noncomputable def e121 : Env := env1 [(94, s94)]
theorem g121 : GoodEnv e121 := goodEnv mix1 ent1 (goods_cons ok94 rfl goods_nil)
noncomputable def s121 : Spec := mkSpec (valsCons (valSt celConfig) (valsOne (valInt .i64))) (resOne (valInt .i64)) C_arena_Line
set_option maxRecDepth 100000 in
theorem ok121 : SpecOK Tryz.prog 121 s121 :=
  mkSpec_ok (V := e121) (L := nL) (rounds := 20) (depth := 6) g121 loops_none (fun x => by kernel_rfl)

/- millstream/machine.Start -/
noncomputable def e122 : Env := env1 []
theorem g122 : GoodEnv e122 := goodEnv mix1 ent1 goods_nil
noncomputable def s122 : Spec := mkSpec (valsOne (valSt celTurn)) (resOne (valSt celTurn)) C_machine_Start
set_option maxRecDepth 100000 in
theorem ok122 : SpecOK Tryz.prog 122 s122 :=
  mkSpec_ok (V := e122) (L := nL) (rounds := 20) (depth := 6) g122 loops_none (fun x => by kernel_rfl)

/- millstream/machine.clear -/
noncomputable def e114 : Env := env1 [(120, s120), (121, s121), (122, s122)]
theorem g114 : GoodEnv e114 := goodEnv mix1 ent1 (goods_cons ok120 rfl (goods_cons ok121 rfl (goods_cons ok122 rfl goods_nil)))
noncomputable def s114 : Spec := mkSpec (valsOne (valSt celTurn)) (resTup (valsCons (valSt celTurn) (valsOne (valBool)))) C_machine_clear
set_option maxRecDepth 100000 in
theorem ok114 : SpecOK Tryz.prog 114 s114 :=
  mkSpec_ok (V := e114) (L := nL) (rounds := 20) (depth := 6) g114 loops_none (fun x => by kernel_rfl)

/- millstream/arena.Node -/
noncomputable def e131 : Env := env1 [(94, s94), (110, s110)]
theorem g131 : GoodEnv e131 := goodEnv mix1 ent1 (goods_cons ok94 rfl (goods_cons ok110 rfl goods_nil))
noncomputable def s131 : Spec := mkSpec (valsCons (valSt celConfig) (valsCons (valInt .i64) (valsOne (valInt .i64)))) (resOne (valInt .i64)) C_arena_Node
set_option maxRecDepth 100000 in
theorem ok131 : SpecOK Tryz.prog 131 s131 :=
  mkSpec_ok (V := e131) (L := nL) (rounds := 20) (depth := 6) g131 loops_none (fun x => by kernel_rfl)

/- (millstream/code.said).word -/
noncomputable def e156 : Env := env1 []
theorem g156 : GoodEnv e156 := goodEnv mix1 ent1 goods_nil
noncomputable def s156 : Spec := mkSpec (valsOne (valSt celSaid)) (resOne (valInt .i64)) C_code_said_word
set_option maxRecDepth 100000 in
theorem ok156 : SpecOK Tryz.prog 156 s156 :=
  mkSpec_ok (V := e156) (L := nL) (rounds := 20) (depth := 6) g156 loops_none (fun x => by kernel_rfl)

/- millstream/code.First -/
noncomputable def e132 : Env := env1 [(156, s156)]
theorem g132 : GoodEnv e132 := goodEnv mix1 ent1 (goods_cons ok156 rfl goods_nil)
noncomputable def s132 : Spec := mkSpec (valsOne (valInt .i64)) (resOne (valInt .i64)) C_code_First
set_option maxRecDepth 100000 in
theorem ok132 : SpecOK Tryz.prog 132 s132 :=
  mkSpec_ok (V := e132) (L := nL) (rounds := 20) (depth := 6) g132 loops_none (fun x => by kernel_rfl)

/- millstream/shape.Parent -/
noncomputable def e157 : Env := env1 []
theorem g157 : GoodEnv e157 := goodEnv mix1 ent1 goods_nil
noncomputable def s157 : Spec := mkSpec (valsOne (valInt .i64)) (resOne (valInt .i64)) C_shape_Parent
set_option maxRecDepth 100000 in
theorem ok157 : SpecOK Tryz.prog 157 s157 :=
  mkSpec_ok (V := e157) (L := nL) (rounds := 20) (depth := 6) g157 loops_none (fun x => by kernel_rfl)

/- millstream/climb.Down -/
noncomputable def e174 : Env := env1 []
theorem g174 : GoodEnv e174 := goodEnv mix1 ent1 goods_nil
noncomputable def s174 : Spec := mkSpec (valsOne (valSt celTurn)) (resOne (valSt celTurn)) C_climb_Down
set_option maxRecDepth 100000 in
theorem ok174 : SpecOK Tryz.prog 174 s174 :=
  mkSpec_ok (V := e174) (L := nL) (rounds := 20) (depth := 6) g174 loops_none (fun x => by kernel_rfl)

/- millstream/climb.over -/
noncomputable def e158 : Env := env1 [(174, s174)]
theorem g158 : GoodEnv e158 := goodEnv mix1 ent1 (goods_cons ok174 rfl goods_nil)
noncomputable def s158 : Spec := mkSpec (valsOne (valSt celTurn)) (resOne (valSt celTurn)) C_climb_over
set_option maxRecDepth 100000 in
theorem ok158 : SpecOK Tryz.prog 158 s158 :=
  mkSpec_ok (V := e158) (L := nL) (rounds := 20) (depth := 6) g158 loops_none (fun x => by kernel_rfl)

/- millstream/climb.taken -/
noncomputable def e133 : Env := env1 [(60, s60), (157, s157), (158, s158)]
theorem g133 : GoodEnv e133 := goodEnv mix1 ent1 (goods_cons ok60 rfl (goods_cons ok157 rfl (goods_cons ok158 rfl goods_nil)))
noncomputable def s133 : Spec := mkSpec (valsOne (valSt celTurn)) (resOne (valSt celTurn)) C_climb_taken
set_option maxRecDepth 100000 in
theorem ok133 : SpecOK Tryz.prog 133 s133 :=
  mkSpec_ok (V := e133) (L := nL) (rounds := 20) (depth := 6) g133 loops_none (fun x => by kernel_rfl)

/- millstream/wmem.Cas -/
noncomputable def e135 : Env := env1 [(60, s60), (91, s91)]
theorem g135 : GoodEnv e135 := goodEnv mix1 ent1 (goods_cons ok60 rfl (goods_cons ok91 rfl goods_nil))
noncomputable def s135 : Spec := mkSpec (valsCons (valSt celMemo) (valsCons (valInt .i64) (valsCons (valInt .i64) (valsOne (valInt .i64))))) (resTup (valsCons (valSt celMemo) (valsCons (valBool) (valsOne (valInt .i64))))) C_wmem_Cas
set_option maxRecDepth 100000 in
theorem ok135 : SpecOK Tryz.prog 135 s135 :=
  mkSpec_ok (V := e135) (L := nL) (rounds := 20) (depth := 6) g135 loops_none (fun x => by kernel_rfl)

/- millstream/thread.Late -/
noncomputable def e153 : Env := env1 []
theorem g153 : GoodEnv e153 := goodEnv mix1 ent1 goods_nil
noncomputable def s153 : Spec := mkSpec (valsOne (valSt celTurn)) (resOne (valBool)) C_thread_Late
set_option maxRecDepth 100000 in
theorem ok153 : SpecOK Tryz.prog 153 s153 :=
  mkSpec_ok (V := e153) (L := nL) (rounds := 20) (depth := 6) g153 loops_none (fun x => by kernel_rfl)

/- millstream/code.of -/
noncomputable def e175 : Env := env1 []
theorem g175 : GoodEnv e175 := goodEnv mix1 ent1 goods_nil
noncomputable def s175 : Spec := mkSpec (valsOne (valInt .i64)) (resOne (valSt celSaid)) C_code_of
set_option maxRecDepth 100000 in
theorem ok175 : SpecOK Tryz.prog 175 s175 :=
  mkSpec_ok (V := e175) (L := nL) (rounds := 20) (depth := 6) g175 loops_none (fun x => by kernel_rfl)

/- millstream/code.Kind -/
noncomputable def e160 : Env := env1 [(175, s175)]
theorem g160 : GoodEnv e160 := goodEnv mix1 ent1 (goods_cons ok175 rfl goods_nil)
noncomputable def s160 : Spec := mkSpec (valsOne (valInt .i64)) (resOne (valInt .i64)) C_code_Kind
set_option maxRecDepth 100000 in
theorem ok160 : SpecOK Tryz.prog 160 s160 :=
  mkSpec_ok (V := e160) (L := nL) (rounds := 20) (depth := 6) g160 loops_none (fun x => by kernel_rfl)

/- millstream/climb.look -/
noncomputable def e136 : Env := env1 [(153, s153), (158, s158), (160, s160)]
theorem g136 : GoodEnv e136 := goodEnv mix1 ent1 (goods_cons ok153 rfl (goods_cons ok158 rfl (goods_cons ok160 rfl goods_nil)))
noncomputable def s136 : Spec := mkSpec (valsCons (valSt celTurn) (valsOne (valInt .i64))) (resOne (valSt celTurn)) C_climb_look
set_option maxRecDepth 100000 in
theorem ok136 : SpecOK Tryz.prog 136 s136 :=
  mkSpec_ok (V := e136) (L := nL) (rounds := 20) (depth := 6) g136 loops_none (fun x => by kernel_rfl)

/- millstream/code.Joined -/
noncomputable def e137 : Env := env1 [(156, s156)]
theorem g137 : GoodEnv e137 := goodEnv mix1 ent1 (goods_cons ok156 rfl goods_nil)
noncomputable def s137 : Spec := mkSpec (valsOne (valInt .i64)) (resOne (valInt .i64)) C_code_Joined
set_option maxRecDepth 100000 in
theorem ok137 : SpecOK Tryz.prog 137 s137 :=
  mkSpec_ok (V := e137) (L := nL) (rounds := 20) (depth := 6) g137 loops_none (fun x => by kernel_rfl)

/- millstream/climb.joined -/
noncomputable def e138 : Env := env1 [(158, s158)]
theorem g138 : GoodEnv e138 := goodEnv mix1 ent1 (goods_cons ok158 rfl goods_nil)
noncomputable def s138 : Spec := mkSpec (valsOne (valSt celTurn)) (resOne (valSt celTurn)) C_climb_joined
set_option maxRecDepth 100000 in
theorem ok138 : SpecOK Tryz.prog 138 s138 :=
  mkSpec_ok (V := e138) (L := nL) (rounds := 20) (depth := 6) g138 loops_none (fun x => by kernel_rfl)

/- millstream/climb.Step -/
noncomputable def e117 : Env := env1 [(70, s70), (131, s131), (132, s132), (133, s133), (135, s135), (136, s136), (137, s137), (138, s138)]
theorem g117 : GoodEnv e117 := goodEnv mix1 ent1 (goods_cons ok70 rfl (goods_cons ok131 rfl (goods_cons ok132 rfl (goods_cons ok133 rfl (goods_cons ok135 rfl (goods_cons ok136 rfl (goods_cons ok137 rfl (goods_cons ok138 rfl goods_nil))))))))
noncomputable def s117 : Spec := mkSpec (valsOne (valSt celTurn)) (resTup (valsCons (valSt celTurn) (valsOne (valBool)))) C_climb_Step
set_option maxRecDepth 100000 in
theorem ok117 : SpecOK Tryz.prog 117 s117 :=
  mkSpec_ok (V := e117) (L := nL) (rounds := 20) (depth := 6) g117 loops_none (fun x => by kernel_rfl)

/- millstream/gather.held -/
noncomputable def e176 : Env := env1 [(131, s131)]
theorem g176 : GoodEnv e176 := goodEnv mix1 ent1 (goods_cons ok131 rfl goods_nil)
noncomputable def s176 : Spec := mkSpec (valsOne (valSt celTurn)) (resOne (valInt .i64)) C_gather_held
set_option maxRecDepth 100000 in
theorem ok176 : SpecOK Tryz.prog 176 s176 :=
  mkSpec_ok (V := e176) (L := nL) (rounds := 20) (depth := 6) g176 loops_none (fun x => by kernel_rfl)

/- millstream/code.Who -/
noncomputable def e177 : Env := env1 [(175, s175)]
theorem g177 : GoodEnv e177 := goodEnv mix1 ent1 (goods_cons ok175 rfl goods_nil)
noncomputable def s177 : Spec := mkSpec (valsOne (valInt .i64)) (resOne (valInt .i64)) C_code_Who
set_option maxRecDepth 100000 in
theorem ok177 : SpecOK Tryz.prog 177 s177 :=
  mkSpec_ok (V := e177) (L := nL) (rounds := 20) (depth := 6) g177 loops_none (fun x => by kernel_rfl)

/- millstream/gather.look -/
noncomputable def e161 : Env := env1 [(70, s70), (132, s132), (160, s160), (176, s176), (177, s177)]
theorem g161 : GoodEnv e161 := goodEnv mix1 ent1 (goods_cons ok70 rfl (goods_cons ok132 rfl (goods_cons ok160 rfl (goods_cons ok176 rfl (goods_cons ok177 rfl goods_nil)))))
noncomputable def s161 : Spec := mkSpec (valsOne (valSt celTurn)) (resOne (valSt celTurn)) C_gather_look
set_option maxRecDepth 100000 in
theorem ok161 : SpecOK Tryz.prog 161 s161 :=
  mkSpec_ok (V := e161) (L := nL) (rounds := 20) (depth := 6) g161 loops_none (fun x => by kernel_rfl)

/- millstream/gather.next -/
noncomputable def e180 : Env := env1 [(174, s174)]
theorem g180 : GoodEnv e180 := goodEnv mix1 ent1 (goods_cons ok174 rfl goods_nil)
noncomputable def s180 : Spec := mkSpec (valsOne (valSt celTurn)) (resOne (valSt celTurn)) C_gather_next
set_option maxRecDepth 100000 in
theorem ok180 : SpecOK Tryz.prog 180 s180 :=
  mkSpec_ok (V := e180) (L := nL) (rounds := 20) (depth := 6) g180 loops_none (fun x => by kernel_rfl)

/- millstream/gather.shut -/
noncomputable def e162 : Env := env1 [(132, s132), (135, s135), (176, s176), (180, s180)]
theorem g162 : GoodEnv e162 := goodEnv mix1 ent1 (goods_cons ok132 rfl (goods_cons ok135 rfl (goods_cons ok176 rfl (goods_cons ok180 rfl goods_nil))))
noncomputable def s162 : Spec := mkSpec (valsOne (valSt celTurn)) (resOne (valSt celTurn)) C_gather_shut
set_option maxRecDepth 100000 in
theorem ok162 : SpecOK Tryz.prog 162 s162 :=
  mkSpec_ok (V := e162) (L := nL) (rounds := 20) (depth := 6) g162 loops_none (fun x => by kernel_rfl)

/- slices.Clone[[]millstream/batch.Entry,millstream/batch.Entry] -/
noncomputable def e173 : Env := env1 []
theorem g173 : GoodEnv e173 := goodEnv mix1 ent1 goods_nil
noncomputable def s173 : Spec := mkSpec (valsOne (valLst .entry)) (resOne (valOwn 178 .entry)) C_slices_Clone_batch_Entry
set_option maxRecDepth 100000 in
theorem ok173 : SpecOK Tryz.prog 173 s173 :=
  spec_nil (V := e173) (L := nL) (rounds := 20) (depth := 6) (r := (resOne (valOwn 178 .entry))) g173 loops_none (by kernel_rfl) (fun x => by kernel_rfl)

/- millstream/wmem.at[[]millstream/batch.Entry] -/
noncomputable def e191 : Env := env1 []
theorem g191 : GoodEnv e191 := goodEnv mix1 ent1 goods_nil
noncomputable def s191 : Spec := mkSpec (valsCons (valLst (.lst .entry)) (valsOne (valInt .i64))) (resTup (valsCons (valLst .entry) (valsOne (valInt .i64)))) C_wmem_at_lbatch_Entry
set_option maxRecDepth 100000 in
theorem ok191 : SpecOK Tryz.prog 191 s191 :=
  mkSpec_ok (V := e191) (L := nL) (rounds := 20) (depth := 6) g191 loops_none (fun x => by kernel_rfl)

/- millstream/wmem.Box -/
noncomputable def e181 : Env := env1 [(173, s173), (191, s191)]
theorem g181 : GoodEnv e181 := goodEnv mix1 ent1 (goods_cons ok173 rfl (goods_cons ok191 rfl goods_nil))
noncomputable def s181 : Spec := mkSpec (valsCons (valSt celMemo) (valsOne (valInt .i64))) (resTup (valsCons (valLst .entry) (valsOne (valInt .i64)))) C_wmem_Box
set_option maxRecDepth 100000 in
theorem ok181 : SpecOK Tryz.prog 181 s181 :=
  mkSpec_ok (V := e181) (L := nL) (rounds := 20) (depth := 6) g181 loops_none (fun x => by kernel_rfl)

/- slices.Grow[[]millstream/thread.Kid,millstream/thread.Kid] -/
noncomputable def e200 : Env := env1m []
theorem g200 : GoodEnv e200 := goodEnv mix1 ent1 goods_nil
noncomputable def s200 : Spec := mkSpec (valsCons (valNil) (valsOne (valInt .i64))) (resOne (valOwn 216 .kid)) C_slices_Grow_thread_Kid
set_option maxRecDepth 100000 in
theorem ok200 : SpecOK Tryz.prog 200 s200 :=
  mkSpec_ok (V := e200) (L := nL) (rounds := 20) (depth := 6) g200 loops_none (fun x => by kernel_rfl)

/- slices.Concat[[]millstream/thread.Kid,millstream/thread.Kid] -/
noncomputable def e192 : Env := env1 [(200, s200)]
theorem g192 : GoodEnv e192 := goodEnv mix1 ent1 (goods_cons ok200 rfl goods_nil)
noncomputable def l192_11 : LSpec := loop1 [6, 25, 26, 27] (valsCons (valOwn 216 .kid) (valsCons (valLst (.lst .kid)) (valsCons (valInt .i64) (valsOne (valInt .i64))))) (⟨.exit 2, [6], (valsOne (valOwn 216 .kid))⟩ : Way) (whileM T_slices_Concat_thread_Kid_11)
set_option maxRecDepth 100000 in
theorem lok192_11 : LoopOK e192 36 l192_11 (fnLoop e192.P 192 11) :=
  loop1_ok (L := assocL []) (rounds := 20) (depth := 6) (ts := [6, 25, 26, 27]) (v := (valsCons (valOwn 216 .kid) (valsCons (valLst (.lst .kid)) (valsCons (valInt .i64) (valsOne (valInt .i64)))))) (a := ⟨.exit 2, [6], (valsOne (valOwn 216 .kid))⟩) (step := T_slices_Concat_thread_Kid_11) g192 rfl loops_inNil (fun x => by kernel_rfl)
noncomputable def l192_3 : LSpec := loop1 [0, 3, 9, 10, 11] (valsCons (valLst (.lst .kid)) (valsCons (valInt .i64) (valsCons (valLst (.lst .kid)) (valsCons (valInt .i64) (valsOne (valInt .i64)))))) (⟨.exit 0, [0, 3], (valsCons (valLst (.lst .kid)) (valsOne (valInt .i64)))⟩ : Way) (whileM T_slices_Concat_thread_Kid_3)
set_option maxRecDepth 100000 in
theorem lok192_3 : LoopOK e192 36 l192_3 (fnLoop e192.P 192 3) :=
  loop1_ok (L := assocL []) (rounds := 20) (depth := 6) (ts := [0, 3, 9, 10, 11]) (v := (valsCons (valLst (.lst .kid)) (valsCons (valInt .i64) (valsCons (valLst (.lst .kid)) (valsCons (valInt .i64) (valsOne (valInt .i64))))))) (a := ⟨.exit 0, [0, 3], (valsCons (valLst (.lst .kid)) (valsOne (valInt .i64)))⟩) (step := T_slices_Concat_thread_Kid_3) g192 rfl loops_inNil (fun x => by kernel_rfl)
noncomputable def s192 : Spec := mkSpec (valsOne (valLst (.lst .kid))) (resOne (valOwn 216 .kid)) C_slices_Concat_thread_Kid
set_option maxRecDepth 100000 in
theorem ok192 : SpecOK Tryz.prog 192 s192 :=
  mkSpec_ok (V := e192) (L := (assocL [(11, l192_11), (3, l192_3)])) (rounds := 20) (depth := 6) g192 (loops_fn (nt := 36) (by kernel_rfl) (ntB_ok (by kernel_rfl)) (loopsOK_cons lok192_11 (loopsOK_cons lok192_3 loopsOK_nil))) (fun x => by kernel_rfl)

/- slices.Grow[[]millstream/batch.Entry,millstream/batch.Entry] -/
noncomputable def e203 : Env := env1m []
theorem g203 : GoodEnv e203 := goodEnv mix1 ent1 goods_nil
noncomputable def s203 : Spec := mkSpec (valsCons (valNil) (valsOne (valInt .i64))) (resOne (valOwn 178 .entry)) C_slices_Grow_batch_Entry
set_option maxRecDepth 100000 in
theorem ok203 : SpecOK Tryz.prog 203 s203 :=
  mkSpec_ok (V := e203) (L := nL) (rounds := 20) (depth := 6) g203 loops_none (fun x => by kernel_rfl)

/- slices.Concat[[]millstream/batch.Entry,millstream/batch.Entry] -/
noncomputable def e201 : Env := env1 [(203, s203)]
theorem g201 : GoodEnv e201 := goodEnv mix1 ent1 (goods_cons ok203 rfl goods_nil)
noncomputable def l201_11 : LSpec := loop1 [6, 25, 26, 27] (valsCons (valOwn 178 .entry) (valsCons (valLst (.lst .entry)) (valsCons (valInt .i64) (valsOne (valInt .i64))))) (⟨.exit 2, [6], (valsOne (valOwn 178 .entry))⟩ : Way) (whileM T_slices_Concat_batch_Entry_11)
set_option maxRecDepth 100000 in
theorem lok201_11 : LoopOK e201 36 l201_11 (fnLoop e201.P 201 11) :=
  loop1_ok (L := assocL []) (rounds := 20) (depth := 6) (ts := [6, 25, 26, 27]) (v := (valsCons (valOwn 178 .entry) (valsCons (valLst (.lst .entry)) (valsCons (valInt .i64) (valsOne (valInt .i64)))))) (a := ⟨.exit 2, [6], (valsOne (valOwn 178 .entry))⟩) (step := T_slices_Concat_batch_Entry_11) g201 rfl loops_inNil (fun x => by kernel_rfl)
noncomputable def l201_3 : LSpec := loop1 [0, 3, 9, 10, 11] (valsCons (valLst (.lst .entry)) (valsCons (valInt .i64) (valsCons (valLst (.lst .entry)) (valsCons (valInt .i64) (valsOne (valInt .i64)))))) (⟨.exit 0, [0, 3], (valsCons (valLst (.lst .entry)) (valsOne (valInt .i64)))⟩ : Way) (whileM T_slices_Concat_batch_Entry_3)
set_option maxRecDepth 100000 in
theorem lok201_3 : LoopOK e201 36 l201_3 (fnLoop e201.P 201 3) :=
  loop1_ok (L := assocL []) (rounds := 20) (depth := 6) (ts := [0, 3, 9, 10, 11]) (v := (valsCons (valLst (.lst .entry)) (valsCons (valInt .i64) (valsCons (valLst (.lst .entry)) (valsCons (valInt .i64) (valsOne (valInt .i64))))))) (a := ⟨.exit 0, [0, 3], (valsCons (valLst (.lst .entry)) (valsOne (valInt .i64)))⟩) (step := T_slices_Concat_batch_Entry_3) g201 rfl loops_inNil (fun x => by kernel_rfl)
noncomputable def s201 : Spec := mkSpec (valsOne (valLst (.lst .entry))) (resOne (valOwn 178 .entry)) C_slices_Concat_batch_Entry
set_option maxRecDepth 100000 in
theorem ok201 : SpecOK Tryz.prog 201 s201 :=
  mkSpec_ok (V := e201) (L := (assocL [(11, l201_11), (3, l201_3)])) (rounds := 20) (depth := 6) g201 (loops_fn (nt := 36) (by kernel_rfl) (ntB_ok (by kernel_rfl)) (loopsOK_cons lok201_11 (loopsOK_cons lok201_3 loopsOK_nil))) (fun x => by kernel_rfl)

/- millstream/batch.Join -/
noncomputable def e193 : Env := env1 [(201, s201)]
theorem g193 : GoodEnv e193 := goodEnv mix1 ent1 (goods_cons ok201 rfl goods_nil)
noncomputable def s193 : Spec := mkSpec (valsOne (valLst (.lst .entry))) (resOne (valLst .entry)) C_batch_Join
set_option maxRecDepth 100000 in
theorem ok193 : SpecOK Tryz.prog 193 s193 :=
  mkSpec_ok (V := e193) (L := nL) (rounds := 20) (depth := 6) g193 loops_none (fun x => by kernel_rfl)

/- millstream/gather.Take -/
noncomputable def e183 : Env := env1 [(192, s192), (193, s193)]
theorem g183 : GoodEnv e183 := goodEnv mix1 ent1 (goods_cons ok192 rfl (goods_cons ok193 rfl goods_nil))
noncomputable def s183 : Spec := mkSpec (valsCons (valSt celTurn) (valsCons (valInt .i64) (valsOne (valLst .entry)))) (resOne (valSt celTurn)) C_gather_Take
set_option maxRecDepth 100000 in
theorem ok183 : SpecOK Tryz.prog 183 s183 :=
  mkSpec_ok (V := e183) (L := nL) (rounds := 20) (depth := 6) g183 loops_none (fun x => by kernel_rfl)

/- millstream/gather.collect -/
noncomputable def e163 : Env := env1 [(181, s181), (183, s183)]
theorem g163 : GoodEnv e163 := goodEnv mix1 ent1 (goods_cons ok181 rfl (goods_cons ok183 rfl goods_nil))
noncomputable def s163 : Spec := mkSpec (valsOne (valSt celTurn)) (resOne (valSt celTurn)) C_gather_collect
set_option maxRecDepth 100000 in
theorem ok163 : SpecOK Tryz.prog 163 s163 :=
  mkSpec_ok (V := e163) (L := nL) (rounds := 20) (depth := 6) g163 loops_none (fun x => by kernel_rfl)

/- millstream/gather.free -/
noncomputable def e164 : Env := env1 [(120, s120), (176, s176), (180, s180)]
theorem g164 : GoodEnv e164 := goodEnv mix1 ent1 (goods_cons ok120 rfl (goods_cons ok176 rfl (goods_cons ok180 rfl goods_nil)))
noncomputable def s164 : Spec := mkSpec (valsOne (valSt celTurn)) (resOne (valSt celTurn)) C_gather_free
set_option maxRecDepth 100000 in
theorem ok164 : SpecOK Tryz.prog 164 s164 :=
  mkSpec_ok (V := e164) (L := nL) (rounds := 20) (depth := 6) g164 loops_none (fun x => by kernel_rfl)

/- slices.Clone[[][]millstream/batch.Entry,[]millstream/batch.Entry] -/
noncomputable def e194 : Env := env1 []
theorem g194 : GoodEnv e194 := goodEnv mix1 ent1 goods_nil
noncomputable def s194 : Spec := mkSpec (valsOne (valLst (.lst .entry))) (resOne (valOwn 54 (.lst .entry))) C_slices_Clone_lbatch_Entry
set_option maxRecDepth 100000 in
theorem ok194 : SpecOK Tryz.prog 194 s194 :=
  spec_nil (V := e194) (L := nL) (rounds := 20) (depth := 6) (r := (resOne (valOwn 54 (.lst .entry)))) g194 loops_none (by kernel_rfl) (fun x => by kernel_rfl)

/- millstream/wmem.Put -/
noncomputable def e184 : Env := env1 [(173, s173), (191, s191), (194, s194)]
theorem g184 : GoodEnv e184 := goodEnv mix1 ent1 (goods_cons ok173 rfl (goods_cons ok191 rfl (goods_cons ok194 rfl goods_nil)))
noncomputable def s184 : Spec := mkSpec (valsCons (valSt celMemo) (valsCons (valInt .i64) (valsOne (valLst .entry)))) (resTup (valsCons (valSt celMemo) (valsOne (valInt .i64)))) C_wmem_Put
set_option maxRecDepth 100000 in
theorem ok184 : SpecOK Tryz.prog 184 s184 :=
  mkSpec_ok (V := e184) (L := nL) (rounds := 20) (depth := 6) g184 loops_none (fun x => by kernel_rfl)

/- millstream/gather.publish -/
noncomputable def e165 : Env := env1 [(184, s184)]
theorem g165 : GoodEnv e165 := goodEnv mix1 ent1 (goods_cons ok184 rfl goods_nil)
noncomputable def s165 : Spec := mkSpec (valsOne (valSt celTurn)) (resOne (valSt celTurn)) C_gather_publish
set_option maxRecDepth 100000 in
theorem ok165 : SpecOK Tryz.prog 165 s165 :=
  mkSpec_ok (V := e165) (L := nL) (rounds := 20) (depth := 6) g165 loops_none (fun x => by kernel_rfl)

/- millstream/code.Deposited -/
noncomputable def e185 : Env := env1 [(156, s156)]
theorem g185 : GoodEnv e185 := goodEnv mix1 ent1 (goods_cons ok156 rfl goods_nil)
noncomputable def s185 : Spec := mkSpec (valsOne (valInt .i64)) (resOne (valInt .i64)) C_code_Deposited
set_option maxRecDepth 100000 in
theorem ok185 : SpecOK Tryz.prog 185 s185 :=
  mkSpec_ok (V := e185) (L := nL) (rounds := 20) (depth := 6) g185 loops_none (fun x => by kernel_rfl)

/- millstream/gather.deposit -/
noncomputable def e166 : Env := env1 [(120, s120), (131, s131), (185, s185)]
theorem g166 : GoodEnv e166 := goodEnv mix1 ent1 (goods_cons ok120 rfl (goods_cons ok131 rfl (goods_cons ok185 rfl goods_nil)))
noncomputable def s166 : Spec := mkSpec (valsOne (valSt celTurn)) (resOne (valSt celTurn)) C_gather_deposit
set_option maxRecDepth 100000 in
theorem ok166 : SpecOK Tryz.prog 166 s166 :=
  mkSpec_ok (V := e166) (L := nL) (rounds := 20) (depth := 6) g166 loops_none (fun x => by kernel_rfl)

/- millstream/gather.Step -/
noncomputable def e118 : Env := env1 [(161, s161), (162, s162), (163, s163), (164, s164), (165, s165), (166, s166)]
theorem g118 : GoodEnv e118 := goodEnv mix1 ent1 (goods_cons ok161 rfl (goods_cons ok162 rfl (goods_cons ok163 rfl (goods_cons ok164 rfl (goods_cons ok165 rfl (goods_cons ok166 rfl goods_nil))))))
noncomputable def s118 : Spec := mkSpec (valsOne (valSt celTurn)) (resTup (valsCons (valSt celTurn) (valsOne (valBool)))) C_gather_Step
set_option maxRecDepth 100000 in
theorem ok118 : SpecOK Tryz.prog 118 s118 :=
  mkSpec_ok (V := e118) (L := nL) (rounds := 20) (depth := 6) g118 loops_none (fun x => by kernel_rfl)

/- millstream/commit.Onward -/
noncomputable def e129 : Env := env1 [(153, s153)]
theorem g129 : GoodEnv e129 := goodEnv mix1 ent1 (goods_cons ok153 rfl goods_nil)
noncomputable def s129 : Spec := mkSpec (valsOne (valSt celTurn)) (resOne (valSt celTurn)) C_commit_Onward
set_option maxRecDepth 100000 in
theorem ok129 : SpecOK Tryz.prog 129 s129 :=
  mkSpec_ok (V := e129) (L := nL) (rounds := 20) (depth := 6) g129 loops_none (fun x => by kernel_rfl)

/- millstream/code.Open -/
noncomputable def e140 : Env := env1 [(156, s156)]
theorem g140 : GoodEnv e140 := goodEnv mix1 ent1 (goods_cons ok156 rfl goods_nil)
noncomputable def s140 : Spec := mkSpec (valsCons (valInt .i64) (valsOne (valInt .i64))) (resOne (valInt .i64)) C_code_Open
set_option maxRecDepth 100000 in
theorem ok140 : SpecOK Tryz.prog 140 s140 :=
  mkSpec_ok (V := e140) (L := nL) (rounds := 20) (depth := 6) g140 loops_none (fun x => by kernel_rfl)

/- (*millstream/collide.diver).line -/
noncomputable def e142 : Env := env1 [(121, s121)]
theorem g142 : GoodEnv e142 := goodEnv mix1 ent1 (goods_cons ok121 rfl goods_nil)
noncomputable def s142 : Spec := mkSpecL (valsCons (valPtr (celApp celTurn (celInt .i64))) (valsOne (valInt .i64))) (resOne (valInt .i64)) C_collide_diver_line
set_option maxRecDepth 100000 in
theorem ok142 : SpecOK Tryz.prog 142 s142 :=
  mkSpecL_ok (V := e142) (L := nL) (rounds := 20) (depth := 6) g142 loops_none (fun x => by kernel_rfl)

/- millstream/code.Told -/
noncomputable def e146 : Env := env1 [(156, s156)]
theorem g146 : GoodEnv e146 := goodEnv mix1 ent1 (goods_cons ok156 rfl goods_nil)
noncomputable def s146 : Spec := mkSpec valsNil (resOne (valInt .i64)) C_code_Told
set_option maxRecDepth 100000 in
theorem ok146 : SpecOK Tryz.prog 146 s146 :=
  mkSpec_ok (V := e146) (L := nL) (rounds := 20) (depth := 6) g146 loops_none (fun x => by kernel_rfl)

/- millstream/arena.Result -/
noncomputable def e147 : Env := env1 [(94, s94)]
theorem g147 : GoodEnv e147 := goodEnv mix1 ent1 (goods_cons ok94 rfl goods_nil)
noncomputable def s147 : Spec := mkSpec (valsCons (valSt celConfig) (valsOne (valInt .i64))) (resOne (valInt .i64)) C_arena_Result
set_option maxRecDepth 100000 in
theorem ok147 : SpecOK Tryz.prog 147 s147 :=
  mkSpec_ok (V := e147) (L := nL) (rounds := 20) (depth := 6) g147 loops_none (fun x => by kernel_rfl)

/- millstream/share.Settle -/
noncomputable def e148 : Env := env1 []
theorem g148 : GoodEnv e148 := goodEnv mix1 ent1 goods_nil
noncomputable def s148 : Spec := mkSpec (valsOne (valSt celTurn)) (resOne (valSt celTurn)) C_share_Settle
set_option maxRecDepth 100000 in
theorem ok148 : SpecOK Tryz.prog 148 s148 :=
  mkSpec_ok (V := e148) (L := nL) (rounds := 20) (depth := 6) g148 loops_none (fun x => by kernel_rfl)

/- millstream/batch.Upto -/
noncomputable def e151 : Env := env1 [(173, s173)]
theorem g151 : GoodEnv e151 := goodEnv mix1 ent1 (goods_cons ok173 rfl goods_nil)
noncomputable def s151 : Spec := mkSpec (valsCons (valLst .entry) (valsOne (valInt .i64))) (resOne (valLst .entry)) C_batch_Upto
set_option maxRecDepth 100000 in
theorem ok151 : SpecOK Tryz.prog 151 s151 :=
  mkSpec_ok (V := e151) (L := nL) (rounds := 20) (depth := 6) g151 loops_none (fun x => by kernel_rfl)

/- millstream/wmem.Swap -/
noncomputable def e187 : Env := env1 [(60, s60), (91, s91)]
theorem g187 : GoodEnv e187 := goodEnv mix1 ent1 (goods_cons ok60 rfl (goods_cons ok91 rfl goods_nil))
noncomputable def s187 : Spec := mkSpec (valsCons (valSt celMemo) (valsCons (valInt .i64) (valsOne (valInt .i64)))) (resTup (valsCons (valSt celMemo) (valsCons (valInt .i64) (valsOne (valInt .i64))))) C_wmem_Swap
set_option maxRecDepth 100000 in
theorem ok187 : SpecOK Tryz.prog 187 s187 :=
  mkSpec_ok (V := e187) (L := nL) (rounds := 20) (depth := 6) g187 loops_none (fun x => by kernel_rfl)

/- millstream/arena.Slot -/
noncomputable def e188 : Env := env1 [(94, s94)]
theorem g188 : GoodEnv e188 := goodEnv mix1 ent1 (goods_cons ok94 rfl goods_nil)
noncomputable def s188 : Spec := mkSpec (valsCons (valSt celConfig) (valsCons (valInt .i64) (valsCons (valInt .i64) (valsOne (valInt .i64))))) (resOne (valInt .i64)) C_arena_Slot
set_option maxRecDepth 100000 in
theorem ok188 : SpecOK Tryz.prog 188 s188 :=
  mkSpec_ok (V := e188) (L := nL) (rounds := 20) (depth := 6) g188 loops_none (fun x => by kernel_rfl)

/- millstream/tape.Left -/
noncomputable def e204 : Env := env1 []
theorem g204 : GoodEnv e204 := goodEnv mix1 ent1 goods_nil
noncomputable def s204 : Spec := mkSpec (valsOne (valSt celTape)) (resOne (valInt .i64)) C_tape_Left
set_option maxRecDepth 100000 in
theorem ok204 : SpecOK Tryz.prog 204 s204 :=
  mkSpec_ok (V := e204) (L := nL) (rounds := 20) (depth := 6) g204 loops_none (fun x => by kernel_rfl)

end Go.Proofs.Mill
