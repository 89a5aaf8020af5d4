/- The functions compute this. -/
import Derived.Test.YtecgogmolkjhjaaGreatMillTape2
import Derived.Test.YtecgogmolkjhjaaGreatMillShare
import Derived.Test.YtecgogmolkjhjaaGreatMillSeat2
import Derived.Test.YtecgogmolkjhjaaGreatMillFB
namespace Go.Proofs.Mill
set_option linter.all false
/- millstream/commit.commit -/
noncomputable def e102 : Env := env1 [(141, s141), (145, s145)]
theorem g102 : GoodEnv e102 := goodEnv mix1 ent1 (goods_cons ok141 rfl (goods_cons ok145 rfl goods_nil))
noncomputable def l102_4 : LSpec := loop1 [1, 2, 4, 5, 6, 25, 26, 27] (valsCons (valInt .i64) (valsCons (valBox celTurn) (valsCons (valBox celTurn) (valsCons (valAl 2 16) (valsCons (valOwn 74 .mark) (valsCons (valLst .int) (valsCons (valInt .i64) (valsOne (valInt .i64))))))))) (⟨.exit 0, [1, 2, 4, 5, 6], (valsCons (valInt .i64) (valsCons (valBox celTurn) (valsCons (valBox celTurn) (valsCons (valAl 2 16) (valsOne (valOwn 74 .mark))))))⟩ : Way) (whileM T_commit_commit_4)
set_option maxRecDepth 100000 in
theorem lok102_4 : LoopOK e102 64 l102_4 (fnLoop e102.P 102 4) :=
  loop1_ok (L := assocL []) (rounds := 20) (depth := 6) (ts := [1, 2, 4, 5, 6, 25, 26, 27]) (v := (valsCons (valInt .i64) (valsCons (valBox celTurn) (valsCons (valBox celTurn) (valsCons (valAl 2 16) (valsCons (valOwn 74 .mark) (valsCons (valLst .int) (valsCons (valInt .i64) (valsOne (valInt .i64)))))))))) (a := ⟨.exit 0, [1, 2, 4, 5, 6], (valsCons (valInt .i64) (valsCons (valBox celTurn) (valsCons (valBox celTurn) (valsCons (valAl 2 16) (valsOne (valOwn 74 .mark))))))⟩) (step := T_commit_commit_4) g102 rfl loops_inNil (fun x => by kernel_rfl)
noncomputable def s102 : Spec := mkSpec (valsCons (valSt celTurn) (valsOne (valInt .i64))) (resOne (valSt celTurn)) C_commit_commit
set_option maxRecDepth 100000 in
theorem ok102 : SpecOK Tryz.prog 102 s102 :=
  mkSpec_ok (V := e102) (L := (assocL [(4, l102_4)])) (rounds := 20) (depth := 6) g102 (loops_fn (nt := 64) (by kernel_rfl) (ntB_ok (by kernel_rfl)) (loopsOK_cons lok102_4 loopsOK_nil)) (fun x => by kernel_rfl)

/- millstream/commit.compared -/
noncomputable def e104 : Env := env1 [(72, s72), (102, s102), (109, s109)]
theorem g104 : GoodEnv e104 := goodEnv mix1 ent1 (goods_cons ok72 rfl (goods_cons ok102 rfl (goods_cons ok109 rfl goods_nil)))
noncomputable def s104 : Spec := mkSpec (valsOne (valSt celTurn)) (resOne (valSt celTurn)) C_commit_compared
set_option maxRecDepth 100000 in
theorem ok104 : SpecOK Tryz.prog 104 s104 :=
  mkSpec_ok (V := e104) (L := nL) (rounds := 20) (depth := 6) g104 loops_none (fun x => by kernel_rfl)

/- millstream/commit.Step -/
noncomputable def e65 : Env := env1 [(72, s72), (102, s102), (103, s103), (104, s104), (110, s110), (143, s143)]
theorem g65 : GoodEnv e65 := goodEnv mix1 ent1 (goods_cons ok72 rfl (goods_cons ok102 rfl (goods_cons ok103 rfl (goods_cons ok104 rfl (goods_cons ok110 rfl (goods_cons ok143 rfl goods_nil))))))
noncomputable def s65 : Spec := mkSpec (valsOne (valSt celTurn)) (resTup (valsCons (valSt celTurn) (valsOne (valBool)))) C_commit_Step
set_option maxRecDepth 100000 in
theorem ok65 : SpecOK Tryz.prog 65 s65 :=
  mkSpec_ok (V := e65) (L := nL) (rounds := 20) (depth := 6) g65 loops_none (fun x => by kernel_rfl)

/- millstream/tape.Below -/
noncomputable def e193 : Env := env1 [(231, s231)]
theorem g193 : GoodEnv e193 := goodEnv mix1 ent1 (goods_cons ok231 rfl goods_nil)
noncomputable def s193 : Spec := mkSpec (valsCons (valSt celTape) (valsOne (valInt .i64))) (resTup (valsCons (valInt .i64) (valsOne (valSt celTape)))) C_tape_Below
set_option maxRecDepth 100000 in
theorem ok193 : SpecOK Tryz.prog 193 s193 :=
  mkSpec_ok (V := e193) (L := nL) (rounds := 20) (depth := 6) g193 loops_none (fun x => by kernel_rfl)

/- millstream/collide.Step -/
noncomputable def e68 : Env := env1 [(95, s95), (103, s103), (109, s109), (110, s110), (115, s115), (117, s117), (146, s146), (188, s188), (190, s190), (191, s191), (193, s193), (194, s194), (195, s195)]
theorem g68 : GoodEnv e68 := goodEnv mix1 ent1 (goods_cons ok95 rfl (goods_cons ok103 rfl (goods_cons ok109 rfl (goods_cons ok110 rfl (goods_cons ok115 rfl (goods_cons ok117 rfl (goods_cons ok146 rfl (goods_cons ok188 rfl (goods_cons ok190 rfl (goods_cons ok191 rfl (goods_cons ok193 rfl (goods_cons ok194 rfl (goods_cons ok195 rfl goods_nil)))))))))))))
noncomputable def s68 : Spec := mkSpec (valsOne (valSt celTurn)) (resTup (valsCons (valSt celTurn) (valsOne (valBool)))) C_collide_Step
set_option maxRecDepth 100000 in
theorem ok68 : SpecOK Tryz.prog 68 s68 :=
  mkSpec_ok (V := e68) (L := nL) (rounds := 20) (depth := 6) g68 loops_none (fun x => by kernel_rfl)

/- millstream/machine.Step -/
noncomputable def e21 : Env := env1 [(33, s33), (63, s63), (64, s64), (65, s65), (66, s66), (67, s67), (68, s68)]
theorem g21 : GoodEnv e21 := goodEnv mix1 ent1 (goods_cons ok33 rfl (goods_cons ok63 rfl (goods_cons ok64 rfl (goods_cons ok65 rfl (goods_cons ok66 rfl (goods_cons ok67 rfl (goods_cons ok68 rfl goods_nil)))))))
noncomputable def s21 : Spec := mkSpec (valsOne (valSt celTurn)) (resOne (valSt celTurn)) C_machine_Step
set_option maxRecDepth 100000 in
theorem ok21 : SpecOK Tryz.prog 21 s21 :=
  mkSpec_ok (V := e21) (L := nL) (rounds := 20) (depth := 6) g21 loops_none (fun x => by kernel_rfl)

/- millstream/machine.Solo -/
noncomputable def e22 : Env := env1 [(21, s21), (33, s33)]
theorem g22 : GoodEnv e22 := goodEnv mix1 ent1 (goods_cons ok21 rfl (goods_cons ok33 rfl goods_nil))
noncomputable def l22_1 : LSpec := loop1 [1, 2, 4] (valsCons (valInt .i64) (valsCons (valBox celTurn) (valsOne (valBox celTurn)))) (⟨.exit 0, [2, 4], (valsCons (valBox celTurn) (valsOne (valBox celTurn)))⟩ : Way) (whileM T_machine_Solo_1)
set_option maxRecDepth 100000 in
theorem lok22_1 : LoopOK e22 19 l22_1 (fnLoop e22.P 22 1) :=
  loop1_ok (L := assocL []) (rounds := 20) (depth := 6) (ts := [1, 2, 4]) (v := (valsCons (valInt .i64) (valsCons (valBox celTurn) (valsOne (valBox celTurn))))) (a := ⟨.exit 0, [2, 4], (valsCons (valBox celTurn) (valsOne (valBox celTurn)))⟩) (step := T_machine_Solo_1) g22 rfl loops_inNil (fun x => by kernel_rfl)
noncomputable def s22 : Spec := mkSpec (valsCons (valSt celTurn) (valsOne (valInt .i64))) (resOne (valSt celTurn)) C_machine_Solo
set_option maxRecDepth 100000 in
theorem ok22 : SpecOK Tryz.prog 22 s22 :=
  mkSpec_ok (V := e22) (L := (assocL [(1, l22_1)])) (rounds := 20) (depth := 6) g22 (loops_fn (nt := 19) (by kernel_rfl) (ntB_ok (by kernel_rfl)) (loopsOK_cons lok22_1 loopsOK_nil)) (fun x => by kernel_rfl)

/- millstream/millstreamlaw16.shown -/
noncomputable def e18 : Env := env1 [(21, s21), (22, s22), (25, s25), (26, s26), (27, s27), (33, s33), (55, s55)]
theorem g18 : GoodEnv e18 := goodEnv mix1 ent1 (goods_cons ok21 rfl (goods_cons ok22 rfl (goods_cons ok25 rfl (goods_cons ok26 rfl (goods_cons ok27 rfl (goods_cons ok33 rfl (goods_cons ok55 rfl goods_nil)))))))
noncomputable def s18 : Spec := mkSpec valsNil (resOne (valBool)) C_law16_shown
set_option maxRecDepth 100000 in
theorem ok18 : SpecOK Tryz.prog 18 s18 :=
  mkSpec_ok (V := e18) (L := nL) (rounds := 20) (depth := 6) g18 loops_none (fun x => by kernel_rfl)

/- millstream/millstreamlaw16.MachineIdle -/
noncomputable def e3 : Env := env1 [(16, s16), (17, s17), (18, s18), (19, s19), (20, s20), (21, s21), (22, s22)]
theorem g3 : GoodEnv e3 := goodEnv mix1 ent1 (goods_cons ok16 rfl (goods_cons ok17 rfl (goods_cons ok18 rfl (goods_cons ok19 rfl (goods_cons ok20 rfl (goods_cons ok21 rfl (goods_cons ok22 rfl goods_nil)))))))
noncomputable def s3 : Spec := mkSpec (valsCons (valSt celTurn) (valsOne (valInt .i64))) (resOne (valBool)) C_law16_MachineIdle
set_option maxRecDepth 100000 in
theorem ok3 : SpecOK Tryz.prog 3 s3 :=
  mkSpec_ok (V := e3) (L := nL) (rounds := 20) (depth := 6) g3 loops_none (fun x => by kernel_rfl)

/- millstream/millstreamlaw16.MachineCell -/
noncomputable def e4 : Env := env1 [(18, s18), (22, s22), (23, s23), (24, s24), (25, s25), (26, s26), (27, s27)]
theorem g4 : GoodEnv e4 := goodEnv mix1 ent1 (goods_cons ok18 rfl (goods_cons ok22 rfl (goods_cons ok23 rfl (goods_cons ok24 rfl (goods_cons ok25 rfl (goods_cons ok26 rfl (goods_cons ok27 rfl goods_nil)))))))
noncomputable def s4 : Spec := mkSpec (valsCons (valSt celConfig) (valsCons (valInt .u8) (valsCons (valInt .u8) (valsOne (valSt celOp))))) (resOne (valBool)) C_law16_MachineCell
set_option maxRecDepth 100000 in
theorem ok4 : SpecOK Tryz.prog 4 s4 :=
  mkSpec_ok (V := e4) (L := nL) (rounds := 20) (depth := 6) g4 loops_none (fun x => by kernel_rfl)

/- millstream/millstreamlaw16.MachineLogs -/
noncomputable def e5 : Env := env1 [(16, s16), (18, s18), (21, s21), (28, s28)]
theorem g5 : GoodEnv e5 := goodEnv mix1 ent1 (goods_cons ok16 rfl (goods_cons ok18 rfl (goods_cons ok21 rfl (goods_cons ok28 rfl goods_nil))))
noncomputable def s5 : Spec := mkSpec (valsOne (valSt celTurn)) (resOne (valBool)) C_law16_MachineLogs
set_option maxRecDepth 100000 in
theorem ok5 : SpecOK Tryz.prog 5 s5 :=
  mkSpec_ok (V := e5) (L := nL) (rounds := 20) (depth := 6) g5 loops_none (fun x => by kernel_rfl)

/- millstream/millstreamlaw16.MachineOne -/
noncomputable def e6 : Env := env1 [(16, s16), (18, s18), (21, s21), (28, s28), (29, s29), (30, s30)]
theorem g6 : GoodEnv e6 := goodEnv mix1 ent1 (goods_cons ok16 rfl (goods_cons ok18 rfl (goods_cons ok21 rfl (goods_cons ok28 rfl (goods_cons ok29 rfl (goods_cons ok30 rfl goods_nil))))))
noncomputable def l6_13 : LSpec := loop1 [1, 3, 4, 6] (valsCons (valBox celTurn) (valsCons (valBox celTurn) (valsCons (valInt .i64) (valsOne (valInt .i64))))) (⟨.exit 2, [4], (valsOne (valInt .i64))⟩ : Way) (whileM T_law16_MachineOne_13)
set_option maxRecDepth 100000 in
theorem lok6_13 : LoopOK e6 92 l6_13 (fnLoop e6.P 6 13) :=
  loop1_ok (L := assocL []) (rounds := 20) (depth := 6) (ts := [1, 3, 4, 6]) (v := (valsCons (valBox celTurn) (valsCons (valBox celTurn) (valsCons (valInt .i64) (valsOne (valInt .i64)))))) (a := ⟨.exit 2, [4], (valsOne (valInt .i64))⟩) (step := T_law16_MachineOne_13) g6 rfl loops_inNil (fun x => by kernel_rfl)
noncomputable def l6_8 : LSpec := loop1 [1, 3, 4, 5] (valsCons (valBox celTurn) (valsCons (valBox celTurn) (valsCons (valInt .i64) (valsOne (valInt .i64))))) (⟨.exit 0, [1, 3, 4], (valsCons (valBox celTurn) (valsCons (valBox celTurn) (valsOne (valInt .i64))))⟩ : Way) (whileM T_law16_MachineOne_8)
set_option maxRecDepth 100000 in
theorem lok6_8 : LoopOK e6 92 l6_8 (fnLoop e6.P 6 8) :=
  loop1_ok (L := assocL []) (rounds := 20) (depth := 6) (ts := [1, 3, 4, 5]) (v := (valsCons (valBox celTurn) (valsCons (valBox celTurn) (valsCons (valInt .i64) (valsOne (valInt .i64)))))) (a := ⟨.exit 0, [1, 3, 4], (valsCons (valBox celTurn) (valsCons (valBox celTurn) (valsOne (valInt .i64))))⟩) (step := T_law16_MachineOne_8) g6 rfl loops_inNil (fun x => by kernel_rfl)
noncomputable def s6 : Spec := mkSpec (valsOne (valSt celTurn)) (resOne (valBool)) C_law16_MachineOne
set_option maxRecDepth 100000 in
theorem ok6 : SpecOK Tryz.prog 6 s6 :=
  mkSpec_ok (V := e6) (L := (assocL [(13, l6_13), (8, l6_8)])) (rounds := 20) (depth := 6) g6 (loops_fn (nt := 92) (by kernel_rfl) (ntB_ok (by kernel_rfl)) (loopsOK_cons lok6_13 (loopsOK_cons lok6_8 loopsOK_nil))) (fun x => by kernel_rfl)

/- millstream/millstreamlaw16.MachineAlone -/
noncomputable def e7 : Env := env1 [(18, s18), (22, s22), (23, s23), (24, s24), (25, s25), (26, s26), (27, s27), (31, s31), (32, s32), (33, s33), (34, s34), (35, s35), (36, s36), (37, s37), (38, s38)]
theorem g7 : GoodEnv e7 := goodEnv mix1 ent1 (goods_cons ok18 rfl (goods_cons ok22 rfl (goods_cons ok23 rfl (goods_cons ok24 rfl (goods_cons ok25 rfl (goods_cons ok26 rfl (goods_cons ok27 rfl (goods_cons ok31 rfl (goods_cons ok32 rfl (goods_cons ok33 rfl (goods_cons ok34 rfl (goods_cons ok35 rfl (goods_cons ok36 rfl (goods_cons ok37 rfl (goods_cons ok38 rfl goods_nil)))))))))))))))
noncomputable def l7_20 : LSpec := loop2 [5, 11, 12, 13, 15, 16, 18, 20] (valsCons (valBox celConfig) (valsCons (valBox celConfig) (valsCons (valInt .i64) (valsCons (valInt .i64) (valsCons (valBox celTurn) (valsCons (valInt .i64) (valsCons (valInt .i64) (valsOne (valInt .i64))))))))) (⟨.exit 2, [5, 11, 12, 13, 15, 16, 18], (valsCons (valBox celConfig) (valsCons (valBox celConfig) (valsCons (valInt .i64) (valsCons (valInt .i64) (valsCons (valBox celTurn) (valsCons (valInt .i64) (valsOne (valInt .i64))))))))⟩ : Way) (⟨.ret, [10], (valsOne (valBool))⟩ : Way) (whileM T_law16_MachineAlone_20)
set_option maxRecDepth 100000 in
theorem lok7_20 : LoopOK e7 168 l7_20 (fnLoop e7.P 7 20) :=
  loop2_ok (L := assocL []) (rounds := 20) (depth := 6) (ts := [5, 11, 12, 13, 15, 16, 18, 20]) (v := (valsCons (valBox celConfig) (valsCons (valBox celConfig) (valsCons (valInt .i64) (valsCons (valInt .i64) (valsCons (valBox celTurn) (valsCons (valInt .i64) (valsCons (valInt .i64) (valsOne (valInt .i64)))))))))) (a := ⟨.exit 2, [5, 11, 12, 13, 15, 16, 18], (valsCons (valBox celConfig) (valsCons (valBox celConfig) (valsCons (valInt .i64) (valsCons (valInt .i64) (valsCons (valBox celTurn) (valsCons (valInt .i64) (valsOne (valInt .i64))))))))⟩) (b := ⟨.ret, [10], (valsOne (valBool))⟩) (step := T_law16_MachineAlone_20) g7 rfl rfl loops_inNil (fun x => by kernel_rfl)
noncomputable def l7_12 : LSpec := loop2 [5, 11, 12, 13, 15, 16, 18] (valsCons (valBox celConfig) (valsCons (valBox celConfig) (valsCons (valInt .i64) (valsCons (valInt .i64) (valsCons (valBox celTurn) (valsCons (valInt .i64) (valsOne (valInt .i64)))))))) (⟨.exit 0, [11, 12, 15], (valsCons (valBox celConfig) (valsCons (valInt .i64) (valsOne (valBox celTurn))))⟩ : Way) (⟨.ret, [10], (valsOne (valBool))⟩ : Way) (whileM T_law16_MachineAlone_12)
set_option maxRecDepth 100000 in
theorem lok7_12 : LoopOK e7 168 l7_12 (fnLoop e7.P 7 12) :=
  loop2_ok (L := assocL [(20, l7_20)]) (rounds := 20) (depth := 6) (ts := [5, 11, 12, 13, 15, 16, 18]) (v := (valsCons (valBox celConfig) (valsCons (valBox celConfig) (valsCons (valInt .i64) (valsCons (valInt .i64) (valsCons (valBox celTurn) (valsCons (valInt .i64) (valsOne (valInt .i64))))))))) (a := ⟨.exit 0, [11, 12, 15], (valsCons (valBox celConfig) (valsCons (valInt .i64) (valsOne (valBox celTurn))))⟩) (b := ⟨.ret, [10], (valsOne (valBool))⟩) (step := T_law16_MachineAlone_12) g7 rfl rfl (loops_in (by kernel_rfl) (loopsOK_cons lok7_20 loopsOK_nil)) (fun x => by kernel_rfl)
noncomputable def s7 : Spec := mkSpec (valsCons (valSt celConfig) (valsCons (valInt .u8) (valsCons (valInt .u8) (valsCons (valSt celOp) (valsOne (valInt .u8)))))) (resOne (valBool)) C_law16_MachineAlone
set_option maxRecDepth 100000 in
theorem ok7 : SpecOK Tryz.prog 7 s7 :=
  mkSpec_ok (V := e7) (L := (assocL [(20, l7_20), (12, l7_12)])) (rounds := 20) (depth := 6) g7 (loops_fn (nt := 168) (by kernel_rfl) (ntB_ok (by kernel_rfl)) (loopsOK_cons lok7_20 (loopsOK_cons lok7_12 loopsOK_nil))) (fun x => by kernel_rfl)

end Go.Proofs.Mill
