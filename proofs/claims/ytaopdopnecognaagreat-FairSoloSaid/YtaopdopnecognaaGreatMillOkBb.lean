/- The functions compute this. -/
import Derived.Test.YtaopdopnecognaaGreatMillTape2b
import Derived.Test.YtaopdopnecognaaGreatMillShareb
import Derived.Test.YtaopdopnecognaaGreatMillSeat3
import Derived.Test.YtaopdopnecognaaGreatMillFBb
namespace Go.Proofs.Mill
set_option linter.all false
/- millstream/commit.commit -/
noncomputable def e128 : Env := env1 [(148, s148), (152, s152)]
theorem g128 : GoodEnv e128 := goodEnv mix1 ent1 (goods_cons ok148 rfl (goods_cons ok152 rfl goods_nil))
noncomputable def l128_4 : LSpec := loop1 [1, 2, 4, 5, 6, 25, 26, 27] (valsCons (valInt .i64) (valsCons (valBox celTurn) (valsCons (valBox celTurn) (valsCons (valAl 2 16) (valsCons (valOwn 65 .mark) (valsCons (valLst .int) (valsCons (valInt .i64) (valsOne (valInt .i64))))))))) (⟨.exit 0, [1, 2, 4, 5, 6], (valsCons (valInt .i64) (valsCons (valBox celTurn) (valsCons (valBox celTurn) (valsCons (valAl 2 16) (valsOne (valOwn 65 .mark))))))⟩ : Way) (whileM T_commit_commit_4)
set_option maxRecDepth 100000 in
theorem lok128_4 : LoopOK e128 64 l128_4 (fnLoop e128.P 128 4) :=
  loop1_ok (L := assocL []) (rounds := 20) (depth := 6) (ts := [1, 2, 4, 5, 6, 25, 26, 27]) (v := (valsCons (valInt .i64) (valsCons (valBox celTurn) (valsCons (valBox celTurn) (valsCons (valAl 2 16) (valsCons (valOwn 65 .mark) (valsCons (valLst .int) (valsCons (valInt .i64) (valsOne (valInt .i64)))))))))) (a := ⟨.exit 0, [1, 2, 4, 5, 6], (valsCons (valInt .i64) (valsCons (valBox celTurn) (valsCons (valBox celTurn) (valsCons (valAl 2 16) (valsOne (valOwn 65 .mark))))))⟩) (step := T_commit_commit_4) g128 rfl loops_inNil (fun x => by kernel_rfl)
noncomputable def s128 : Spec := mkSpec (valsCons (valSt celTurn) (valsOne (valInt .i64))) (resOne (valSt celTurn)) C_commit_commit
set_option maxRecDepth 100000 in
theorem ok128 : SpecOK Tryz.prog 128 s128 :=
  mkSpec_ok (V := e128) (L := (assocL [(4, l128_4)])) (rounds := 20) (depth := 6) g128 (loops_fn (nt := 64) (by kernel_rfl) (ntB_ok (by kernel_rfl)) (loopsOK_cons lok128_4 loopsOK_nil)) (fun x => by kernel_rfl)

/- millstream/commit.compared -/
noncomputable def e130 : Env := env1 [(71, s71), (128, s128), (135, s135)]
theorem g130 : GoodEnv e130 := goodEnv mix1 ent1 (goods_cons ok71 rfl (goods_cons ok128 rfl (goods_cons ok135 rfl goods_nil)))
noncomputable def s130 : Spec := mkSpec (valsOne (valSt celTurn)) (resOne (valSt celTurn)) C_commit_compared
set_option maxRecDepth 100000 in
theorem ok130 : SpecOK Tryz.prog 130 s130 :=
  mkSpec_ok (V := e130) (L := nL) (rounds := 20) (depth := 6) g130 loops_none (fun x => by kernel_rfl)

/- millstream/commit.Step -/
noncomputable def e116 : Env := env1 [(70, s70), (71, s71), (128, s128), (129, s129), (130, s130), (150, s150)]
theorem g116 : GoodEnv e116 := goodEnv mix1 ent1 (goods_cons ok70 rfl (goods_cons ok71 rfl (goods_cons ok128 rfl (goods_cons ok129 rfl (goods_cons ok130 rfl (goods_cons ok150 rfl goods_nil))))))
noncomputable def s116 : Spec := mkSpec (valsOne (valSt celTurn)) (resTup (valsCons (valSt celTurn) (valsOne (valBool)))) C_commit_Step
set_option maxRecDepth 100000 in
theorem ok116 : SpecOK Tryz.prog 116 s116 :=
  mkSpec_ok (V := e116) (L := nL) (rounds := 20) (depth := 6) g116 loops_none (fun x => by kernel_rfl)

/- millstream/tape.Below -/
noncomputable def e186 : Env := env1 [(195, s195)]
theorem g186 : GoodEnv e186 := goodEnv mix1 ent1 (goods_cons ok195 rfl goods_nil)
noncomputable def s186 : Spec := mkSpec (valsCons (valSt celTape) (valsOne (valInt .i64))) (resTup (valsCons (valInt .i64) (valsOne (valSt celTape)))) C_tape_Below
set_option maxRecDepth 100000 in
theorem ok186 : SpecOK Tryz.prog 186 s186 :=
  mkSpec_ok (V := e186) (L := nL) (rounds := 20) (depth := 6) g186 loops_none (fun x => by kernel_rfl)

/- millstream/collide.Step -/
noncomputable def e119 : Env := env1 [(70, s70), (120, s120), (129, s129), (135, s135), (140, s140), (142, s142), (153, s153), (181, s181), (183, s183), (184, s184), (186, s186), (187, s187), (188, s188)]
theorem g119 : GoodEnv e119 := goodEnv mix1 ent1 (goods_cons ok70 rfl (goods_cons ok120 rfl (goods_cons ok129 rfl (goods_cons ok135 rfl (goods_cons ok140 rfl (goods_cons ok142 rfl (goods_cons ok153 rfl (goods_cons ok181 rfl (goods_cons ok183 rfl (goods_cons ok184 rfl (goods_cons ok186 rfl (goods_cons ok187 rfl (goods_cons ok188 rfl goods_nil)))))))))))))
noncomputable def s119 : Spec := mkSpec (valsOne (valSt celTurn)) (resTup (valsCons (valSt celTurn) (valsOne (valBool)))) C_collide_Step
set_option maxRecDepth 100000 in
theorem ok119 : SpecOK Tryz.prog 119 s119 :=
  mkSpec_ok (V := e119) (L := nL) (rounds := 20) (depth := 6) g119 loops_none (fun x => by kernel_rfl)

/- millstream/machine.Step -/
noncomputable def e113 : Env := env1 [(24, s24), (114, s114), (115, s115), (116, s116), (117, s117), (118, s118), (119, s119)]
theorem g113 : GoodEnv e113 := goodEnv mix1 ent1 (goods_cons ok24 rfl (goods_cons ok114 rfl (goods_cons ok115 rfl (goods_cons ok116 rfl (goods_cons ok117 rfl (goods_cons ok118 rfl (goods_cons ok119 rfl goods_nil)))))))
noncomputable def s113 : Spec := mkSpec (valsOne (valSt celTurn)) (resOne (valSt celTurn)) C_machine_Step
set_option maxRecDepth 100000 in
theorem ok113 : SpecOK Tryz.prog 113 s113 :=
  mkSpec_ok (V := e113) (L := nL) (rounds := 20) (depth := 6) g113 loops_none (fun x => by kernel_rfl)

end Go.Proofs.Mill
