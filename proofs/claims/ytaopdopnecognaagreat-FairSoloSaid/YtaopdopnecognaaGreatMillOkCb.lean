/- The functions compute this. -/
import Derived.Test.YtaopdopnecognaaGreatMillPick
import Derived.Test.YtaopdopnecognaaGreatMillRepeat
import Derived.Test.YtaopdopnecognaaGreatMillOkBb
import Derived.Test.YtaopdopnecognaaGreatMillSeat3
import Derived.Test.YtaopdopnecognaaGreatMillFCb
namespace Go.Proofs.Mill
set_option linter.all false
/- millstream/world.New -/
noncomputable def e25 : Env := env1 [(56, s56), (57, s57), (58, s58), (59, s59), (60, s60)]
theorem g25 : GoodEnv e25 := goodEnv mix1 ent1 (goods_cons ok56 rfl (goods_cons ok57 rfl (goods_cons ok58 rfl (goods_cons ok59 rfl (goods_cons ok60 rfl goods_nil)))))
noncomputable def s25 : Spec := mkSpec (valsCons (valSt celConfig) (valsOne (valLst .int))) (resTup (valsCons (valSt (celAs (celApp celConfig (celApp celMemo (celApp (celOwn 57 .thread) (celApp (celInt .i64) (celApp (celInt .i64) (celApp celTape (celApp (celOwn 65 .mark) (celOwn 50 .event)))))))) Wld (fun y => ⟨y.1, y.2.1, y.2.2.1, y.2.2.2.1, y.2.2.2.2.1, y.2.2.2.2.2.1, y.2.2.2.2.2.2.1, y.2.2.2.2.2.2.2⟩) (fun x => (x.c, (x.m, (x.t, (x.now, (x.steps, (x.tape, (x.log, x.hist)))))))) (fun _ => rfl))) (valsOne (valInt .i64)))) C_world_New
set_option maxRecDepth 100000 in
theorem ok25 : SpecOK Tryz.prog 25 s25 :=
  mkSpec_ok (V := e25) (L := nL) (rounds := 20) (depth := 6) g25 loops_none (fun x => by kernel_rfl)

/- millstream/world.Run -/
noncomputable def e16 : Env := env1x [(24, s24), (25, s25), (51, s51), (100, s100)] [(77, x77)]
theorem g16 : GoodEnv e16 := goodEnvX mix1 ent1 (goods_cons ok24 rfl (goods_cons ok25 rfl (goods_cons ok51 rfl (goods_cons ok100 rfl goods_nil)))) rfl xok77
noncomputable def l16_6 : LSpec := loop1 [6, 11, 12, 32, 33, 34] (valsCons (valBox celWld) (valsCons (valBox (celAs (celApp celConfig (celApp celMemo (celApp (celOwn 57 .thread) (celApp (celInt .i64) (celApp (celInt .i64) (celApp celTape (celApp (celOwn 65 .mark) (celOwn 50 .event)))))))) Wld (fun y => ⟨y.1, y.2.1, y.2.2.1, y.2.2.2.1, y.2.2.2.2.1, y.2.2.2.2.2.1, y.2.2.2.2.2.2.1, y.2.2.2.2.2.2.2⟩) (fun x => (x.c, (x.m, (x.t, (x.now, (x.steps, (x.tape, (x.log, x.hist)))))))) (fun _ => rfl))) (valsCons (valInt .i64) (valsCons (valLst .sentry) (valsCons (valInt .i64) (valsOne (valInt .i64))))))) (⟨.exit 0, [6, 11, 12], (valsCons (valBox celWld) (valsCons (valBox (celAs (celApp celConfig (celApp celMemo (celApp (celOwn 57 .thread) (celApp (celInt .i64) (celApp (celInt .i64) (celApp celTape (celApp (celOwn 65 .mark) (celOwn 50 .event)))))))) Wld (fun y => ⟨y.1, y.2.1, y.2.2.1, y.2.2.2.1, y.2.2.2.2.1, y.2.2.2.2.2.1, y.2.2.2.2.2.2.1, y.2.2.2.2.2.2.2⟩) (fun x => (x.c, (x.m, (x.t, (x.now, (x.steps, (x.tape, (x.log, x.hist)))))))) (fun _ => rfl))) (valsOne (valInt .i64))))⟩ : Way) (whileM T_world_Run_6)
set_option maxRecDepth 100000 in
theorem lok16_6 : LoopOK e16 43 l16_6 (fnLoop e16.P 16 6) :=
  loop1_ok (L := assocL []) (rounds := 20) (depth := 6) (ts := [6, 11, 12, 32, 33, 34]) (v := (valsCons (valBox celWld) (valsCons (valBox (celAs (celApp celConfig (celApp celMemo (celApp (celOwn 57 .thread) (celApp (celInt .i64) (celApp (celInt .i64) (celApp celTape (celApp (celOwn 65 .mark) (celOwn 50 .event)))))))) Wld (fun y => ⟨y.1, y.2.1, y.2.2.1, y.2.2.2.1, y.2.2.2.2.1, y.2.2.2.2.2.1, y.2.2.2.2.2.2.1, y.2.2.2.2.2.2.2⟩) (fun x => (x.c, (x.m, (x.t, (x.now, (x.steps, (x.tape, (x.log, x.hist)))))))) (fun _ => rfl))) (valsCons (valInt .i64) (valsCons (valLst .sentry) (valsCons (valInt .i64) (valsOne (valInt .i64)))))))) (a := ⟨.exit 0, [6, 11, 12], (valsCons (valBox celWld) (valsCons (valBox (celAs (celApp celConfig (celApp celMemo (celApp (celOwn 57 .thread) (celApp (celInt .i64) (celApp (celInt .i64) (celApp celTape (celApp (celOwn 65 .mark) (celOwn 50 .event)))))))) Wld (fun y => ⟨y.1, y.2.1, y.2.2.1, y.2.2.2.1, y.2.2.2.2.1, y.2.2.2.2.2.1, y.2.2.2.2.2.2.1, y.2.2.2.2.2.2.2⟩) (fun x => (x.c, (x.m, (x.t, (x.now, (x.steps, (x.tape, (x.log, x.hist)))))))) (fun _ => rfl))) (valsOne (valInt .i64))))⟩) (step := T_world_Run_6) g16 rfl loops_inNil (fun x => by kernel_rfl)
noncomputable def s16 : Spec := mkSpec (valsCons (valSt celConfig) (valsCons (valLst .sentry) (valsOne (valLst .int)))) (resTup (valsCons (valSt celWld) (valsCons (valInt .i64) (valsOne (valInt .i64))))) C_world_Run
set_option maxRecDepth 100000 in
theorem ok16 : SpecOK Tryz.prog 16 s16 :=
  mkSpec_ok (V := e16) (L := (assocL [(6, l16_6)])) (rounds := 20) (depth := 6) g16 (loops_fn (nt := 43) (by kernel_rfl) (ntB_ok (by kernel_rfl)) (loopsOK_cons lok16_6 loopsOK_nil)) (fun x => by kernel_rfl)

/- millstream/millstreamlaw19.shown -/
noncomputable def e33 : Env := env1 [(16, s16), (17, s17), (18, s18), (37, s37), (40, s40), (42, s42), (45, s45)]
theorem g33 : GoodEnv e33 := goodEnv mix1 ent1 (goods_cons ok16 rfl (goods_cons ok17 rfl (goods_cons ok18 rfl (goods_cons ok37 rfl (goods_cons ok40 rfl (goods_cons ok42 rfl (goods_cons ok45 rfl goods_nil)))))))
noncomputable def s33 : Spec := mkSpec valsNil (resOne (valBool)) C_law19_shown
set_option maxRecDepth 100000 in
theorem ok33 : SpecOK Tryz.prog 33 s33 :=
  mkSpec_ok (V := e33) (L := nL) (rounds := 20) (depth := 6) g33 loops_none (fun x => by kernel_rfl)

/- millstream/millstreamlaw19.FairTells -/
noncomputable def e6 : Env := env1 [(17, s17), (18, s18), (32, s32), (33, s33), (34, s34), (35, s35), (36, s36), (37, s37), (38, s38), (39, s39), (40, s40), (41, s41), (42, s42), (43, s43)]
theorem g6 : GoodEnv e6 := goodEnv mix1 ent1 (goods_cons ok17 rfl (goods_cons ok18 rfl (goods_cons ok32 rfl (goods_cons ok33 rfl (goods_cons ok34 rfl (goods_cons ok35 rfl (goods_cons ok36 rfl (goods_cons ok37 rfl (goods_cons ok38 rfl (goods_cons ok39 rfl (goods_cons ok40 rfl (goods_cons ok41 rfl (goods_cons ok42 rfl (goods_cons ok43 rfl goods_nil))))))))))))))
noncomputable def s6 : Spec := mkSpec (valsCons (valSt celConfig) (valsCons (valLst .sentry) (valsOne (valInt .i64)))) (resOne (valBool)) C_law19_FairTells
set_option maxRecDepth 100000 in
theorem ok6 : SpecOK Tryz.prog 6 s6 :=
  mkSpec_ok (V := e6) (L := nL) (rounds := 20) (depth := 6) g6 loops_none (fun x => by kernel_rfl)

/- millstream/millstreamlaw19.FairSuffix -/
noncomputable def e7 : Env := env1 [(17, s17), (18, s18), (32, s32), (33, s33), (40, s40), (42, s42)]
theorem g7 : GoodEnv e7 := goodEnv mix1 ent1 (goods_cons ok17 rfl (goods_cons ok18 rfl (goods_cons ok32 rfl (goods_cons ok33 rfl (goods_cons ok40 rfl (goods_cons ok42 rfl goods_nil))))))
noncomputable def l7_12 : LSpec := loop1 [1, 4, 5, 11, 12, 13, 14, 15, 16, 17] (valsCons (valLst .sentry) (valsCons (valInt .u8) (valsCons (valBox celConfig) (valsCons (valInt .i64) (valsCons (valLst .sentry) (valsCons (valInt .i64) (valsCons (valLst .sentry) (valsCons (valLst .sentry) (valsCons (valOwn 63 .sentry) (valsOne (valInt .i64))))))))))) (⟨.exit 0, [1, 5, 11, 12, 13, 14, 15, 16], (valsCons (valLst .sentry) (valsCons (valBox celConfig) (valsCons (valInt .i64) (valsCons (valLst .sentry) (valsCons (valInt .i64) (valsCons (valLst .sentry) (valsCons (valLst .sentry) (valsOne (valOwn 63 .sentry)))))))))⟩ : Way) (whileM T_law19_FairSuffix_12)
set_option maxRecDepth 100000 in
theorem lok7_12 : LoopOK e7 157 l7_12 (fnLoop e7.P 7 12) :=
  loop1_ok (L := assocL []) (rounds := 20) (depth := 6) (ts := [1, 4, 5, 11, 12, 13, 14, 15, 16, 17]) (v := (valsCons (valLst .sentry) (valsCons (valInt .u8) (valsCons (valBox celConfig) (valsCons (valInt .i64) (valsCons (valLst .sentry) (valsCons (valInt .i64) (valsCons (valLst .sentry) (valsCons (valLst .sentry) (valsCons (valOwn 63 .sentry) (valsOne (valInt .i64)))))))))))) (a := ⟨.exit 0, [1, 5, 11, 12, 13, 14, 15, 16], (valsCons (valLst .sentry) (valsCons (valBox celConfig) (valsCons (valInt .i64) (valsCons (valLst .sentry) (valsCons (valInt .i64) (valsCons (valLst .sentry) (valsCons (valLst .sentry) (valsOne (valOwn 63 .sentry)))))))))⟩) (step := T_law19_FairSuffix_12) g7 rfl loops_inNil (fun x => by kernel_rfl)
noncomputable def s7 : Spec := mkSpec (valsCons (valSt celConfig) (valsCons (valLst .sentry) (valsCons (valSt celOp) (valsCons (valInt .u8) (valsOne (valInt .u8)))))) (resOne (valBool)) C_law19_FairSuffix
set_option maxRecDepth 100000 in
theorem ok7 : SpecOK Tryz.prog 7 s7 :=
  mkSpec_ok (V := e7) (L := (assocL [(12, l7_12)])) (rounds := 20) (depth := 6) g7 (loops_fn (nt := 157) (by kernel_rfl) (ntB_ok (by kernel_rfl)) (loopsOK_cons lok7_12 loopsOK_nil)) (fun x => by kernel_rfl)

/- millstream/millstreamlaw19.FairSolo -/
noncomputable def e8 : Env := env1 [(16, s16), (17, s17), (32, s32), (33, s33), (44, s44), (45, s45)]
theorem g8 : GoodEnv e8 := goodEnv mix1 ent1 (goods_cons ok16 rfl (goods_cons ok17 rfl (goods_cons ok32 rfl (goods_cons ok33 rfl (goods_cons ok44 rfl (goods_cons ok45 rfl goods_nil))))))
noncomputable def s8 : Spec := mkSpec (valsCons (valSt celConfig) (valsCons (valInt .u8) (valsCons (valInt .u8) (valsCons (valSt celOp) (valsOne (valLst .int)))))) (resOne (valBool)) C_law19_FairSolo
set_option maxRecDepth 100000 in
theorem ok8 : SpecOK Tryz.prog 8 s8 :=
  mkSpec_ok (V := e8) (L := nL) (rounds := 20) (depth := 6) g8 loops_none (fun x => by kernel_rfl)

/- millstream/millstreamlaw19.FairMore -/
noncomputable def e9 : Env := env1 [(17, s17), (32, s32), (33, s33), (37, s37), (40, s40)]
theorem g9 : GoodEnv e9 := goodEnv mix1 ent1 (goods_cons ok17 rfl (goods_cons ok32 rfl (goods_cons ok33 rfl (goods_cons ok37 rfl (goods_cons ok40 rfl goods_nil)))))
noncomputable def l9_6 : LSpec := loop2 [2, 3, 7, 8, 9] (valsCons (valLst .sentry) (valsCons (valBox celConfig) (valsCons (valInt .i64) (valsCons (valLst .sentry) (valsOne (valInt .i64)))))) (⟨.exit 0, [2, 3, 7, 8], (valsCons (valLst .sentry) (valsCons (valBox celConfig) (valsCons (valInt .i64) (valsOne (valLst .sentry)))))⟩ : Way) (⟨.ret, [6], (valsOne (valBool))⟩ : Way) (whileM T_law19_FairMore_6)
set_option maxRecDepth 100000 in
theorem lok9_6 : LoopOK e9 83 l9_6 (fnLoop e9.P 9 6) :=
  loop2_ok (L := assocL []) (rounds := 20) (depth := 6) (ts := [2, 3, 7, 8, 9]) (v := (valsCons (valLst .sentry) (valsCons (valBox celConfig) (valsCons (valInt .i64) (valsCons (valLst .sentry) (valsOne (valInt .i64))))))) (a := ⟨.exit 0, [2, 3, 7, 8], (valsCons (valLst .sentry) (valsCons (valBox celConfig) (valsCons (valInt .i64) (valsOne (valLst .sentry)))))⟩) (b := ⟨.ret, [6], (valsOne (valBool))⟩) (step := T_law19_FairMore_6) g9 rfl rfl loops_inNil (fun x => by kernel_rfl)
noncomputable def s9 : Spec := mkSpec (valsCons (valSt celConfig) (valsCons (valInt .u8) (valsOne (valLst .sentry)))) (resOne (valBool)) C_law19_FairMore
set_option maxRecDepth 100000 in
theorem ok9 : SpecOK Tryz.prog 9 s9 :=
  mkSpec_ok (V := e9) (L := (assocL [(6, l9_6)])) (rounds := 20) (depth := 6) g9 (loops_fn (nt := 83) (by kernel_rfl) (ntB_ok (by kernel_rfl)) (loopsOK_cons lok9_6 loopsOK_nil)) (fun x => by kernel_rfl)

end Go.Proofs.Mill
