/- The functions compute this. -/
import Derived.Test.YtcokmmhkajmkhaaMillIters
import Derived.Test.YtcokmmhkajmkhaaMillSeat1
import Derived.Test.YtcokmmhkajmkhaaMillFH
namespace Go.Proofs.Mill
set_option linter.all false
/- millstream/oper.beyond -/
noncomputable def e156 : Env := env1 []
theorem g156 : GoodEnv e156 := goodEnv mix1 ent1 goods_nil
noncomputable def s156 : Spec := mkSpec (valsCons (valInt .i64) (valsCons (valInt .i64) (valsCons (valInt .i64) (valsOne (valInt .i64))))) (resOne (valBool)) C_oper_beyond
set_option maxRecDepth 100000 in
theorem ok156 : SpecOK Try.prog 156 s156 :=
  mkSpec_ok (V := e156) (L := nL) (rounds := 20) (depth := 6) g156 loops_none (fun x => by kernel_rfl)

/- millstream/oper.Apply -/
noncomputable def e84 : Env := env1 [(156, s156)]
theorem g84 : GoodEnv e84 := goodEnv mix1 ent1 (goods_cons ok156 rfl goods_nil)
noncomputable def s84 : Spec := mkSpec (valsCons (valSt celOp) (valsCons (valInt .i64) (valsCons (valInt .i64) (valsOne (valInt .i64))))) (resTup (valsCons (valInt .i64) (valsOne (valBool)))) C_oper_Apply
set_option maxRecDepth 100000 in
theorem ok84 : SpecOK Try.prog 84 s84 :=
  mkSpec_ok (V := e84) (L := nL) (rounds := 20) (depth := 6) g84 loops_none (fun x => by kernel_rfl)

/- millstream/history.Replay -/
noncomputable def e27 : Env := env1 [(84, s84)]
theorem g27 : GoodEnv e27 := goodEnv mix1 ent1 (goods_cons ok84 rfl goods_nil)
noncomputable def l27_3 : LSpec := range1 15 itReplay [3, 8, 9] (valsCons (valBox celConfig) (valsCons (valBox (celInt .i64)) (valsOne (valBox celBool))))  (fold1 itReplay T_history_Replay_3)
set_option maxRecDepth 100000 in
theorem lok27_3 : LoopOK e27 37 l27_3 (fnLoop e27.P 27 3) :=
  range1_ok (nt := 37) (n := 1) (rounds := 20) (depth := 6) (gt := 15) (it := itReplay) (ts := [3, 8, 9]) (v := (valsCons (valBox celConfig) (valsCons (valBox (celInt .i64)) (valsOne (valBox celBool)))))  (step := T_history_Replay_3) g27 okitReplay (fun _ => rfl)  (by kernel_rfl) (fun x e => by kernel_rfl)
noncomputable def s27 : Spec := mkSpec (valsCons (valSt celConfig) (valsCons (valLst .mark) (valsOne (valInt .i64)))) (resTup (valsCons (valInt .i64) (valsOne (valBool)))) C_history_Replay
set_option maxRecDepth 100000 in
theorem ok27 : SpecOK Try.prog 27 s27 :=
  mkSpec_ok (V := e27) (L := (assocL [(3, l27_3)])) (rounds := 20) (depth := 6) g27 (loops_fn (nt := 37) (by kernel_rfl) (ntB_ok (by kernel_rfl)) (loopsOK_cons lok27_3 loopsOK_nil)) (fun x => by kernel_rfl)

/- millstream/history.Pending -/
noncomputable def e29 : Env := env1 []
theorem g29 : GoodEnv e29 := goodEnv mix1 ent1 goods_nil
noncomputable def l29_2 : LSpec := range1 9 itEvents [4, 5] (valsCons (valBox celEvent) (valsOne (valBox celBool)))  (fold1 itEvents T_history_Pending_2)
set_option maxRecDepth 100000 in
theorem lok29_2 : LoopOK e29 20 l29_2 (fnLoop e29.P 29 2) :=
  range1_ok (nt := 20) (n := 1) (rounds := 20) (depth := 6) (gt := 9) (it := itEvents) (ts := [4, 5]) (v := (valsCons (valBox celEvent) (valsOne (valBox celBool))))  (step := T_history_Pending_2) g29 okitEvents (fun _ => rfl)  (by kernel_rfl) (fun x e => by kernel_rfl)
noncomputable def s29 : Spec := mkSpec (valsCons (valLst .event) (valsOne (valInt .i64))) (resTup (valsCons (valSt celEvent) (valsOne (valBool)))) C_history_Pending
set_option maxRecDepth 100000 in
theorem ok29 : SpecOK Try.prog 29 s29 :=
  mkSpec_ok (V := e29) (L := (assocL [(2, l29_2)])) (rounds := 20) (depth := 6) g29 (loops_fn (nt := 20) (by kernel_rfl) (ntB_ok (by kernel_rfl)) (loopsOK_cons lok29_2 loopsOK_nil)) (fun x => by kernel_rfl)

/- millstream/history.Counts -/
noncomputable def e31 : Env := env1 []
theorem g31 : GoodEnv e31 := goodEnv mix1 ent1 goods_nil
noncomputable def l31_2 : LSpec := loop1 [2, 3, 4, 7, 8, 9] (valsCons (valInt .i64) (valsCons (valInt .i64) (valsCons (valInt .i64) (valsCons (valLst .event) (valsCons (valInt .i64) (valsOne (valInt .i64))))))) (⟨.exit 0, [2, 3, 4], (valsCons (valInt .i64) (valsCons (valInt .i64) (valsOne (valInt .i64))))⟩ : Way) (whileM T_history_Counts_2)
set_option maxRecDepth 100000 in
theorem lok31_2 : LoopOK e31 31 l31_2 (fnLoop e31.P 31 2) :=
  loop1_ok (L := assocL []) (rounds := 20) (depth := 6) (ts := [2, 3, 4, 7, 8, 9]) (v := (valsCons (valInt .i64) (valsCons (valInt .i64) (valsCons (valInt .i64) (valsCons (valLst .event) (valsCons (valInt .i64) (valsOne (valInt .i64)))))))) (a := ⟨.exit 0, [2, 3, 4], (valsCons (valInt .i64) (valsCons (valInt .i64) (valsOne (valInt .i64))))⟩) (step := T_history_Counts_2) g31 rfl loops_inNil (fun x => by kernel_rfl)
noncomputable def s31 : Spec := mkSpec (valsOne (valLst .event)) (resTup (valsCons (valInt .i64) (valsCons (valInt .i64) (valsOne (valInt .i64))))) C_history_Counts
set_option maxRecDepth 100000 in
theorem ok31 : SpecOK Try.prog 31 s31 :=
  mkSpec_ok (V := e31) (L := (assocL [(2, l31_2)])) (rounds := 20) (depth := 6) g31 (loops_fn (nt := 31) (by kernel_rfl) (ntB_ok (by kernel_rfl)) (loopsOK_cons lok31_2 loopsOK_nil)) (fun x => by kernel_rfl)

/- slices.AppendSeq[[]millstream/thread.Mark,millstream/thread.Mark] -/
noncomputable def e160 : Env := env1 []
theorem g160 : GoodEnv e160 := goodEnv mix1 ent1 goods_nil
noncomputable def l160_2 : LSpec := range1 6 itOwn [2] (valsOne (valBox (celOwn 69 .mark)))  (fold1 itOwn T_slices_AppendSeq_thread_Mark_2)
set_option maxRecDepth 100000 in
theorem lok160_2 : LoopOK e160 13 l160_2 (fnLoop e160.P 160 2) :=
  range1_ok (nt := 13) (n := 1) (rounds := 20) (depth := 6) (gt := 6) (it := itOwn) (ts := [2]) (v := (valsOne (valBox (celOwn 69 .mark))))  (step := T_slices_AppendSeq_thread_Mark_2) g160 okitOwn (fun _ => rfl)  (by kernel_rfl) (fun x e => by kernel_rfl)
noncomputable def s160 : Spec := mkSpecL (valsCons (valNil) (valsOne (valIt itOwn))) (resOne (valOwn 69 .mark)) C_slices_AppendSeq_thread_Mark
set_option maxRecDepth 100000 in
theorem ok160 : SpecOK Try.prog 160 s160 :=
  mkSpecL_ok (V := e160) (L := (assocL [(2, l160_2)])) (rounds := 20) (depth := 6) g160 (loops_fn (nt := 13) (by kernel_rfl) (ntB_ok (by kernel_rfl)) (loopsOK_cons lok160_2 loopsOK_nil)) (fun x => by kernel_rfl)

/- slices.Collect[millstream/thread.Mark] -/
noncomputable def e88 : Env := env1 [(160, s160)]
theorem g88 : GoodEnv e88 := goodEnv mix1 ent1 (goods_cons ok160 rfl goods_nil)
noncomputable def s88 : Spec := mkSpecL (valsOne (valIt itOwn)) (resOne (valOwn 69 .mark)) C_slices_Collect_thread_Mark
set_option maxRecDepth 100000 in
theorem ok88 : SpecOK Try.prog 88 s88 :=
  mkSpecL_ok (V := e88) (L := nL) (rounds := 20) (depth := 6) g88 loops_none (fun x => by kernel_rfl)

/- millstream/history.of -/
noncomputable def e91 : Env := env1 []
theorem g91 : GoodEnv e91 := goodEnv mix1 ent1 goods_nil
noncomputable def s91 : Spec := mkSpec (valsOne (valSt celEvent)) (resOne (valSt celAsked)) C_history_of
set_option maxRecDepth 100000 in
theorem ok91 : SpecOK Try.prog 91 s91 :=
  mkSpec_ok (V := e91) (L := nL) (rounds := 20) (depth := 6) g91 loops_none (fun x => by kernel_rfl)

/- millstream/history.answered -/
noncomputable def e90 : Env := env1 [(84, s84), (91, s91)]
theorem g90 : GoodEnv e90 := goodEnv mix1 ent1 (goods_cons ok84 rfl (goods_cons ok91 rfl goods_nil))
noncomputable def s90 : Spec := mkSpec (valsCons (valSt celConfig) (valsCons (valSt celMark) (valsCons (valSt celEvent) (valsOne (valSt celEvent))))) (resOne (valBool)) C_history_answered
set_option maxRecDepth 100000 in
theorem ok90 : SpecOK Try.prog 90 s90 :=
  mkSpec_ok (V := e90) (L := nL) (rounds := 20) (depth := 6) g90 loops_none (fun x => by kernel_rfl)

/- millstream/history.Answers -/
noncomputable def e33 : Env := env1 [(88, s88), (90, s90), (91, s91)]
theorem g33 : GoodEnv e33 := goodEnv mix1 ent1 (goods_cons ok88 rfl (goods_cons ok90 rfl (goods_cons ok91 rfl goods_nil)))
noncomputable def l33_5 : LSpec := range2 19 itEvents [4, 8, 9, 10, 11] (valsCons (valBox celConfig) (valsCons (valBox celBool) (valsCons (valBox (celLst .mark)) (valsCons (valBox celEvent) (valsOne (valBox celBool)))))) (⟨.ret, [8], (valsOne (valBox celBool))⟩ : Way) (fold2 itEvents T_history_Answers_5)
set_option maxRecDepth 100000 in
theorem lok33_5 : LoopOK e33 78 l33_5 (fnLoop e33.P 33 5) :=
  range2_ok (nt := 78) (n := 1) (rounds := 20) (depth := 6) (gt := 19) (it := itEvents) (ts := [4, 8, 9, 10, 11]) (v := (valsCons (valBox celConfig) (valsCons (valBox celBool) (valsCons (valBox (celLst .mark)) (valsCons (valBox celEvent) (valsOne (valBox celBool))))))) (b := ⟨.ret, [8], (valsOne (valBox celBool))⟩) (step := T_history_Answers_5) g33 okitEvents (fun _ => rfl) rfl (by kernel_rfl) (fun x e => by kernel_rfl)
noncomputable def s33 : Spec := mkSpec (valsCons (valSt celConfig) (valsCons (valLst .mark) (valsCons (valLst .event) (valsOne (valInt .i64))))) (resOne (valBool)) C_history_Answers
set_option maxRecDepth 100000 in
theorem ok33 : SpecOK Try.prog 33 s33 :=
  mkSpec_ok (V := e33) (L := (assocL [(5, l33_5)])) (rounds := 20) (depth := 6) g33 (loops_fn (nt := 78) (by kernel_rfl) (ntB_ok (by kernel_rfl)) (loopsOK_cons lok33_5 loopsOK_nil)) (fun x => by kernel_rfl)

/- millstream/millstreamlaw18.shown -/
noncomputable def e25 : Env := env1 [(27, s27), (29, s29), (31, s31), (33, s33)]
theorem g25 : GoodEnv e25 := goodEnv mix1 ent1 (goods_cons ok27 rfl (goods_cons ok29 rfl (goods_cons ok31 rfl (goods_cons ok33 rfl goods_nil))))
noncomputable def s25 : Spec := mkSpec valsNil (resOne (valBool)) C_law18_shown
set_option maxRecDepth 100000 in
theorem ok25 : SpecOK Try.prog 25 s25 :=
  mkSpec_ok (V := e25) (L := nL) (rounds := 20) (depth := 6) g25 loops_none (fun x => by kernel_rfl)

/- millstream/millstreamlaw18.entries -/
noncomputable def e154 : Env := env1 []
theorem g154 : GoodEnv e154 := goodEnv mix1 ent1 goods_nil
noncomputable def l154_3 : LSpec := loop1 [0, 3, 4] (valsCons (valLst .entry) (valsCons (valOwn 164 .entry) (valsOne (valInt .i64)))) (⟨.exit 0, [3], (valsOne (valOwn 164 .entry))⟩ : Way) (whileM T_law18_entries_3)
set_option maxRecDepth 100000 in
theorem lok154_3 : LoopOK e154 27 l154_3 (fnLoop e154.P 154 3) :=
  loop1_ok (L := assocL []) (rounds := 20) (depth := 6) (ts := [0, 3, 4]) (v := (valsCons (valLst .entry) (valsCons (valOwn 164 .entry) (valsOne (valInt .i64))))) (a := ⟨.exit 0, [3], (valsOne (valOwn 164 .entry))⟩) (step := T_law18_entries_3) g154 rfl loops_inNil (fun x => by kernel_rfl)
noncomputable def s154 : Spec := mkSpec (valsOne (valLst .entry)) (resOne (valOwn 164 .entry)) C_law18_entries
set_option maxRecDepth 100000 in
theorem ok154 : SpecOK Try.prog 154 s154 :=
  mkSpec_ok (V := e154) (L := (assocL [(3, l154_3)])) (rounds := 20) (depth := 6) g154 (loops_fn (nt := 27) (by kernel_rfl) (ntB_ok (by kernel_rfl)) (loopsOK_cons lok154_3 loopsOK_nil)) (fun x => by kernel_rfl)

/- millstream/millstreamlaw18.memory -/
noncomputable def e79 : Env := env1 [(154, s154)]
theorem g79 : GoodEnv e79 := goodEnv mix1 ent1 (goods_cons ok154 rfl goods_nil)
noncomputable def l79_3 : LSpec := loop1 [1, 2, 3, 4] (valsCons (valBox celMemo) (valsCons (valBox celMemo) (valsCons (valBox (celAs (celApp (celLst .int) (celOwn 80 (.lst .entry))) Memo (fun y => ⟨y.1, y.2⟩) (fun x => (x.words, x.boxes)) (fun _ => rfl))) (valsOne (valInt .i64))))) (⟨.exit 0, [2, 3], (valsCons (valBox celMemo) (valsOne (valBox (celAs (celApp (celLst .int) (celOwn 80 (.lst .entry))) Memo (fun y => ⟨y.1, y.2⟩) (fun x => (x.words, x.boxes)) (fun _ => rfl)))))⟩ : Way) (whileM T_law18_memory_3)
set_option maxRecDepth 100000 in
theorem lok79_3 : LoopOK e79 27 l79_3 (fnLoop e79.P 79 3) :=
  loop1_ok (L := assocL []) (rounds := 20) (depth := 6) (ts := [1, 2, 3, 4]) (v := (valsCons (valBox celMemo) (valsCons (valBox celMemo) (valsCons (valBox (celAs (celApp (celLst .int) (celOwn 80 (.lst .entry))) Memo (fun y => ⟨y.1, y.2⟩) (fun x => (x.words, x.boxes)) (fun _ => rfl))) (valsOne (valInt .i64)))))) (a := ⟨.exit 0, [2, 3], (valsCons (valBox celMemo) (valsOne (valBox (celAs (celApp (celLst .int) (celOwn 80 (.lst .entry))) Memo (fun y => ⟨y.1, y.2⟩) (fun x => (x.words, x.boxes)) (fun _ => rfl)))))⟩) (step := T_law18_memory_3) g79 rfl loops_inNil (fun x => by kernel_rfl)
noncomputable def s79 : Spec := mkSpec (valsOne (valSt celMemo)) (resOne (valSt celMemo)) C_law18_memory
set_option maxRecDepth 100000 in
theorem ok79 : SpecOK Try.prog 79 s79 :=
  mkSpec_ok (V := e79) (L := (assocL [(3, l79_3)])) (rounds := 20) (depth := 6) g79 (loops_fn (nt := 27) (by kernel_rfl) (ntB_ok (by kernel_rfl)) (loopsOK_cons lok79_3 loopsOK_nil)) (fun x => by kernel_rfl)

/- millstream/millstreamlaw18.marks -/
noncomputable def e80 : Env := env1 []
theorem g80 : GoodEnv e80 := goodEnv mix1 ent1 goods_nil
noncomputable def l80_3 : LSpec := loop1 [0, 3, 4] (valsCons (valLst .mark) (valsCons (valOwn 129 .mark) (valsOne (valInt .i64)))) (⟨.exit 0, [3], (valsOne (valOwn 129 .mark))⟩ : Way) (whileM T_law18_marks_3)
set_option maxRecDepth 100000 in
theorem lok80_3 : LoopOK e80 42 l80_3 (fnLoop e80.P 80 3) :=
  loop1_ok (L := assocL []) (rounds := 20) (depth := 6) (ts := [0, 3, 4]) (v := (valsCons (valLst .mark) (valsCons (valOwn 129 .mark) (valsOne (valInt .i64))))) (a := ⟨.exit 0, [3], (valsOne (valOwn 129 .mark))⟩) (step := T_law18_marks_3) g80 rfl loops_inNil (fun x => by kernel_rfl)
noncomputable def s80 : Spec := mkSpec (valsOne (valLst .mark)) (resOne (valLst .mark)) C_law18_marks
set_option maxRecDepth 100000 in
theorem ok80 : SpecOK Try.prog 80 s80 :=
  mkSpec_ok (V := e80) (L := (assocL [(3, l80_3)])) (rounds := 20) (depth := 6) g80 (loops_fn (nt := 42) (by kernel_rfl) (ntB_ok (by kernel_rfl)) (loopsOK_cons lok80_3 loopsOK_nil)) (fun x => by kernel_rfl)

/- millstream/millstreamlaw18.fiber -/
noncomputable def e81 : Env := env1 [(154, s154)]
theorem g81 : GoodEnv e81 := goodEnv mix1 ent1 (goods_cons ok154 rfl goods_nil)
noncomputable def l81_3 : LSpec := loop1 [1, 2, 3, 4] (valsCons (valBox celThread) (valsCons (valBox celThread) (valsCons (valBox (celAs (celApp (celInt .i64) (celApp (celInt .i64) (celApp celOp (celApp (celLst .entry) (celApp (celOwn 179 .kid) (celApp (celLst .int) (celApp (celInt .i64) (celApp (celInt .i64) (celApp (celInt .i64) (celApp (celInt .i64) (celApp (celInt .i64) (celApp (celInt .i64) (celApp (celInt .i64) (celApp (celInt .i64) (celApp (celInt .i64) (celInt .i64)))))))))))))))) Thread (fun y => ⟨y.1, y.2.1, y.2.2.1, y.2.2.2.1, y.2.2.2.2.1, y.2.2.2.2.2.1, y.2.2.2.2.2.2.1, y.2.2.2.2.2.2.2.1, y.2.2.2.2.2.2.2.2.1, y.2.2.2.2.2.2.2.2.2.1, y.2.2.2.2.2.2.2.2.2.2.1, y.2.2.2.2.2.2.2.2.2.2.2.1, y.2.2.2.2.2.2.2.2.2.2.2.2.1, y.2.2.2.2.2.2.2.2.2.2.2.2.2.1, y.2.2.2.2.2.2.2.2.2.2.2.2.2.2.1, y.2.2.2.2.2.2.2.2.2.2.2.2.2.2.2⟩) (fun x => (x.phase, (x.item, (x.op, (x.batch, (x.kids, (x.held, (x.stop, (x.node, (x.at_, (x.layer, (x.left, (x.width, (x.who, (x.x, (x.y, x.until_)))))))))))))))) (fun _ => rfl))) (valsOne (valInt .i64))))) (⟨.exit 0, [2, 3], (valsCons (valBox celThread) (valsOne (valBox (celAs (celApp (celInt .i64) (celApp (celInt .i64) (celApp celOp (celApp (celLst .entry) (celApp (celOwn 179 .kid) (celApp (celLst .int) (celApp (celInt .i64) (celApp (celInt .i64) (celApp (celInt .i64) (celApp (celInt .i64) (celApp (celInt .i64) (celApp (celInt .i64) (celApp (celInt .i64) (celApp (celInt .i64) (celApp (celInt .i64) (celInt .i64)))))))))))))))) Thread (fun y => ⟨y.1, y.2.1, y.2.2.1, y.2.2.2.1, y.2.2.2.2.1, y.2.2.2.2.2.1, y.2.2.2.2.2.2.1, y.2.2.2.2.2.2.2.1, y.2.2.2.2.2.2.2.2.1, y.2.2.2.2.2.2.2.2.2.1, y.2.2.2.2.2.2.2.2.2.2.1, y.2.2.2.2.2.2.2.2.2.2.2.1, y.2.2.2.2.2.2.2.2.2.2.2.2.1, y.2.2.2.2.2.2.2.2.2.2.2.2.2.1, y.2.2.2.2.2.2.2.2.2.2.2.2.2.2.1, y.2.2.2.2.2.2.2.2.2.2.2.2.2.2.2⟩) (fun x => (x.phase, (x.item, (x.op, (x.batch, (x.kids, (x.held, (x.stop, (x.node, (x.at_, (x.layer, (x.left, (x.width, (x.who, (x.x, (x.y, x.until_)))))))))))))))) (fun _ => rfl)))))⟩ : Way) (whileM T_law18_fiber_3)
set_option maxRecDepth 100000 in
theorem lok81_3 : LoopOK e81 55 l81_3 (fnLoop e81.P 81 3) :=
  loop1_ok (L := assocL []) (rounds := 20) (depth := 6) (ts := [1, 2, 3, 4]) (v := (valsCons (valBox celThread) (valsCons (valBox celThread) (valsCons (valBox (celAs (celApp (celInt .i64) (celApp (celInt .i64) (celApp celOp (celApp (celLst .entry) (celApp (celOwn 179 .kid) (celApp (celLst .int) (celApp (celInt .i64) (celApp (celInt .i64) (celApp (celInt .i64) (celApp (celInt .i64) (celApp (celInt .i64) (celApp (celInt .i64) (celApp (celInt .i64) (celApp (celInt .i64) (celApp (celInt .i64) (celInt .i64)))))))))))))))) Thread (fun y => ⟨y.1, y.2.1, y.2.2.1, y.2.2.2.1, y.2.2.2.2.1, y.2.2.2.2.2.1, y.2.2.2.2.2.2.1, y.2.2.2.2.2.2.2.1, y.2.2.2.2.2.2.2.2.1, y.2.2.2.2.2.2.2.2.2.1, y.2.2.2.2.2.2.2.2.2.2.1, y.2.2.2.2.2.2.2.2.2.2.2.1, y.2.2.2.2.2.2.2.2.2.2.2.2.1, y.2.2.2.2.2.2.2.2.2.2.2.2.2.1, y.2.2.2.2.2.2.2.2.2.2.2.2.2.2.1, y.2.2.2.2.2.2.2.2.2.2.2.2.2.2.2⟩) (fun x => (x.phase, (x.item, (x.op, (x.batch, (x.kids, (x.held, (x.stop, (x.node, (x.at_, (x.layer, (x.left, (x.width, (x.who, (x.x, (x.y, x.until_)))))))))))))))) (fun _ => rfl))) (valsOne (valInt .i64)))))) (a := ⟨.exit 0, [2, 3], (valsCons (valBox celThread) (valsOne (valBox (celAs (celApp (celInt .i64) (celApp (celInt .i64) (celApp celOp (celApp (celLst .entry) (celApp (celOwn 179 .kid) (celApp (celLst .int) (celApp (celInt .i64) (celApp (celInt .i64) (celApp (celInt .i64) (celApp (celInt .i64) (celApp (celInt .i64) (celApp (celInt .i64) (celApp (celInt .i64) (celApp (celInt .i64) (celApp (celInt .i64) (celInt .i64)))))))))))))))) Thread (fun y => ⟨y.1, y.2.1, y.2.2.1, y.2.2.2.1, y.2.2.2.2.1, y.2.2.2.2.2.1, y.2.2.2.2.2.2.1, y.2.2.2.2.2.2.2.1, y.2.2.2.2.2.2.2.2.1, y.2.2.2.2.2.2.2.2.2.1, y.2.2.2.2.2.2.2.2.2.2.1, y.2.2.2.2.2.2.2.2.2.2.2.1, y.2.2.2.2.2.2.2.2.2.2.2.2.1, y.2.2.2.2.2.2.2.2.2.2.2.2.2.1, y.2.2.2.2.2.2.2.2.2.2.2.2.2.2.1, y.2.2.2.2.2.2.2.2.2.2.2.2.2.2.2⟩) (fun x => (x.phase, (x.item, (x.op, (x.batch, (x.kids, (x.held, (x.stop, (x.node, (x.at_, (x.layer, (x.left, (x.width, (x.who, (x.x, (x.y, x.until_)))))))))))))))) (fun _ => rfl)))))⟩) (step := T_law18_fiber_3) g81 rfl loops_inNil (fun x => by kernel_rfl)
noncomputable def s81 : Spec := mkSpec (valsOne (valSt celThread)) (resOne (valSt celThread)) C_law18_fiber
set_option maxRecDepth 100000 in
theorem ok81 : SpecOK Try.prog 81 s81 :=
  mkSpec_ok (V := e81) (L := (assocL [(3, l81_3)])) (rounds := 20) (depth := 6) g81 (loops_fn (nt := 55) (by kernel_rfl) (ntB_ok (by kernel_rfl)) (loopsOK_cons lok81_3 loopsOK_nil)) (fun x => by kernel_rfl)

/- millstream/millstreamlaw18.theirs -/
noncomputable def e26 : Env := env1 [(79, s79), (80, s80), (81, s81)]
theorem g26 : GoodEnv e26 := goodEnv mix1 ent1 (goods_cons ok79 rfl (goods_cons ok80 rfl (goods_cons ok81 rfl goods_nil)))
noncomputable def l26_7 : LSpec := loop1 [1, 2, 3, 5] (valsCons (valBox celWld) (valsCons (valBox celWld) (valsCons (valBox (celAs (celApp celConfig (celApp celMemo (celApp (celOwn 83 .thread) (celApp (celInt .i64) (celApp (celInt .i64) (celApp celTape (celApp (celLst .mark) (celOwn 58 .event)))))))) Wld (fun y => ⟨y.1, y.2.1, y.2.2.1, y.2.2.2.1, y.2.2.2.2.1, y.2.2.2.2.2.1, y.2.2.2.2.2.2.1, y.2.2.2.2.2.2.2⟩) (fun x => (x.c, (x.m, (x.t, (x.now, (x.steps, (x.tape, (x.log, x.hist)))))))) (fun _ => rfl))) (valsOne (valInt .i64))))) (⟨.exit 2, [2, 3], (valsCons (valBox celWld) (valsOne (valBox (celAs (celApp celConfig (celApp celMemo (celApp (celOwn 83 .thread) (celApp (celInt .i64) (celApp (celInt .i64) (celApp celTape (celApp (celLst .mark) (celOwn 58 .event)))))))) Wld (fun y => ⟨y.1, y.2.1, y.2.2.1, y.2.2.2.1, y.2.2.2.2.1, y.2.2.2.2.2.1, y.2.2.2.2.2.2.1, y.2.2.2.2.2.2.2⟩) (fun x => (x.c, (x.m, (x.t, (x.now, (x.steps, (x.tape, (x.log, x.hist)))))))) (fun _ => rfl)))))⟩ : Way) (whileM T_law18_theirs_7)
set_option maxRecDepth 100000 in
theorem lok26_7 : LoopOK e26 78 l26_7 (fnLoop e26.P 26 7) :=
  loop1_ok (L := assocL []) (rounds := 20) (depth := 6) (ts := [1, 2, 3, 5]) (v := (valsCons (valBox celWld) (valsCons (valBox celWld) (valsCons (valBox (celAs (celApp celConfig (celApp celMemo (celApp (celOwn 83 .thread) (celApp (celInt .i64) (celApp (celInt .i64) (celApp celTape (celApp (celLst .mark) (celOwn 58 .event)))))))) Wld (fun y => ⟨y.1, y.2.1, y.2.2.1, y.2.2.2.1, y.2.2.2.2.1, y.2.2.2.2.2.1, y.2.2.2.2.2.2.1, y.2.2.2.2.2.2.2⟩) (fun x => (x.c, (x.m, (x.t, (x.now, (x.steps, (x.tape, (x.log, x.hist)))))))) (fun _ => rfl))) (valsOne (valInt .i64)))))) (a := ⟨.exit 2, [2, 3], (valsCons (valBox celWld) (valsOne (valBox (celAs (celApp celConfig (celApp celMemo (celApp (celOwn 83 .thread) (celApp (celInt .i64) (celApp (celInt .i64) (celApp celTape (celApp (celLst .mark) (celOwn 58 .event)))))))) Wld (fun y => ⟨y.1, y.2.1, y.2.2.1, y.2.2.2.1, y.2.2.2.2.1, y.2.2.2.2.2.1, y.2.2.2.2.2.2.1, y.2.2.2.2.2.2.2⟩) (fun x => (x.c, (x.m, (x.t, (x.now, (x.steps, (x.tape, (x.log, x.hist)))))))) (fun _ => rfl)))))⟩) (step := T_law18_theirs_7) g26 rfl loops_inNil (fun x => by kernel_rfl)
noncomputable def l26_3 : LSpec := loop1 [1, 2, 3, 4] (valsCons (valBox celWld) (valsCons (valBox celWld) (valsCons (valBox (celAs (celApp celConfig (celApp celMemo (celApp (celOwn 83 .thread) (celApp (celInt .i64) (celApp (celInt .i64) (celApp celTape (celApp (celLst .mark) (celOwn 58 .event)))))))) Wld (fun y => ⟨y.1, y.2.1, y.2.2.1, y.2.2.2.1, y.2.2.2.2.1, y.2.2.2.2.2.1, y.2.2.2.2.2.2.1, y.2.2.2.2.2.2.2⟩) (fun x => (x.c, (x.m, (x.t, (x.now, (x.steps, (x.tape, (x.log, x.hist)))))))) (fun _ => rfl))) (valsOne (valInt .i64))))) (⟨.exit 0, [1, 2, 3], (valsCons (valBox celWld) (valsCons (valBox celWld) (valsOne (valBox (celAs (celApp celConfig (celApp celMemo (celApp (celOwn 83 .thread) (celApp (celInt .i64) (celApp (celInt .i64) (celApp celTape (celApp (celLst .mark) (celOwn 58 .event)))))))) Wld (fun y => ⟨y.1, y.2.1, y.2.2.1, y.2.2.2.1, y.2.2.2.2.1, y.2.2.2.2.2.1, y.2.2.2.2.2.2.1, y.2.2.2.2.2.2.2⟩) (fun x => (x.c, (x.m, (x.t, (x.now, (x.steps, (x.tape, (x.log, x.hist)))))))) (fun _ => rfl))))))⟩ : Way) (whileM T_law18_theirs_3)
set_option maxRecDepth 100000 in
theorem lok26_3 : LoopOK e26 78 l26_3 (fnLoop e26.P 26 3) :=
  loop1_ok (L := assocL []) (rounds := 20) (depth := 6) (ts := [1, 2, 3, 4]) (v := (valsCons (valBox celWld) (valsCons (valBox celWld) (valsCons (valBox (celAs (celApp celConfig (celApp celMemo (celApp (celOwn 83 .thread) (celApp (celInt .i64) (celApp (celInt .i64) (celApp celTape (celApp (celLst .mark) (celOwn 58 .event)))))))) Wld (fun y => ⟨y.1, y.2.1, y.2.2.1, y.2.2.2.1, y.2.2.2.2.1, y.2.2.2.2.2.1, y.2.2.2.2.2.2.1, y.2.2.2.2.2.2.2⟩) (fun x => (x.c, (x.m, (x.t, (x.now, (x.steps, (x.tape, (x.log, x.hist)))))))) (fun _ => rfl))) (valsOne (valInt .i64)))))) (a := ⟨.exit 0, [1, 2, 3], (valsCons (valBox celWld) (valsCons (valBox celWld) (valsOne (valBox (celAs (celApp celConfig (celApp celMemo (celApp (celOwn 83 .thread) (celApp (celInt .i64) (celApp (celInt .i64) (celApp celTape (celApp (celLst .mark) (celOwn 58 .event)))))))) Wld (fun y => ⟨y.1, y.2.1, y.2.2.1, y.2.2.2.1, y.2.2.2.2.1, y.2.2.2.2.2.1, y.2.2.2.2.2.2.1, y.2.2.2.2.2.2.2⟩) (fun x => (x.c, (x.m, (x.t, (x.now, (x.steps, (x.tape, (x.log, x.hist)))))))) (fun _ => rfl))))))⟩) (step := T_law18_theirs_3) g26 rfl loops_inNil (fun x => by kernel_rfl)
noncomputable def s26 : Spec := mkSpec (valsOne (valSt celWld)) (resOne (valSt celWld)) C_law18_theirs
set_option maxRecDepth 100000 in
theorem ok26 : SpecOK Try.prog 26 s26 :=
  mkSpec_ok (V := e26) (L := (assocL [(7, l26_7), (3, l26_3)])) (rounds := 20) (depth := 6) g26 (loops_fn (nt := 78) (by kernel_rfl) (ntB_ok (by kernel_rfl)) (loopsOK_cons lok26_7 (loopsOK_cons lok26_3 loopsOK_nil))) (fun x => by kernel_rfl)

/- millstream/millstreamref01.sum -/
noncomputable def e157 : Env := env1 []
theorem g157 : GoodEnv e157 := goodEnv mix1 ent1 goods_nil
noncomputable def s157 : Spec := mkSpec (valsCons (valInt .i64) (valsOne (valInt .i64))) (resTup (valsCons (valInt .i64) (valsOne (valBool)))) C_ref01_sum
set_option maxRecDepth 100000 in
theorem ok157 : SpecOK Try.prog 157 s157 :=
  mkSpec_ok (V := e157) (L := nL) (rounds := 20) (depth := 6) g157 loops_none (fun x => by kernel_rfl)

/- millstream/millstreamref01.Apply -/
noncomputable def e85 : Env := env1 [(157, s157)]
theorem g85 : GoodEnv e85 := goodEnv mix1 ent1 (goods_cons ok157 rfl goods_nil)
noncomputable def s85 : Spec := mkSpec (valsCons (valSt celOp) (valsCons (valInt .i64) (valsCons (valInt .i64) (valsOne (valInt .i64))))) (resTup (valsCons (valInt .i64) (valsOne (valBool)))) C_ref01_Apply
set_option maxRecDepth 100000 in
theorem ok85 : SpecOK Try.prog 85 s85 :=
  mkSpec_ok (V := e85) (L := nL) (rounds := 20) (depth := 6) g85 loops_none (fun x => by kernel_rfl)

/- millstream/millstreamref18.Replay -/
noncomputable def e28 : Env := env1 [(85, s85)]
theorem g28 : GoodEnv e28 := goodEnv mix1 ent1 (goods_cons ok85 rfl goods_nil)
noncomputable def l28_4 : LSpec := loop1 [1, 2, 3, 8, 9, 10] (valsCons (valLst .mark) (valsCons (valInt .i64) (valsCons (valBox celConfig) (valsCons (valInt .i64) (valsCons (valBool) (valsOne (valInt .i64))))))) (⟨.exit 0, [8, 9], (valsCons (valInt .i64) (valsOne (valBool)))⟩ : Way) (whileM T_ref18_Replay_4)
set_option maxRecDepth 100000 in
theorem lok28_4 : LoopOK e28 52 l28_4 (fnLoop e28.P 28 4) :=
  loop1_ok (L := assocL []) (rounds := 20) (depth := 6) (ts := [1, 2, 3, 8, 9, 10]) (v := (valsCons (valLst .mark) (valsCons (valInt .i64) (valsCons (valBox celConfig) (valsCons (valInt .i64) (valsCons (valBool) (valsOne (valInt .i64)))))))) (a := ⟨.exit 0, [8, 9], (valsCons (valInt .i64) (valsOne (valBool)))⟩) (step := T_ref18_Replay_4) g28 rfl loops_inNil (fun x => by kernel_rfl)
noncomputable def s28 : Spec := mkSpec (valsCons (valSt celConfig) (valsCons (valLst .mark) (valsOne (valInt .i64)))) (resTup (valsCons (valInt .i64) (valsOne (valBool)))) C_ref18_Replay
set_option maxRecDepth 100000 in
theorem ok28 : SpecOK Try.prog 28 s28 :=
  mkSpec_ok (V := e28) (L := (assocL [(4, l28_4)])) (rounds := 20) (depth := 6) g28 (loops_fn (nt := 52) (by kernel_rfl) (ntB_ok (by kernel_rfl)) (loopsOK_cons lok28_4 loopsOK_nil)) (fun x => by kernel_rfl)

/- millstream/millstreamref18.events -/
noncomputable def e87 : Env := env1 []
theorem g87 : GoodEnv e87 := goodEnv mix1 ent1 goods_nil
noncomputable def l87_3 : LSpec := loop1 [0, 1, 5, 6] (valsCons (valLst .event) (valsCons (valInt .i64) (valsCons (valOwn 58 .event) (valsOne (valInt .i64))))) (⟨.exit 0, [5], (valsOne (valOwn 58 .event))⟩ : Way) (whileM T_ref18_events_3)
set_option maxRecDepth 100000 in
theorem lok87_3 : LoopOK e87 37 l87_3 (fnLoop e87.P 87 3) :=
  loop1_ok (L := assocL []) (rounds := 20) (depth := 6) (ts := [0, 1, 5, 6]) (v := (valsCons (valLst .event) (valsCons (valInt .i64) (valsCons (valOwn 58 .event) (valsOne (valInt .i64)))))) (a := ⟨.exit 0, [5], (valsOne (valOwn 58 .event))⟩) (step := T_ref18_events_3) g87 rfl loops_inNil (fun x => by kernel_rfl)
noncomputable def s87 : Spec := mkSpec (valsCons (valLst .event) (valsOne (valInt .i64))) (resOne (valLst .event)) C_ref18_events
set_option maxRecDepth 100000 in
theorem ok87 : SpecOK Try.prog 87 s87 :=
  mkSpec_ok (V := e87) (L := (assocL [(3, l87_3)])) (rounds := 20) (depth := 6) g87 (loops_fn (nt := 37) (by kernel_rfl) (ntB_ok (by kernel_rfl)) (loopsOK_cons lok87_3 loopsOK_nil)) (fun x => by kernel_rfl)

/- millstream/millstreamref18.Pending -/
noncomputable def e30 : Env := env1 [(87, s87)]
theorem g30 : GoodEnv e30 := goodEnv mix1 ent1 (goods_cons ok87 rfl goods_nil)
noncomputable def s30 : Spec := mkSpec (valsCons (valLst .event) (valsOne (valInt .i64))) (resTup (valsCons (valSt celEvent) (valsOne (valBool)))) C_ref18_Pending
set_option maxRecDepth 100000 in
theorem ok30 : SpecOK Try.prog 30 s30 :=
  mkSpec_ok (V := e30) (L := nL) (rounds := 20) (depth := 6) g30 loops_none (fun x => by kernel_rfl)

/- millstream/millstreamref18.Counts -/
noncomputable def e32 : Env := env1 []
theorem g32 : GoodEnv e32 := goodEnv mix1 ent1 goods_nil
noncomputable def l32_3 : LSpec := loop1 [0, 5, 6] (valsCons (valLst .event) (valsCons (valBox (celApp (celInt .i64) (celApp (celInt .i64) (celApp (celInt .i64) (celInt .i64))))) (valsOne (valInt .i64)))) (⟨.exit 0, [5], (valsOne (valBox (celApp (celInt .i64) (celApp (celInt .i64) (celApp (celInt .i64) (celInt .i64))))))⟩ : Way) (whileM T_ref18_Counts_3)
set_option maxRecDepth 100000 in
theorem lok32_3 : LoopOK e32 43 l32_3 (fnLoop e32.P 32 3) :=
  loop1_ok (L := assocL []) (rounds := 20) (depth := 6) (ts := [0, 5, 6]) (v := (valsCons (valLst .event) (valsCons (valBox (celApp (celInt .i64) (celApp (celInt .i64) (celApp (celInt .i64) (celInt .i64))))) (valsOne (valInt .i64))))) (a := ⟨.exit 0, [5], (valsOne (valBox (celApp (celInt .i64) (celApp (celInt .i64) (celApp (celInt .i64) (celInt .i64))))))⟩) (step := T_ref18_Counts_3) g32 rfl loops_inNil (fun x => by kernel_rfl)
noncomputable def s32 : Spec := mkSpec (valsOne (valLst .event)) (resTup (valsCons (valInt .i64) (valsCons (valInt .i64) (valsOne (valInt .i64))))) C_ref18_Counts
set_option maxRecDepth 100000 in
theorem ok32 : SpecOK Try.prog 32 s32 :=
  mkSpec_ok (V := e32) (L := (assocL [(3, l32_3)])) (rounds := 20) (depth := 6) g32 (loops_fn (nt := 43) (by kernel_rfl) (ntB_ok (by kernel_rfl)) (loopsOK_cons lok32_3 loopsOK_nil)) (fun x => by kernel_rfl)

/- millstream/millstreamref18.own -/
noncomputable def e92 : Env := env1 []
theorem g92 : GoodEnv e92 := goodEnv mix1 ent1 goods_nil
noncomputable def l92_3 : LSpec := loop1 [0, 1, 5, 6] (valsCons (valLst .mark) (valsCons (valInt .i64) (valsCons (valOwn 129 .mark) (valsOne (valInt .i64))))) (⟨.exit 0, [5], (valsOne (valOwn 129 .mark))⟩ : Way) (whileM T_ref18_own_3)
set_option maxRecDepth 100000 in
theorem lok92_3 : LoopOK e92 29 l92_3 (fnLoop e92.P 92 3) :=
  loop1_ok (L := assocL []) (rounds := 20) (depth := 6) (ts := [0, 1, 5, 6]) (v := (valsCons (valLst .mark) (valsCons (valInt .i64) (valsCons (valOwn 129 .mark) (valsOne (valInt .i64)))))) (a := ⟨.exit 0, [5], (valsOne (valOwn 129 .mark))⟩) (step := T_ref18_own_3) g92 rfl loops_inNil (fun x => by kernel_rfl)
noncomputable def s92 : Spec := mkSpec (valsCons (valLst .mark) (valsOne (valInt .i64))) (resOne (valLst .mark)) C_ref18_own
set_option maxRecDepth 100000 in
theorem ok92 : SpecOK Try.prog 92 s92 :=
  mkSpec_ok (V := e92) (L := (assocL [(3, l92_3)])) (rounds := 20) (depth := 6) g92 (loops_fn (nt := 29) (by kernel_rfl) (ntB_ok (by kernel_rfl)) (loopsOK_cons lok92_3 loopsOK_nil)) (fun x => by kernel_rfl)

/- millstream/millstreamref18.Answers -/
noncomputable def e34 : Env := env1 [(85, s85), (87, s87), (92, s92)]
theorem g34 : GoodEnv e34 := goodEnv mix1 ent1 (goods_cons ok85 rfl (goods_cons ok87 rfl (goods_cons ok92 rfl goods_nil)))
noncomputable def l34_4 : LSpec := loop2 [4, 9, 10, 11] (valsCons (valBox celConfig) (valsCons (valLst .mark) (valsCons (valLst .event) (valsOne (valInt .i64))))) (⟨.exit 0, [9, 10], (valsCons (valLst .mark) (valsOne (valLst .event)))⟩ : Way) (⟨.ret, [8], (valsOne (valBool))⟩ : Way) (whileM T_ref18_Answers_4)
set_option maxRecDepth 100000 in
theorem lok34_4 : LoopOK e34 221 l34_4 (fnLoop e34.P 34 4) :=
  loop2_ok (L := assocL []) (rounds := 20) (depth := 6) (ts := [4, 9, 10, 11]) (v := (valsCons (valBox celConfig) (valsCons (valLst .mark) (valsCons (valLst .event) (valsOne (valInt .i64)))))) (a := ⟨.exit 0, [9, 10], (valsCons (valLst .mark) (valsOne (valLst .event)))⟩) (b := ⟨.ret, [8], (valsOne (valBool))⟩) (step := T_ref18_Answers_4) g34 rfl rfl loops_inNil (fun x => by kernel_rfl)
noncomputable def s34 : Spec := mkSpec (valsCons (valSt celConfig) (valsCons (valLst .mark) (valsCons (valLst .event) (valsOne (valInt .i64))))) (resOne (valBool)) C_ref18_Answers
set_option maxRecDepth 100000 in
theorem ok34 : SpecOK Try.prog 34 s34 :=
  mkSpec_ok (V := e34) (L := (assocL [(4, l34_4)])) (rounds := 20) (depth := 6) g34 (loops_fn (nt := 221) (by kernel_rfl) (ntB_ok (by kernel_rfl)) (loopsOK_cons lok34_4 loopsOK_nil)) (fun x => by kernel_rfl)

/- millstream/millstreamlaw18.HistoryTells -/
noncomputable def e3 : Env := env1 [(25, s25), (26, s26), (27, s27), (28, s28), (29, s29), (30, s30), (31, s31), (32, s32), (33, s33), (34, s34)]
theorem g3 : GoodEnv e3 := goodEnv mix1 ent1 (goods_cons ok25 rfl (goods_cons ok26 rfl (goods_cons ok27 rfl (goods_cons ok28 rfl (goods_cons ok29 rfl (goods_cons ok30 rfl (goods_cons ok31 rfl (goods_cons ok32 rfl (goods_cons ok33 rfl (goods_cons ok34 rfl goods_nil))))))))))
noncomputable def s3 : Spec := mkSpec (valsCons (valSt celConfig) (valsCons (valLst .mark) (valsCons (valLst .event) (valsCons (valInt .i64) (valsOne (valInt .i64)))))) (resOne (valBool)) C_law18_HistoryTells
set_option maxRecDepth 100000 in
theorem ok3 : SpecOK Try.prog 3 s3 :=
  mkSpec_ok (V := e3) (L := nL) (rounds := 20) (depth := 6) g3 loops_none (fun x => by kernel_rfl)

/- millstream/millstreamlaw18.HistoryRefused -/
noncomputable def e4 : Env := env1 [(25, s25), (29, s29), (33, s33)]
theorem g4 : GoodEnv e4 := goodEnv mix1 ent1 (goods_cons ok25 rfl (goods_cons ok29 rfl (goods_cons ok33 rfl goods_nil)))
noncomputable def s4 : Spec := mkSpec (valsCons (valSt celConfig) (valsCons (valLst .mark) (valsCons (valLst .event) (valsCons (valInt .i64) (valsCons (valSt celEvent) (valsOne (valInt .u8))))))) (resOne (valBool)) C_law18_HistoryRefused
set_option maxRecDepth 100000 in
theorem ok4 : SpecOK Try.prog 4 s4 :=
  mkSpec_ok (V := e4) (L := nL) (rounds := 20) (depth := 6) g4 loops_none (fun x => by kernel_rfl)

/- millstream/millstreamlaw18.HistoryParts -/
noncomputable def e5 : Env := env1 [(25, s25), (27, s27)]
theorem g5 : GoodEnv e5 := goodEnv mix1 ent1 (goods_cons ok25 rfl (goods_cons ok27 rfl goods_nil))
noncomputable def l5_10 : LSpec := loop1 [1, 3, 4, 9, 10, 12, 13, 14, 15, 16, 17] (valsCons (valLst .mark) (valsCons (valInt .i64) (valsCons (valBox celConfig) (valsCons (valInt .i64) (valsCons (valBool) (valsCons (valInt .i64) (valsCons (valBool) (valsCons (valInt .i64) (valsCons (valBool) (valsCons (valOwn 69 .mark) (valsOne (valInt .i64)))))))))))) (⟨.exit 0, [3, 4, 9, 10, 12, 13, 14, 15, 16], (valsCons (valInt .i64) (valsCons (valBox celConfig) (valsCons (valInt .i64) (valsCons (valBool) (valsCons (valInt .i64) (valsCons (valBool) (valsCons (valInt .i64) (valsCons (valBool) (valsOne (valOwn 69 .mark))))))))))⟩ : Way) (whileM T_law18_HistoryParts_10)
set_option maxRecDepth 100000 in
theorem lok5_10 : LoopOK e5 110 l5_10 (fnLoop e5.P 5 10) :=
  loop1_ok (L := assocL []) (rounds := 20) (depth := 6) (ts := [1, 3, 4, 9, 10, 12, 13, 14, 15, 16, 17]) (v := (valsCons (valLst .mark) (valsCons (valInt .i64) (valsCons (valBox celConfig) (valsCons (valInt .i64) (valsCons (valBool) (valsCons (valInt .i64) (valsCons (valBool) (valsCons (valInt .i64) (valsCons (valBool) (valsCons (valOwn 69 .mark) (valsOne (valInt .i64))))))))))))) (a := ⟨.exit 0, [3, 4, 9, 10, 12, 13, 14, 15, 16], (valsCons (valInt .i64) (valsCons (valBox celConfig) (valsCons (valInt .i64) (valsCons (valBool) (valsCons (valInt .i64) (valsCons (valBool) (valsCons (valInt .i64) (valsCons (valBool) (valsOne (valOwn 69 .mark))))))))))⟩) (step := T_law18_HistoryParts_10) g5 rfl loops_inNil (fun x => by kernel_rfl)
noncomputable def s5 : Spec := mkSpec (valsCons (valSt celConfig) (valsCons (valLst .mark) (valsCons (valLst .mark) (valsOne (valInt .i64))))) (resOne (valBool)) C_law18_HistoryParts
set_option maxRecDepth 100000 in
theorem ok5 : SpecOK Try.prog 5 s5 :=
  mkSpec_ok (V := e5) (L := (assocL [(10, l5_10)])) (rounds := 20) (depth := 6) g5 (loops_fn (nt := 110) (by kernel_rfl) (ntB_ok (by kernel_rfl)) (loopsOK_cons lok5_10 loopsOK_nil)) (fun x => by kernel_rfl)

/- millstream/millstreamlaw18.heap -/
noncomputable def e56 : Env := env1 []
theorem g56 : GoodEnv e56 := goodEnv mix1 ent1 goods_nil
noncomputable def l56_7 : LSpec := loop2 [1, 4] (valsCons (valBox celWld) (valsOne (valInt .i64))) (⟨.exit 2, [1], (valsOne (valBox celWld))⟩ : Way) (⟨.ret, [2], (valsOne (valBool))⟩ : Way) (whileM T_law18_heap_7)
set_option maxRecDepth 100000 in
theorem lok56_7 : LoopOK e56 101 l56_7 (fnLoop e56.P 56 7) :=
  loop2_ok (L := assocL []) (rounds := 20) (depth := 6) (ts := [1, 4]) (v := (valsCons (valBox celWld) (valsOne (valInt .i64)))) (a := ⟨.exit 2, [1], (valsOne (valBox celWld))⟩) (b := ⟨.ret, [2], (valsOne (valBool))⟩) (step := T_law18_heap_7) g56 rfl rfl loops_inNil (fun x => by kernel_rfl)
noncomputable def l56_2 : LSpec := loop2 [1, 3] (valsCons (valBox celWld) (valsOne (valInt .i64))) (⟨.exit 0, [1], (valsOne (valBox celWld))⟩ : Way) (⟨.ret, [2], (valsOne (valBool))⟩ : Way) (whileM T_law18_heap_2)
set_option maxRecDepth 100000 in
theorem lok56_2 : LoopOK e56 101 l56_2 (fnLoop e56.P 56 2) :=
  loop2_ok (L := assocL []) (rounds := 20) (depth := 6) (ts := [1, 3]) (v := (valsCons (valBox celWld) (valsOne (valInt .i64)))) (a := ⟨.exit 0, [1], (valsOne (valBox celWld))⟩) (b := ⟨.ret, [2], (valsOne (valBool))⟩) (step := T_law18_heap_2) g56 rfl rfl loops_inNil (fun x => by kernel_rfl)
noncomputable def s56 : Spec := mkSpec (valsOne (valSt celWld)) (resOne (valBool)) C_law18_heap
set_option maxRecDepth 100000 in
theorem ok56 : SpecOK Try.prog 56 s56 :=
  mkSpec_ok (V := e56) (L := (assocL [(7, l56_7), (2, l56_2)])) (rounds := 20) (depth := 6) g56 (loops_fn (nt := 101) (by kernel_rfl) (ntB_ok (by kernel_rfl)) (loopsOK_cons lok56_7 (loopsOK_cons lok56_2 loopsOK_nil))) (fun x => by kernel_rfl)

/- millstream/wmem.at[int] -/
noncomputable def e171 : Env := env1 []
theorem g171 : GoodEnv e171 := goodEnv mix1 ent1 goods_nil
noncomputable def s171 : Spec := mkSpec (valsCons (valLst .int) (valsOne (valInt .i64))) (resTup (valsCons (valInt .i64) (valsOne (valInt .i64)))) C_wmem_at_int
set_option maxRecDepth 100000 in
theorem ok171 : SpecOK Try.prog 171 s171 :=
  mkSpec_ok (V := e171) (L := nL) (rounds := 20) (depth := 6) g171 loops_none (fun x => by kernel_rfl)

/- millstream/wmem.Load -/
noncomputable def e97 : Env := env1 [(171, s171)]
theorem g97 : GoodEnv e97 := goodEnv mix1 ent1 (goods_cons ok171 rfl goods_nil)
noncomputable def s97 : Spec := mkSpec (valsCons (valSt celMemo) (valsOne (valInt .i64))) (resTup (valsCons (valInt .i64) (valsOne (valInt .i64)))) C_wmem_Load
set_option maxRecDepth 100000 in
theorem ok97 : SpecOK Try.prog 97 s97 :=
  mkSpec_ok (V := e97) (L := nL) (rounds := 20) (depth := 6) g97 loops_none (fun x => by kernel_rfl)

/- millstream/arena.Nodes -/
noncomputable def e163 : Env := env1 []
theorem g163 : GoodEnv e163 := goodEnv mix1 ent1 goods_nil
noncomputable def s163 : Spec := mkSpec (valsOne (valSt celConfig)) (resOne (valInt .i64)) C_arena_Nodes
set_option maxRecDepth 100000 in
theorem ok163 : SpecOK Try.prog 163 s163 :=
  mkSpec_ok (V := e163) (L := nL) (rounds := 20) (depth := 6) g163 loops_none (fun x => by kernel_rfl)

/- millstream/arena.of -/
noncomputable def e165 : Env := env1 [(163, s163)]
theorem g165 : GoodEnv e165 := goodEnv mix1 ent1 (goods_cons ok163 rfl goods_nil)
noncomputable def s165 : Spec := mkSpec (valsOne (valSt celConfig)) (resOne (valSt celPlan)) C_arena_of
set_option maxRecDepth 100000 in
theorem ok165 : SpecOK Try.prog 165 s165 :=
  mkSpec_ok (V := e165) (L := nL) (rounds := 20) (depth := 6) g165 loops_none (fun x => by kernel_rfl)

/- millstream/arena.Cell -/
noncomputable def e117 : Env := env1 [(165, s165)]
theorem g117 : GoodEnv e117 := goodEnv mix1 ent1 (goods_cons ok165 rfl goods_nil)
noncomputable def s117 : Spec := mkSpec (valsCons (valSt celConfig) (valsOne (valInt .i64))) (resOne (valInt .i64)) C_arena_Cell
set_option maxRecDepth 100000 in
theorem ok117 : SpecOK Try.prog 117 s117 :=
  mkSpec_ok (V := e117) (L := nL) (rounds := 20) (depth := 6) g117 loops_none (fun x => by kernel_rfl)

/- millstream/config.Check -/
noncomputable def e121 : Env := env1 []
theorem g121 : GoodEnv e121 := goodEnv mix1 ent1 goods_nil
noncomputable def l121_2 : LSpec := loop2 [1, 29, 30] (valsCons (valBox celConfig) (valsCons (valSt (celApp (celInt .i64) (celApp (celInt .i64) (celApp (celInt .i64) (celApp (celInt .i64) (celApp (celInt .i64) (celApp (celInt .i64) (celApp (celInt .i64) (celApp (celInt .i64) (celApp (celInt .i64) (celApp (celInt .i64) (celApp (celInt .i64) (celApp (celInt .i64) (celApp (celInt .i64) (celApp (celInt .i64) (celApp (celInt .i64) (celApp (celInt .i64) (celApp (celInt .i64) (celApp (celInt .i64) (celApp (celInt .i64) (celApp (celInt .i64) (celApp (celInt .i64) (celApp (celInt .i64) (celApp (celInt .i64) (celInt .i64))))))))))))))))))))))))) (valsOne (valInt .i64)))) (⟨.exit 0, [1], (valsOne (valBox celConfig))⟩ : Way) (⟨.ret, [2], (valsOne (valInt .i64))⟩ : Way) (whileM T_config_Check_2)
set_option maxRecDepth 100000 in
theorem lok121_2 : LoopOK e121 65 l121_2 (fnLoop e121.P 121 2) :=
  loop2_ok (L := assocL []) (rounds := 20) (depth := 6) (ts := [1, 29, 30]) (v := (valsCons (valBox celConfig) (valsCons (valSt (celApp (celInt .i64) (celApp (celInt .i64) (celApp (celInt .i64) (celApp (celInt .i64) (celApp (celInt .i64) (celApp (celInt .i64) (celApp (celInt .i64) (celApp (celInt .i64) (celApp (celInt .i64) (celApp (celInt .i64) (celApp (celInt .i64) (celApp (celInt .i64) (celApp (celInt .i64) (celApp (celInt .i64) (celApp (celInt .i64) (celApp (celInt .i64) (celApp (celInt .i64) (celApp (celInt .i64) (celApp (celInt .i64) (celApp (celInt .i64) (celApp (celInt .i64) (celApp (celInt .i64) (celApp (celInt .i64) (celInt .i64))))))))))))))))))))))))) (valsOne (valInt .i64))))) (a := ⟨.exit 0, [1], (valsOne (valBox celConfig))⟩) (b := ⟨.ret, [2], (valsOne (valInt .i64))⟩) (step := T_config_Check_2) g121 rfl rfl loops_inNil (fun x => by kernel_rfl)
noncomputable def s121 : Spec := mkSpec (valsOne (valSt celConfig)) (resOne (valInt .i64)) C_config_Check
set_option maxRecDepth 100000 in
theorem ok121 : SpecOK Try.prog 121 s121 :=
  mkSpec_ok (V := e121) (L := (assocL [(2, l121_2)])) (rounds := 20) (depth := 6) g121 (loops_fn (nt := 65) (by kernel_rfl) (ntB_ok (by kernel_rfl)) (loopsOK_cons lok121_2 loopsOK_nil)) (fun x => by kernel_rfl)

/- millstream/history.order -/
noncomputable def e124 : Env := env1 []
theorem g124 : GoodEnv e124 := goodEnv mix1 ent1 goods_nil
noncomputable def s124 : Spec := mkSpec (valsCons (valInt .i64) (valsOne (valInt .i64))) (resOne (valInt .i64)) C_history_order
set_option maxRecDepth 100000 in
theorem ok124 : SpecOK Try.prog 124 s124 :=
  mkSpec_ok (V := e124) (L := nL) (rounds := 20) (depth := 6) g124 loops_none (fun x => by kernel_rfl)

/- slices.IsSortedFunc[[]millstream/thread.Mark,millstream/thread.Mark] -/
noncomputable def e122 : Env := env1 [(124, s124)]
theorem g122 : GoodEnv e122 := goodEnv mix1 ent1 (goods_cons ok124 rfl goods_nil)
noncomputable def l122_2 : LSpec := loop2 [0, 1, 5] (valsCons (valLst .mark) (valsCons (valFn 123) (valsOne (valInt .i64)))) (⟨.exit 0, [], valsNil⟩ : Way) (⟨.ret, [4], (valsOne (valBool))⟩ : Way) (whileM T_slices_IsSortedFunc_thread_Mark_2)
set_option maxRecDepth 100000 in
theorem lok122_2 : LoopOK e122 25 l122_2 (fnLoop e122.P 122 2) :=
  loop2_ok (L := assocL []) (rounds := 20) (depth := 6) (ts := [0, 1, 5]) (v := (valsCons (valLst .mark) (valsCons (valFn 123) (valsOne (valInt .i64))))) (a := ⟨.exit 0, [], valsNil⟩) (b := ⟨.ret, [4], (valsOne (valBool))⟩) (step := T_slices_IsSortedFunc_thread_Mark_2) g122 rfl rfl loops_inNil (fun x => by kernel_rfl)
noncomputable def s122 : Spec := mkSpec (valsCons (valLst .mark) (valsOne (valFn 123))) (resOne (valBool)) C_slices_IsSortedFunc_thread_Mark
set_option maxRecDepth 100000 in
theorem ok122 : SpecOK Try.prog 122 s122 :=
  mkSpec_ok (V := e122) (L := (assocL [(2, l122_2)])) (rounds := 20) (depth := 6) g122 (loops_fn (nt := 25) (by kernel_rfl) (ntB_ok (by kernel_rfl)) (loopsOK_cons lok122_2 loopsOK_nil)) (fun x => by kernel_rfl)

/- millstream/history.Linear -/
noncomputable def e57 : Env := env1 [(27, s27), (33, s33), (97, s97), (117, s117), (121, s121), (122, s122)]
theorem g57 : GoodEnv e57 := goodEnv mix1 ent1 (goods_cons ok27 rfl (goods_cons ok33 rfl (goods_cons ok97 rfl (goods_cons ok117 rfl (goods_cons ok121 rfl (goods_cons ok122 rfl goods_nil))))))
noncomputable def l57_12 : LSpec := loop2 [1, 58, 59] (valsCons (valBox celWld) (valsCons (valInt .i64) (valsOne (valInt .i64)))) (⟨.exit 2, [], valsNil⟩ : Way) (⟨.ret, [2], (valsOne (valBool))⟩ : Way) (whileM T_history_Linear_12)
set_option maxRecDepth 100000 in
theorem lok57_12 : LoopOK e57 72 l57_12 (fnLoop e57.P 57 12) :=
  loop2_ok (L := assocL []) (rounds := 20) (depth := 6) (ts := [1, 58, 59]) (v := (valsCons (valBox celWld) (valsCons (valInt .i64) (valsOne (valInt .i64))))) (a := ⟨.exit 2, [], valsNil⟩) (b := ⟨.ret, [2], (valsOne (valBool))⟩) (step := T_history_Linear_12) g57 rfl rfl loops_inNil (fun x => by kernel_rfl)
noncomputable def l57_4 : LSpec := loop2 [1, 21, 22] (valsCons (valBox celWld) (valsCons (valInt .i64) (valsOne (valInt .i64)))) (⟨.exit 0, [1], (valsOne (valBox celWld))⟩ : Way) (⟨.ret, [2], (valsOne (valBool))⟩ : Way) (whileM T_history_Linear_4)
set_option maxRecDepth 100000 in
theorem lok57_4 : LoopOK e57 72 l57_4 (fnLoop e57.P 57 4) :=
  loop2_ok (L := assocL []) (rounds := 20) (depth := 6) (ts := [1, 21, 22]) (v := (valsCons (valBox celWld) (valsCons (valInt .i64) (valsOne (valInt .i64))))) (a := ⟨.exit 0, [1], (valsOne (valBox celWld))⟩) (b := ⟨.ret, [2], (valsOne (valBool))⟩) (step := T_history_Linear_4) g57 rfl rfl loops_inNil (fun x => by kernel_rfl)
noncomputable def s57 : Spec := mkSpec (valsOne (valSt celWld)) (resOne (valBool)) C_history_Linear
set_option maxRecDepth 100000 in
theorem ok57 : SpecOK Try.prog 57 s57 :=
  mkSpec_ok (V := e57) (L := (assocL [(12, l57_12), (4, l57_4)])) (rounds := 20) (depth := 6) g57 (loops_fn (nt := 72) (by kernel_rfl) (ntB_ok (by kernel_rfl)) (loopsOK_cons lok57_12 (loopsOK_cons lok57_4 loopsOK_nil))) (fun x => by kernel_rfl)

/- millstream/millstreamref05.Check -/
noncomputable def e44 : Env := env1 []
theorem g44 : GoodEnv e44 := goodEnv mix1 ent1 goods_nil
noncomputable def s44 : Spec := mkSpec (valsOne (valSt celConfig)) (resOne (valInt .i64)) C_ref05_Check
set_option maxRecDepth 100000 in
theorem ok44 : SpecOK Try.prog 44 s44 :=
  mkSpec_ok (V := e44) (L := nL) (rounds := 20) (depth := 6) g44 loops_none (fun x => by kernel_rfl)

/- millstream/millstreamref03.Load -/
noncomputable def e100 : Env := env1 []
theorem g100 : GoodEnv e100 := goodEnv mix1 ent1 goods_nil
noncomputable def s100 : Spec := mkSpec (valsCons (valSt celMemo) (valsOne (valInt .i64))) (resTup (valsCons (valInt .i64) (valsOne (valInt .i64)))) C_ref03_Load
set_option maxRecDepth 100000 in
theorem ok100 : SpecOK Try.prog 100 s100 :=
  mkSpec_ok (V := e100) (L := nL) (rounds := 20) (depth := 6) g100 loops_none (fun x => by kernel_rfl)

/- millstream/millstreamref06.Nodes -/
noncomputable def e119 : Env := env1 []
theorem g119 : GoodEnv e119 := goodEnv mix1 ent1 goods_nil
noncomputable def l119_3 : LSpec := loop1 [1, 3, 4] (valsCons (valBox celConfig) (valsCons (valInt .i64) (valsOne (valInt .i64)))) (⟨.exit 0, [3], (valsOne (valInt .i64))⟩ : Way) (whileM T_ref06_Nodes_3)
set_option maxRecDepth 100000 in
theorem lok119_3 : LoopOK e119 15 l119_3 (fnLoop e119.P 119 3) :=
  loop1_ok (L := assocL []) (rounds := 20) (depth := 6) (ts := [1, 3, 4]) (v := (valsCons (valBox celConfig) (valsCons (valInt .i64) (valsOne (valInt .i64))))) (a := ⟨.exit 0, [3], (valsOne (valInt .i64))⟩) (step := T_ref06_Nodes_3) g119 rfl loops_inNil (fun x => by kernel_rfl)
noncomputable def s119 : Spec := mkSpec (valsOne (valSt celConfig)) (resOne (valInt .i64)) C_ref06_Nodes
set_option maxRecDepth 100000 in
theorem ok119 : SpecOK Try.prog 119 s119 :=
  mkSpec_ok (V := e119) (L := (assocL [(3, l119_3)])) (rounds := 20) (depth := 6) g119 (loops_fn (nt := 15) (by kernel_rfl) (ntB_ok (by kernel_rfl)) (loopsOK_cons lok119_3 loopsOK_nil)) (fun x => by kernel_rfl)

/- millstream/millstreamref06.block -/
noncomputable def e118 : Env := env1 [(119, s119)]
theorem g118 : GoodEnv e118 := goodEnv mix1 ent1 (goods_cons ok119 rfl goods_nil)
noncomputable def s118 : Spec := mkSpec (valsOne (valSt celConfig)) (resOne (valInt .i64)) C_ref06_block
set_option maxRecDepth 100000 in
theorem ok118 : SpecOK Try.prog 118 s118 :=
  mkSpec_ok (V := e118) (L := nL) (rounds := 20) (depth := 6) g118 loops_none (fun x => by kernel_rfl)

/- millstream/millstreamref06.Cell -/
noncomputable def e125 : Env := env1 [(118, s118)]
theorem g125 : GoodEnv e125 := goodEnv mix1 ent1 (goods_cons ok118 rfl goods_nil)
noncomputable def s125 : Spec := mkSpec (valsCons (valSt celConfig) (valsOne (valInt .i64))) (resOne (valInt .i64)) C_ref06_Cell
set_option maxRecDepth 100000 in
theorem ok125 : SpecOK Try.prog 125 s125 :=
  mkSpec_ok (V := e125) (L := nL) (rounds := 20) (depth := 6) g125 loops_none (fun x => by kernel_rfl)

/- millstream/millstreamref18.Linear -/
noncomputable def e58 : Env := env1 [(28, s28), (34, s34), (44, s44), (100, s100), (125, s125)]
theorem g58 : GoodEnv e58 := goodEnv mix1 ent1 (goods_cons ok28 rfl (goods_cons ok34 rfl (goods_cons ok44 rfl (goods_cons ok100 rfl (goods_cons ok125 rfl goods_nil)))))
noncomputable def l58_16 : LSpec := loop2 [1, 9] (valsCons (valBox celWld) (valsOne (valInt .i64))) (⟨.exit 4, [], valsNil⟩ : Way) (⟨.ret, [2], (valsOne (valBool))⟩ : Way) (whileM T_ref18_Linear_16)
set_option maxRecDepth 100000 in
theorem lok58_16 : LoopOK e58 88 l58_16 (fnLoop e58.P 58 16) :=
  loop2_ok (L := assocL []) (rounds := 20) (depth := 6) (ts := [1, 9]) (v := (valsCons (valBox celWld) (valsOne (valInt .i64)))) (a := ⟨.exit 4, [], valsNil⟩) (b := ⟨.ret, [2], (valsOne (valBool))⟩) (step := T_ref18_Linear_16) g58 rfl rfl loops_inNil (fun x => by kernel_rfl)
noncomputable def l58_11 : LSpec := loop2 [1, 8] (valsCons (valBox celWld) (valsOne (valInt .i64))) (⟨.exit 2, [1], (valsOne (valBox celWld))⟩ : Way) (⟨.ret, [2], (valsOne (valBool))⟩ : Way) (whileM T_ref18_Linear_11)
set_option maxRecDepth 100000 in
theorem lok58_11 : LoopOK e58 88 l58_11 (fnLoop e58.P 58 11) :=
  loop2_ok (L := assocL []) (rounds := 20) (depth := 6) (ts := [1, 8]) (v := (valsCons (valBox celWld) (valsOne (valInt .i64)))) (a := ⟨.exit 2, [1], (valsOne (valBox celWld))⟩) (b := ⟨.ret, [2], (valsOne (valBool))⟩) (step := T_ref18_Linear_11) g58 rfl rfl loops_inNil (fun x => by kernel_rfl)
noncomputable def l58_4 : LSpec := loop2 [1, 3] (valsCons (valBox celWld) (valsOne (valInt .i64))) (⟨.exit 0, [1], (valsOne (valBox celWld))⟩ : Way) (⟨.ret, [2], (valsOne (valBool))⟩ : Way) (whileM T_ref18_Linear_4)
set_option maxRecDepth 100000 in
theorem lok58_4 : LoopOK e58 88 l58_4 (fnLoop e58.P 58 4) :=
  loop2_ok (L := assocL []) (rounds := 20) (depth := 6) (ts := [1, 3]) (v := (valsCons (valBox celWld) (valsOne (valInt .i64)))) (a := ⟨.exit 0, [1], (valsOne (valBox celWld))⟩) (b := ⟨.ret, [2], (valsOne (valBool))⟩) (step := T_ref18_Linear_4) g58 rfl rfl loops_inNil (fun x => by kernel_rfl)
noncomputable def s58 : Spec := mkSpec (valsOne (valSt celWld)) (resOne (valBool)) C_ref18_Linear
set_option maxRecDepth 100000 in
theorem ok58 : SpecOK Try.prog 58 s58 :=
  mkSpec_ok (V := e58) (L := (assocL [(16, l58_16), (11, l58_11), (4, l58_4)])) (rounds := 20) (depth := 6) g58 (loops_fn (nt := 88) (by kernel_rfl) (ntB_ok (by kernel_rfl)) (loopsOK_cons lok58_16 (loopsOK_cons lok58_11 (loopsOK_cons lok58_4 loopsOK_nil)))) (fun x => by kernel_rfl)

/- millstream/millstreamlaw18.HistoryLinear -/
noncomputable def e12 : Env := env1 [(25, s25), (26, s26), (56, s56), (57, s57), (58, s58)]
theorem g12 : GoodEnv e12 := goodEnv mix1 ent1 (goods_cons ok25 rfl (goods_cons ok26 rfl (goods_cons ok56 rfl (goods_cons ok57 rfl (goods_cons ok58 rfl goods_nil)))))
noncomputable def s12 : Spec := mkSpec (valsOne (valSt celWld)) (resOne (valBool)) C_law18_HistoryLinear
set_option maxRecDepth 100000 in
theorem ok12 : SpecOK Try.prog 12 s12 :=
  mkSpec_ok (V := e12) (L := nL) (rounds := 20) (depth := 6) g12 loops_none (fun x => by kernel_rfl)

end Go.Proofs.Mill
