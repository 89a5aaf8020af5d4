/- The given statement MachineLogs, out of the plain law and of what the functions compute. -/
import Derived.Test.YtecgogmolkjhjaaGreatRows
import Derived.Test.YtecgogmolkjhjaaGreatMillOkB
import Derived.Test.YtecgogmolkjhjaaGreatMillOpens
import Derived.Test.YtecgogmolkjhjaaGreatMillPureMachineLogs
import Derived.WalkKit
import Derived.ProofKit
import Derived.OpenShut
import Derived.ChangeOld
import Derived.Below
import Derived.SizedLaws
import Derived.Carry
set_option linter.all false
namespace Go.Proofs.YtecgogmolkjhjaaGreat.machineLogs
open Go.ChangeShapes Go.WideShapes Go.ChangeAt Go.RowKit Go.Proofs.Mill
set_option linter.unusedVariables false
set_option maxRecDepth 100000 in
theorem lifted (os : Os) (started : os.Started) (H : Type) (enc : TypeId × Value → H) :
    ReturnsInHanded {} Tryz.checked os 5 .any (Rows.machineLogsSpec.pre6 enc Tryz.prog Tryz.f5 Rows.machineLogsRow.domain false) (Rows.machineLogsSpec.post enc Tryz.prog Tryz.f5 false true false false) := by
  refine returnsInHanded_of_change_sized (C := Tryz.checked) own1 started (by kernel_rfl) Tryz.func5
    (ChangeSpec.witness6 (enc := enc) (C := Tryz.checked) false ⟨#[], #[.agg #[.int .i64 0, .int .i64 0, .int .i64 0, .int .i64 0, .int .i64 0, .int .i64 0, .int .i64 0, .int .i64 0, .bool false, .int .i64 0, .int .i64 0, .int .i64 0, .int .i64 0, .int .i64 0, .slice none 0 0, .slice none 0 0, .int .i64 0, .int .i64 0, .int .i64 0, .int .i64 0, .slice none 0 0, .slice none 0 0, .slice none 0 0, .int .i64 0, .int .i64 0, .int .i64 0, .int .i64 0, .int .i64 0, .int .i64 0, .int .i64 0, .int .i64 0, .int .i64 0, .int .i64 0, .slice none 0 0, .int .i64 0, .slice none 0 0, .bool false]], []⟩ 8 (by kernel_rfl) (by kernel_rfl) (by kernel_rfl) (by kernel_rfl)) ?_
  intro W base args ds gs before hval0 hW hcnd hsz0 _
  have hval : ∀ (j : Nat) t v, Tryz.f5.params[j]? = some t → args[j]? = some v → Value.okWide Tryz.prog W .any base t v := hval0
  have hW' := hW
  obtain ⟨p, q, hA0, hV, rfl, hfz, hnd⟩ := hW
  have hA : DataW.TrodAll enc Tryz.prog W 0 (fun _ => true) true Tryz.f5.params.toList args.toList ds p := hA0
  rw [Tryz.params5] at hA hval
  obtain ⟨v0, vs0, d0, ds0, p0, q0, hargs, rfl, rfl, h0, r0⟩ := trodAll_cons hA
  obtain ⟨rfl, rfl, rfl⟩ := trodAll_nil r0
  obtain rfl : args = #[v0] := by cases args; simp_all
  obtain ⟨rfl, rfl⟩ := trodVars_none hV
  obtain ⟨x0, a0, o0⟩ := arg_st table1 opTurn Tryz.underlying38 (by kernel_rfl) (hval 0 38 v0 rfl rfl) h0
  have hvl : VL (pcx W fun _ => True) ((valsOne (valSt celTurn)).enc (x0)) [v0] := ⟨a0, trivial⟩
  refine (ok5 W (fun _ => True) ((valsOne (valSt celTurn)).enc (x0)) #[v0] (x0) true (by kernel_rfl) (pure_MachineLogs x0 o0) hvl).mono fun e W' he => ?_
  obtain ⟨v, rfl, bel, hres⟩ := he
  obtain ⟨mu, _, hv⟩ := hres 0
  have hv : v = .bool true := hv
  subst hv
  have lt0 : ∀ x ∈ p0, x.block < W.heap.size := by obtain ⟨m, hm⟩ := h0; exact DataW.trod_lt m _ _ _ hm
  exact ⟨_, rfl, _, _, _, [], _, [], hW', trodAll_mk1 (shut_bool Tryz.underlying4 _), (trodAll_cons_mk (Below.trod laid1 (by kernel_rfl) (of_decide_eq_true (by kernel_rfl)) h0 bel lt0) trodAll_mk0), rfl, bel.frame _, fun h => by cases h⟩
theorem c6 : (Rows.machineLogsRow.inPlace == Tryz.prog.inPlace 5) = true := by kernel_rfl
theorem c7 : (Rows.machineLogsRow.unfollowed == Tryz.prog.unfollowed 5) = true := by kernel_rfl
theorem c8 : (Rows.machineLogsRow.recurses == Tryz.prog.recurses 5) = true := by kernel_rfl
theorem c9 : (Rows.machineLogsRow.named == Tryz.prog.varsNamed 5) = true := by kernel_rfl
theorem closed : joinedFacts Tryz.prog 5 Tryz.f5 Rows.machineLogsSpec Rows.machineLogsRow = true :=
  joined_of behind1 lays1 bears1 doors1 laid1 maps1 heard1 keys1 stops1 knobs1 (by kernel_rfl) (by kernel_rfl) (by kernel_rfl) rfl rfl c6 c7 c8 c9 (by kernel_rfl) (by kernel_rfl) (by kernel_rfl) (by kernel_rfl) (by kernel_rfl) (by kernel_rfl) (by kernel_rfl) (by kernel_rfl) (by kernel_rfl)
theorem over : Rows.machineLogsRow.holds Tryz.pinned (OpenSpec.ofChange Rows.machineLogsSpec) :=
  OpenClaim.holds_of_wide 5 Tryz.f5 rfl rfl rfl rfl rfl rfl rfl ⟨rfl, rfl, rfl, rfl, rfl⟩ rfl rfl rfl rfl rfl (by kernel_rfl) Tryz.func5 closed
    (of_decide_eq_true (by kernel_rfl)) (by unfold Func.isWrapper; first | (rw [if_pos (by decide +kernel)]; kernel_rfl) | (rw [if_neg (by decide +kernel)]; exact ⟨rfl, rfl⟩))
    (fun os started H enc _ => lifted os started H enc)
theorem proved : Rows.MachineLogsSaid := over
end Go.Proofs.YtecgogmolkjhjaaGreat.machineLogs
namespace Go.Proofs.YtecgogmolkjhjaaGreat
/-- The row, under a short name, for the claim. -/
theorem machineLogs_holds : Rows.MachineLogsSaid := machineLogs.proved
end Go.Proofs.YtecgogmolkjhjaaGreat
#print axioms Go.Proofs.YtecgogmolkjhjaaGreat.machineLogs_holds
