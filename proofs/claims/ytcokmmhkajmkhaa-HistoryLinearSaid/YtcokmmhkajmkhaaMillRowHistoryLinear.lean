/- The given statement HistoryLinear, out of the plain law and of what the functions compute. -/
import Derived.Test.YtcokmmhkajmkhaaRows
import Derived.Test.YtcokmmhkajmkhaaMillOkH
import Derived.Test.YtcokmmhkajmkhaaMillOpens
import Derived.Test.YtcokmmhkajmkhaaMillPureHistoryLinear
import Derived.WalkKit
import Derived.ProofKit
import Derived.OpenShut
import Derived.ChangeOld
import Derived.Below
import Derived.SizedLaws
import Derived.Carry
set_option linter.all false
namespace Go.Proofs.Ytcokmmhkajmkhaa.historyLinear
open Go.ChangeShapes Go.WideShapes Go.ChangeAt Go.RowKit Go.Proofs.Mill
set_option linter.unusedVariables false
set_option maxRecDepth 100000 in
theorem lifted (os : Os) (started : os.Started) (H : Type) (enc : TypeId × Value → H) :
    ReturnsInHanded {} Try.checked os 12 .any (Rows.historyLinearSpec.pre6 enc Try.prog Try.f12 Rows.historyLinearRow.domain false) (Rows.historyLinearSpec.post enc Try.prog Try.f12 false true false false) := by
  refine returnsInHanded_of_change_sized (C := Try.checked) own1 started (by kernel_rfl) Try.func12
    (ChangeSpec.witness6 (enc := enc) (C := Try.checked) false ⟨#[], #[.agg #[.int .i64 0, .int .i64 0, .int .i64 0, .int .i64 0, .int .i64 0, .int .i64 0, .int .i64 0, .int .i64 0, .bool false, .int .i64 0, .int .i64 0, .int .i64 0, .slice none 0 0, .slice none 0 0, .slice none 0 0, .int .i64 0, .int .i64 0, .slice none 0 0, .int .i64 0, .slice none 0 0, .slice none 0 0]], []⟩ 8 (by kernel_rfl) (by kernel_rfl) (by kernel_rfl) (by kernel_rfl)) ?_
  intro W base args ds gs before hval0 hW hcnd hsz0 _
  have hval : ∀ (j : Nat) t v, Try.f12.params[j]? = some t → args[j]? = some v → Value.okWide Try.prog W .any base t v := hval0
  have hW' := hW
  obtain ⟨p, q, hA0, hV, rfl, hfz, hnd⟩ := hW
  have hA : DataW.TrodAll enc Try.prog W 0 (fun _ => true) true Try.f12.params.toList args.toList ds p := hA0
  rw [Try.params12] at hA hval
  obtain ⟨v0, vs0, d0, ds0, p0, q0, hargs, rfl, rfl, h0, r0⟩ := trodAll_cons hA
  obtain ⟨rfl, rfl, rfl⟩ := trodAll_nil r0
  obtain rfl : args = #[v0] := by cases args; simp_all
  obtain ⟨rfl, rfl⟩ := trodVars_none hV
  obtain ⟨x0, a0, o0⟩ := arg_st table1 opWld Try.underlying46 (by kernel_rfl) (hval 0 46 v0 rfl rfl) h0
  have hvl : VL (pcx W fun _ => True) ((valsOne (valSt celWld)).enc (x0)) [v0] := ⟨a0, trivial⟩
  refine (ok12 W (fun _ => True) ((valsOne (valSt celWld)).enc (x0)) #[v0] (x0) true (by kernel_rfl) (pure_HistoryLinear x0 o0) hvl).mono fun e W' he => ?_
  obtain ⟨v, rfl, bel, hres⟩ := he
  obtain ⟨mu, _, hv⟩ := hres 0
  have hv : v = .bool true := hv
  subst hv
  have lt0 : ∀ x ∈ p0, x.block < W.heap.size := by obtain ⟨m, hm⟩ := h0; exact DataW.trod_lt m _ _ _ hm
  exact ⟨_, rfl, _, _, _, [], _, [], hW', trodAll_mk1 (shut_bool Try.underlying4 _), (trodAll_cons_mk (Below.trod laid1 (by kernel_rfl) (of_decide_eq_true (by kernel_rfl)) h0 bel lt0) trodAll_mk0), rfl, bel.frame _, fun h => by cases h⟩
theorem c6 : (Rows.historyLinearRow.inPlace == Try.prog.inPlace 12) = true := by kernel_rfl
theorem c7 : (Rows.historyLinearRow.unfollowed == Try.prog.unfollowed 12) = true := by kernel_rfl
theorem c8 : (Rows.historyLinearRow.recurses == Try.prog.recurses 12) = true := by kernel_rfl
theorem c9 : (Rows.historyLinearRow.named == Try.prog.varsNamed 12) = true := by kernel_rfl
theorem closed : joinedFacts Try.prog 12 Try.f12 Rows.historyLinearSpec Rows.historyLinearRow = true :=
  joined_of behind1 lays1 bears1 doors1 laid1 maps1 heard1 keys1 stops1 knobs1 (by kernel_rfl) (by kernel_rfl) (by kernel_rfl) rfl rfl c6 c7 c8 c9 (by kernel_rfl) (by kernel_rfl) (by kernel_rfl) (by kernel_rfl) (by kernel_rfl) (by kernel_rfl) (by kernel_rfl) (by kernel_rfl) (by kernel_rfl)
theorem over : Rows.historyLinearRow.holds Try.pinned (OpenSpec.ofChange Rows.historyLinearSpec) :=
  OpenClaim.holds_of_wide 12 Try.f12 rfl rfl rfl rfl rfl rfl rfl ⟨rfl, rfl, rfl, rfl, rfl⟩ rfl rfl rfl rfl rfl (by kernel_rfl) Try.func12 closed
    (of_decide_eq_true (by kernel_rfl)) (by unfold Func.isWrapper; first | (rw [if_pos (by decide +kernel)]; kernel_rfl) | (rw [if_neg (by decide +kernel)]; exact ⟨rfl, rfl⟩))
    (fun os started H enc _ => lifted os started H enc)
theorem proved : Rows.HistoryLinearSaid := over
end Go.Proofs.Ytcokmmhkajmkhaa.historyLinear
namespace Go.Proofs.Ytcokmmhkajmkhaa
/-- The row, under a short name, for the claim. -/
theorem historyLinear_holds : Rows.HistoryLinearSaid := historyLinear.proved
end Go.Proofs.Ytcokmmhkajmkhaa
#print axioms Go.Proofs.Ytcokmmhkajmkhaa.historyLinear_holds
