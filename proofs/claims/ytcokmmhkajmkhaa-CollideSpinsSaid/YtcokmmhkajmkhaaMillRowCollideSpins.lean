/- The given statement CollideSpins, out of the plain law and of what the functions compute. -/
import Derived.Test.YtcokmmhkajmkhaaRows
import Derived.Test.YtcokmmhkajmkhaaMillOk1
import Derived.Test.YtcokmmhkajmkhaaMillOpens
import Derived.Test.YtcokmmhkajmkhaaMillPureCollideSpins
import Derived.WalkKit
import Derived.ProofKit
import Derived.OpenShut
import Derived.ChangeOld
import Derived.Below
import Derived.SizedLaws
import Derived.Carry
set_option linter.all false
namespace Go.Proofs.Ytcokmmhkajmkhaa.collideSpins
open Go.ChangeShapes Go.WideShapes Go.ChangeAt Go.RowKit Go.Proofs.Mill
set_option linter.unusedVariables false
set_option maxRecDepth 100000 in
theorem lifted (os : Os) (started : os.Started) (H : Type) (enc : TypeId × Value → H) :
    ReturnsInHanded {} Try.checked os 23 .any (Rows.collideSpinsSpec.pre6 enc Try.prog Try.f23 Rows.collideSpinsRow.domain false) (Rows.collideSpinsSpec.post enc Try.prog Try.f23 false true false false) := by
  refine returnsInHanded_of_change_sized (C := Try.checked) own1 started (by kernel_rfl) Try.func23
    (ChangeSpec.witness6 (enc := enc) (C := Try.checked) false ⟨#[], #[.agg #[.int .i64 0, .int .i64 0, .int .i64 0, .int .i64 0, .int .i64 0, .int .i64 0, .int .i64 0, .int .i64 0, .bool false, .int .i64 0, .int .i64 0, .int .i64 0, .int .i64 0, .int .i64 0, .slice none 0 0, .slice none 0 0, .int .i64 0, .int .i64 0, .int .i64 0, .int .i64 0, .slice none 0 0, .slice none 0 0, .slice none 0 0, .int .i64 0, .int .i64 0, .int .i64 0, .int .i64 0, .int .i64 0, .int .i64 0, .int .i64 0, .int .i64 0, .int .i64 0, .int .i64 0, .slice none 0 0, .int .i64 0, .slice none 0 0, .bool false], .int .u8 0], []⟩ 8 (by kernel_rfl) (by kernel_rfl) (by kernel_rfl) (by kernel_rfl)) ?_
  intro W base args ds gs before hval0 hW hcnd hsz0 _
  have hval : ∀ (j : Nat) t v, Try.f23.params[j]? = some t → args[j]? = some v → Value.okWide Try.prog W .any base t v := hval0
  have hW' := hW
  obtain ⟨p, q, hA0, hV, rfl, hfz, hnd⟩ := hW
  have hA : DataW.TrodAll enc Try.prog W 0 (fun _ => true) true Try.f23.params.toList args.toList ds p := hA0
  rw [Try.params23] at hA hval
  obtain ⟨v0, vs0, d0, ds0, p0, q0, hargs, rfl, rfl, h0, r0⟩ := trodAll_cons hA
  obtain ⟨v1, vs1, d1, ds1, p1, q1, rfl, rfl, rfl, h1, r1⟩ := trodAll_cons r0
  obtain ⟨rfl, rfl, rfl⟩ := trodAll_nil r1
  obtain rfl : args = #[v0, v1] := by cases args; simp_all
  obtain ⟨rfl, rfl⟩ := trodVars_none hV
  obtain ⟨x0, a0, o0⟩ := arg_st table1 opTurn Try.underlying76 (by kernel_rfl) (hval 0 76 v0 rfl rfl) h0
  obtain ⟨x1, a1, o1⟩ := arg_one (v := (valInt .u8)) table1 (t := 5) (by kernel_rfl) (one_int .u8) (fun _ h => by rw [Try.underlying5] at h; cases h) (fun _ _ h => by rw [Try.underlying5] at h; cases h) (hval 1 5 v1 rfl rfl) h1
  have hvl : VL (pcx W fun _ => True) ((valsCons (valSt celTurn) (valsOne (valInt .u8))).enc (x0, x1)) [v0, v1] := ⟨a0, a1, trivial⟩
  refine (ok23 W (fun _ => True) ((valsCons (valSt celTurn) (valsOne (valInt .u8))).enc (x0, x1)) #[v0, v1] (x0, x1) true (by kernel_rfl) (pure_CollideSpins x0 x1 o0 o1) hvl).mono fun e W' he => ?_
  obtain ⟨v, rfl, bel, hres⟩ := he
  obtain ⟨mu, _, hv⟩ := hres 0
  have hv : v = .bool true := hv
  subst hv
  have lt0 : ∀ x ∈ p0, x.block < W.heap.size := by obtain ⟨m, hm⟩ := h0; exact DataW.trod_lt m _ _ _ hm
  have lt1 : ∀ x ∈ p1, x.block < W.heap.size := by obtain ⟨m, hm⟩ := h1; exact DataW.trod_lt m _ _ _ hm
  exact ⟨_, rfl, _, _, _, [], _, [], hW', trodAll_mk1 (shut_bool Try.underlying4 _), (trodAll_cons_mk (Below.trod laid1 (by kernel_rfl) (of_decide_eq_true (by kernel_rfl)) h0 bel lt0) (trodAll_cons_mk (Below.trod laid1 (by kernel_rfl) (of_decide_eq_true (by kernel_rfl)) h1 bel lt1) trodAll_mk0)), rfl, bel.frame _, fun h => by cases h⟩
theorem c6 : (Rows.collideSpinsRow.inPlace == Try.prog.inPlace 23) = true := by kernel_rfl
theorem c7 : (Rows.collideSpinsRow.unfollowed == Try.prog.unfollowed 23) = true := by kernel_rfl
theorem c8 : (Rows.collideSpinsRow.recurses == Try.prog.recurses 23) = true := by kernel_rfl
theorem c9 : (Rows.collideSpinsRow.named == Try.prog.varsNamed 23) = true := by kernel_rfl
theorem closed : joinedFacts Try.prog 23 Try.f23 Rows.collideSpinsSpec Rows.collideSpinsRow = true :=
  joined_of behind1 lays1 bears1 doors1 laid1 maps1 heard1 keys1 stops1 knobs1 (by kernel_rfl) (by kernel_rfl) (by kernel_rfl) rfl rfl c6 c7 c8 c9 (by kernel_rfl) (by kernel_rfl) (by kernel_rfl) (by kernel_rfl) (by kernel_rfl) (by kernel_rfl) (by kernel_rfl) (by kernel_rfl) (by kernel_rfl)
theorem over : Rows.collideSpinsRow.holds Try.pinned (OpenSpec.ofChange Rows.collideSpinsSpec) :=
  OpenClaim.holds_of_wide 23 Try.f23 rfl rfl rfl rfl rfl rfl rfl ⟨rfl, rfl, rfl, rfl, rfl⟩ rfl rfl rfl rfl rfl (by kernel_rfl) Try.func23 closed
    (of_decide_eq_true (by kernel_rfl)) (by unfold Func.isWrapper; first | (rw [if_pos (by decide +kernel)]; kernel_rfl) | (rw [if_neg (by decide +kernel)]; exact ⟨rfl, rfl⟩))
    (fun os started H enc _ => lifted os started H enc)
theorem proved : Rows.CollideSpinsSaid := over
end Go.Proofs.Ytcokmmhkajmkhaa.collideSpins
namespace Go.Proofs.Ytcokmmhkajmkhaa
/-- The row, under a short name, for the claim. -/
theorem collideSpins_holds : Rows.CollideSpinsSaid := collideSpins.proved
end Go.Proofs.Ytcokmmhkajmkhaa
#print axioms Go.Proofs.Ytcokmmhkajmkhaa.collideSpins_holds
