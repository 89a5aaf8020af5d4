/- The given statement FairSolo, out of the plain law and of what the functions compute. -/
import Derived.Test.YtaopdopnecognaaGreatRows
import Derived.Test.YtaopdopnecognaaGreatMillOkCb
import Derived.Test.YtaopdopnecognaaGreatMillOpens
import Derived.Test.YtaopdopnecognaaGreatMillPureFairSolo
import Derived.WalkKit
import Derived.ProofKit
import Derived.OpenShut
import Derived.ChangeOld
import Derived.Below
import Derived.SizedLaws
import Derived.Carry
set_option linter.all false
namespace Go.Proofs.YtaopdopnecognaaGreat.fairSolo
open Go.ChangeShapes Go.WideShapes Go.ChangeAt Go.RowKit Go.Proofs.Mill
set_option linter.unusedVariables false
set_option maxRecDepth 100000 in
theorem lifted (os : Os) (started : os.Started) (H : Type) (enc : TypeId × Value → H) :
    ReturnsInHanded {} Tryz.checked os 8 .any (Rows.fairSoloSpec.pre6 enc Tryz.prog Tryz.f8 Rows.fairSoloRow.domain false) (Rows.fairSoloSpec.post enc Tryz.prog Tryz.f8 false true false false) := by
  refine returnsInHanded_of_change_sized (C := Tryz.checked) own1 started (by kernel_rfl) Tryz.func8
    (ChangeSpec.witness6 (enc := enc) (C := Tryz.checked) false ⟨#[], #[.agg #[.int .i64 0, .int .i64 0, .int .i64 0, .int .i64 0, .int .i64 0, .int .i64 0, .int .i64 0, .int .i64 0, .bool false, .int .i64 0, .int .i64 0, .int .i64 0], .int .u8 0, .int .u8 0, .agg #[.int .i64 0, .int .i64 0], .slice none 0 0], []⟩ 8 (by kernel_rfl) (by kernel_rfl) (by kernel_rfl) (by kernel_rfl)) ?_
  intro W base args ds gs before hval0 hW hcnd hsz0 _
  have hval : ∀ (j : Nat) t v, Tryz.f8.params[j]? = some t → args[j]? = some v → Value.okWide Tryz.prog W .any base t v := hval0
  have hW' := hW
  obtain ⟨p, q, hA0, hV, rfl, hfz, hnd⟩ := hW
  have hA : DataW.TrodAll enc Tryz.prog W 0 (fun _ => true) true Tryz.f8.params.toList args.toList ds p := hA0
  rw [Tryz.params8] at hA hval
  obtain ⟨v0, vs0, d0, ds0, p0, q0, hargs, rfl, rfl, h0, r0⟩ := trodAll_cons hA
  obtain ⟨v1, vs1, d1, ds1, p1, q1, rfl, rfl, rfl, h1, r1⟩ := trodAll_cons r0
  obtain ⟨v2, vs2, d2, ds2, p2, q2, rfl, rfl, rfl, h2, r2⟩ := trodAll_cons r1
  obtain ⟨v3, vs3, d3, ds3, p3, q3, rfl, rfl, rfl, h3, r3⟩ := trodAll_cons r2
  obtain ⟨v4, vs4, d4, ds4, p4, q4, rfl, rfl, rfl, h4, r4⟩ := trodAll_cons r3
  obtain ⟨rfl, rfl, rfl⟩ := trodAll_nil r4
  obtain rfl : args = #[v0, v1, v2, v3, v4] := by cases args; simp_all
  obtain ⟨rfl, rfl⟩ := trodVars_none hV
  obtain ⟨x0, a0, o0⟩ := arg_st table1 opConfig Tryz.underlying23 (by kernel_rfl) (hval 0 23 v0 rfl rfl) h0
  obtain ⟨x1, a1, o1⟩ := arg_one (v := (valInt .u8)) table1 (t := 5) (by kernel_rfl) (one_int .u8) (fun _ h => by rw [Tryz.underlying5] at h; cases h) (fun _ _ h => by rw [Tryz.underlying5] at h; cases h) (hval 1 5 v1 rfl rfl) h1
  obtain ⟨x2, a2, o2⟩ := arg_one (v := (valInt .u8)) table1 (t := 5) (by kernel_rfl) (one_int .u8) (fun _ h => by rw [Tryz.underlying5] at h; cases h) (fun _ _ h => by rw [Tryz.underlying5] at h; cases h) (hval 2 5 v2 rfl rfl) h2
  obtain ⟨x3, a3, o3⟩ := arg_st table1 opOp Tryz.underlying48 (by kernel_rfl) (hval 3 48 v3 rfl rfl) h3
  obtain ⟨x4, a4, o4⟩ := arg_one (v := (valLst .int)) table1 (t := 25) (by kernel_rfl) (one_lst .int) (fun _ h => by rw [Tryz.underlying25] at h; cases h) (fun _ _ h => by rw [Tryz.underlying25] at h; cases h) (hval 4 25 v4 rfl rfl) h4
  have hvl : VL (pcx W fun _ => True) ((valsCons (valSt celConfig) (valsCons (valInt .u8) (valsCons (valInt .u8) (valsCons (valSt celOp) (valsOne (valLst .int)))))).enc (x0, x1, x2, x3, x4)) [v0, v1, v2, v3, v4] := ⟨a0, a1, a2, a3, a4, trivial⟩
  refine (ok8 W (fun _ => True) ((valsCons (valSt celConfig) (valsCons (valInt .u8) (valsCons (valInt .u8) (valsCons (valSt celOp) (valsOne (valLst .int)))))).enc (x0, x1, x2, x3, x4)) #[v0, v1, v2, v3, v4] (x0, x1, x2, x3, x4) true (by kernel_rfl) (pure_FairSolo x0 x1 x2 x3 x4 o0 o1 o2 o3 o4) hvl).mono fun e W' he => ?_
  obtain ⟨v, rfl, bel, hres⟩ := he
  obtain ⟨mu, _, hv⟩ := hres 0
  have hv : v = .bool true := hv
  subst hv
  have lt0 : ∀ x ∈ p0, x.block < W.heap.size := by obtain ⟨m, hm⟩ := h0; exact DataW.trod_lt m _ _ _ hm
  have lt1 : ∀ x ∈ p1, x.block < W.heap.size := by obtain ⟨m, hm⟩ := h1; exact DataW.trod_lt m _ _ _ hm
  have lt2 : ∀ x ∈ p2, x.block < W.heap.size := by obtain ⟨m, hm⟩ := h2; exact DataW.trod_lt m _ _ _ hm
  have lt3 : ∀ x ∈ p3, x.block < W.heap.size := by obtain ⟨m, hm⟩ := h3; exact DataW.trod_lt m _ _ _ hm
  have lt4 : ∀ x ∈ p4, x.block < W.heap.size := by obtain ⟨m, hm⟩ := h4; exact DataW.trod_lt m _ _ _ hm
  exact ⟨_, rfl, _, _, _, [], _, [], hW', trodAll_mk1 (shut_bool Tryz.underlying4 _), (trodAll_cons_mk (Below.trod laid1 (by kernel_rfl) (of_decide_eq_true (by kernel_rfl)) h0 bel lt0) (trodAll_cons_mk (Below.trod laid1 (by kernel_rfl) (of_decide_eq_true (by kernel_rfl)) h1 bel lt1) (trodAll_cons_mk (Below.trod laid1 (by kernel_rfl) (of_decide_eq_true (by kernel_rfl)) h2 bel lt2) (trodAll_cons_mk (Below.trod laid1 (by kernel_rfl) (of_decide_eq_true (by kernel_rfl)) h3 bel lt3) (trodAll_cons_mk (Below.trod laid1 (by kernel_rfl) (of_decide_eq_true (by kernel_rfl)) h4 bel lt4) trodAll_mk0))))), rfl, bel.frame _, fun h => by cases h⟩
theorem c6 : (Rows.fairSoloRow.inPlace == Tryz.prog.inPlace 8) = true := by kernel_rfl
theorem c7 : (Rows.fairSoloRow.unfollowed == Tryz.prog.unfollowed 8) = true := by kernel_rfl
theorem c8 : (Rows.fairSoloRow.recurses == Tryz.prog.recurses 8) = true := by kernel_rfl
theorem c9 : (Rows.fairSoloRow.named == Tryz.prog.varsNamed 8) = true := by kernel_rfl
theorem closed : joinedFacts Tryz.prog 8 Tryz.f8 Rows.fairSoloSpec Rows.fairSoloRow = true :=
  joined_of behind1 lays1 bears1 doors1 laid1 maps1 heard1 keys1 stops1 knobs1 (by kernel_rfl) (by kernel_rfl) (by kernel_rfl) rfl rfl c6 c7 c8 c9 (by kernel_rfl) (by kernel_rfl) (by kernel_rfl) (by kernel_rfl) (by kernel_rfl) (by kernel_rfl) (by kernel_rfl) (by kernel_rfl) (by kernel_rfl)
theorem over : Rows.fairSoloRow.holds Tryz.pinned (OpenSpec.ofChange Rows.fairSoloSpec) :=
  OpenClaim.holds_of_wide 8 Tryz.f8 rfl rfl rfl rfl rfl rfl rfl ⟨rfl, rfl, rfl, rfl, rfl⟩ rfl rfl rfl rfl rfl (by kernel_rfl) Tryz.func8 closed
    (of_decide_eq_true (by kernel_rfl)) (by unfold Func.isWrapper; first | (rw [if_pos (by decide +kernel)]; kernel_rfl) | (rw [if_neg (by decide +kernel)]; exact ⟨rfl, rfl⟩))
    (fun os started H enc _ => lifted os started H enc)
theorem proved : Rows.FairSoloSaid := over
end Go.Proofs.YtaopdopnecognaaGreat.fairSolo
namespace Go.Proofs.YtaopdopnecognaaGreat
/-- The row, under a short name, for the claim. -/
theorem fairSolo_holds : Rows.FairSoloSaid := fairSolo.proved
end Go.Proofs.YtaopdopnecognaaGreat
#print axioms Go.Proofs.YtaopdopnecognaaGreat.fairSolo_holds
