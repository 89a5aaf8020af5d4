/- The given statement WorldRuns, out of the plain law and of what the functions compute. -/
import Derived.Test.YtecgogmolkjhjaaGreatRows
import Derived.Test.YtecgogmolkjhjaaGreatMillOkDa
import Derived.Test.YtecgogmolkjhjaaGreatMillOpens
import Derived.Test.YtecgogmolkjhjaaGreatMillPureWorldRuns
import Derived.WalkKit
import Derived.ProofKit
import Derived.OpenShut
import Derived.ChangeOld
import Derived.Below
import Derived.SizedLaws
import Derived.Carry
set_option linter.all false
set_option maxRecDepth 100000
namespace Go.Proofs.YtecgogmolkjhjaaGreat.worldRuns
open Go.ChangeShapes Go.WideShapes Go.ChangeAt Go.RowKit Go.Proofs.Mill
set_option linter.unusedVariables false
theorem lifted (os:Os) (started:os.Started) (H:Type) (enc:TypeId×Value->H) :
   ReturnsInHanded {} Tryz.checked os 8 .any (Rows.worldRunsSpec.pre6 enc Tryz.prog Tryz.f8 Rows.worldRunsRow.domain false) (Rows.worldRunsSpec.post enc Tryz.prog Tryz.f8 false true false false):=by
 refine returnsInHanded_of_change_sized (C:=Tryz.checked) own1 started (by kernel_rfl) Tryz.func8
   (ChangeSpec.witness6 (enc:=enc) (C:=Tryz.checked) false ⟨#[],#[.agg #[.int .i64 0,.int .i64 0,.int .i64 0,.int .i64 0,.int .i64 0,.int .i64 0,.int .i64 0,.int .i64 0,.bool false,.int .i64 0,.int .i64 0,.int .i64 0],.slice none 0 0,.slice none 0 0],[]⟩ 8 (by kernel_rfl) (by kernel_rfl) (by kernel_rfl) (by kernel_rfl)) ?_
 intro W base args ds gs before hval0 hW hcnd hsz0 _
 have hval:∀ (j:Nat) t v,Tryz.f8.params[j]?=some t->args[j]?=some v->Value.okWide Tryz.prog W .any base t v:=hval0
 have hW':=hW
 obtain ⟨p,q,hA0,hV,rfl,hfz,hnd⟩:=hW
 have hA:DataW.TrodAll enc Tryz.prog W 0 (fun _=>true) true Tryz.f8.params.toList args.toList ds p:=hA0
 rw [Tryz.params8] at hA hval
 obtain ⟨v0,vs0,d0,ds0,p0,q0,hargs,rfl,rfl,h0,r0⟩:=trodAll_cons hA
 obtain ⟨v1,vs1,d1,ds1,p1,q1,rfl,rfl,rfl,h1,r1⟩:=trodAll_cons r0
 obtain ⟨v2,vs2,d2,ds2,p2,q2,rfl,rfl,rfl,h2,r2⟩:=trodAll_cons r1
 obtain ⟨rfl,rfl,rfl⟩:=trodAll_nil r2
 obtain rfl:args=#[v0,v1,v2]:=by cases args;simp_all
 obtain ⟨rfl,rfl⟩:=trodVars_none hV
 obtain ⟨x0,a0,o0⟩:=ZFp Zwu ZCs Tryz.underlying23 (by kernel_rfl) (hval 0 23 v0 rfl rfl) h0
 obtain ⟨x1,a1,o1⟩:=Zx6 (v:=(Zax .sentry)) Zwu (t:=78) (by kernel_rfl) (Zyb .sentry) (fun _ h=>by rw [Tryz.underlying78] at h;cases h) (fun _ _ h=>by rw [Tryz.underlying78] at h;cases h) (hval 1 78 v1 rfl rfl) h1
 obtain ⟨x2,a2,o2⟩:=Zx6 (v:=(Zax .int)) Zwu (t:=24) (by kernel_rfl) (Zyb .int) (fun _ h=>by rw [Tryz.underlying24] at h;cases h) (fun _ _ h=>by rw [Tryz.underlying24] at h;cases h) (hval 2 24 v2 rfl rfl) h2
 have hvl:VL (pcx W fun _=>True) ((Zaa (Zaq celConfig) (Zaa (Zax .sentry) (Zac (Zax .int)))).enc (x0,x1,x2)) [v0,v1,v2]:=⟨a0,a1,a2,trivial⟩
 refine (ok8 W (fun _=>True) ((Zaa (Zaq celConfig) (Zaa (Zax .sentry) (Zac (Zax .int)))).enc (x0,x1,x2)) #[v0,v1,v2] (x0,x1,x2) true (by kernel_rfl) (ZtT x0 x1 x2 o0 o1 o2) hvl).mono fun e W' he=>?_
 obtain ⟨v,rfl,bel,hres⟩:=he
 obtain ⟨mu,_,hv⟩:=hres 0
 have hv:v=.bool true:=hv
 subst hv
 have lt0:∀ x∈p0,x.block<W.heap.size:=by obtain ⟨m,hm⟩:=h0;exact DataW.trod_lt m _ _ _ hm
 have lt1:∀ x∈p1,x.block<W.heap.size:=by obtain ⟨m,hm⟩:=h1;exact DataW.trod_lt m _ _ _ hm
 have lt2:∀ x∈p2,x.block<W.heap.size:=by obtain ⟨m,hm⟩:=h2;exact DataW.trod_lt m _ _ _ hm
 exact ⟨_,rfl,_,_,_,[],_,[],hW',trodAll_mk1 (shut_bool Tryz.underlying4 _),(trodAll_cons_mk (Below.trod Zvo (by kernel_rfl) (of_decide_eq_true (by kernel_rfl)) h0 bel lt0) (trodAll_cons_mk (Below.trod Zvo (by kernel_rfl) (of_decide_eq_true (by kernel_rfl)) h1 bel lt1) (trodAll_cons_mk (Below.trod Zvo (by kernel_rfl) (of_decide_eq_true (by kernel_rfl)) h2 bel lt2) trodAll_mk0))),rfl,bel.frame _,fun h=>by cases h⟩
theorem c6:(Rows.worldRunsRow.inPlace == Tryz.prog.inPlace 8)=true:=by kernel_rfl
theorem c7:(Rows.worldRunsRow.unfollowed == Tryz.prog.unfollowed 8)=true:=by kernel_rfl
theorem c8:(Rows.worldRunsRow.recurses == Tryz.prog.recurses 8)=true:=by kernel_rfl
theorem c9:(Rows.worldRunsRow.named == Tryz.prog.varsNamed 8)=true:=by kernel_rfl
theorem closed:joinedFacts Tryz.prog 8 Tryz.f8 Rows.worldRunsSpec Rows.worldRunsRow=true :=
 ZAP ZD5 ZGN ZE5 ZFe Zvo ZFN ZFi ZF7 ZE6 ZFk (by kernel_rfl) (by kernel_rfl) (by kernel_rfl) rfl rfl c6 c7 c8 c9 (by kernel_rfl) (by kernel_rfl) (by kernel_rfl) (by kernel_rfl) (by kernel_rfl) (by kernel_rfl) (by kernel_rfl) (by kernel_rfl) (by kernel_rfl)
theorem over:Rows.worldRunsRow.holds Tryz.pinned (OpenSpec.ofChange Rows.worldRunsSpec) :=
 OpenClaim.holds_of_wide 8 Tryz.f8 rfl rfl rfl rfl rfl rfl rfl ⟨rfl,rfl,rfl,rfl,rfl⟩ rfl rfl rfl rfl rfl (by kernel_rfl) Tryz.func8 closed
   (of_decide_eq_true (by kernel_rfl)) (by unfold Func.isWrapper;first | (rw [if_pos (by decide +kernel)];kernel_rfl) | (rw [if_neg (by decide +kernel)];exact ⟨rfl,rfl⟩))
   (fun os started H enc _=>lifted os started H enc)
theorem proved:Rows.WorldRunsSaid:=over
end Go.Proofs.YtecgogmolkjhjaaGreat.worldRuns
namespace Go.Proofs.YtecgogmolkjhjaaGreat
theorem worldRuns_holds:Rows.WorldRunsSaid:=worldRuns.proved
end Go.Proofs.YtecgogmolkjhjaaGreat
#print axioms Go.Proofs.YtecgogmolkjhjaaGreat.worldRuns_holds
