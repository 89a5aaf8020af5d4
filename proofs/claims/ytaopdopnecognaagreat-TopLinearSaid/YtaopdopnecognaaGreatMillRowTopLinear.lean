/- The given statement TopLinear, out of the plain law and of what the functions compute. -/
import Derived.Test.YtaopdopnecognaaGreatRows
import Derived.Test.YtaopdopnecognaaGreatMillOkGb
import Derived.Test.YtaopdopnecognaaGreatMillOpens
import Derived.Test.YtaopdopnecognaaGreatMillPureTopLinear
import Derived.WalkKit
import Derived.ProofKit
import Derived.OpenShut
import Derived.ChangeOld
import Derived.Below
import Derived.SizedLaws
import Derived.Carry
set_option linter.all false
set_option maxRecDepth 100000
namespace Go.Proofs.Mill
theorem fn5 (x0:Config) (x1:ByteArray) (x2:List Int):s5.fn (x0,x1,x2)=Zga x0 x1 x2:=by kernel_rfl
end Go.Proofs.Mill
namespace Go.Proofs.YtaopdopnecognaaGreat.topLinear
open Go.ChangeShapes Go.WideShapes Go.ChangeAt Go.RowKit Go.Proofs.Mill
set_option linter.unusedVariables false
theorem lifted (os:Os) (started:os.Started) (H:Type) (enc:TypeId×Value->H) :
   ReturnsInHanded {} Tryz.checked os 5 .any (Rows.topLinearSpec.pre6 enc Tryz.prog Tryz.f5 Rows.topLinearRow.domain false) (Rows.topLinearSpec.post enc Tryz.prog Tryz.f5 false true false false):=by
 refine returnsInHanded_of_change_sized (C:=Tryz.checked) own1 started (by kernel_rfl) Tryz.func5
   (ChangeSpec.witness6 (enc:=enc) (C:=Tryz.checked) false ⟨#[],#[.agg #[.int .i64 0,.int .i64 0,.int .i64 0,.int .i64 0,.int .i64 0,.int .i64 0,.int .i64 0,.int .i64 0,.bool false,.int .i64 0,.int .i64 0,.int .i64 0],.string ByteArray.empty,.slice none 0 0],[]⟩ 8 (by kernel_rfl) (by kernel_rfl) (by kernel_rfl) (by kernel_rfl)) ?_
 intro W base args ds gs before hval0 hW hcnd hsz0 _
 have hval:∀ (j:Nat) t v,Tryz.f5.params[j]?=some t->args[j]?=some v->Value.okWide Tryz.prog W .any base t v:=hval0
 have hW':=hW
 obtain ⟨p,q,hA0,hV,rfl,hfz,hnd⟩:=hW
 have hA:DataW.TrodAll enc Tryz.prog W 0 (fun _=>true) true Tryz.f5.params.toList args.toList ds p:=hA0
 rw [Tryz.params5] at hA hval
 obtain ⟨v0,vs0,d0,ds0,p0,q0,hargs,rfl,rfl,h0,r0⟩:=trodAll_cons hA
 obtain ⟨v1,vs1,d1,ds1,p1,q1,rfl,rfl,rfl,h1,r1⟩:=trodAll_cons r0
 obtain ⟨v2,vs2,d2,ds2,p2,q2,rfl,rfl,rfl,h2,r2⟩:=trodAll_cons r1
 obtain ⟨rfl,rfl,rfl⟩:=trodAll_nil r2
 obtain rfl:args=#[v0,v1,v2]:=by cases args;simp_all
 obtain ⟨rfl,rfl⟩:=trodVars_none hV
 obtain ⟨x0,a0,o0⟩:=ZCF ZuO ZAj Tryz.underlying23 (by kernel_rfl) (hval 0 23 v0 rfl rfl) h0
 obtain ⟨x1,a1,o1⟩:=Zwj (v:=valStr) ZuO (t:=9) (by kernel_rfl) ZB5 (fun _ h=>by rw [Tryz.underlying9] at h;cases h) (fun _ _ h=>by rw [Tryz.underlying9] at h;cases h) (hval 1 9 v1 rfl rfl) h1
 obtain ⟨x2,a2,o2⟩:=Zwj (v:=(Zap .int)) ZuO (t:=25) (by kernel_rfl) (ZBP .int) (fun _ h=>by rw [Tryz.underlying25] at h;cases h) (fun _ _ h=>by rw [Tryz.underlying25] at h;cases h) (hval 2 25 v2 rfl rfl) h2
 have hvl:VL (pcx W fun _=>True) ((Zaa (Zaq celConfig) (Zaa (valStr) (Zad (Zap .int)))).enc (x0,x1,x2)) [v0,v1,v2]:=⟨a0,a1,a2,trivial⟩
 refine (ok5 W (fun _=>True) ((Zaa (Zaq celConfig) (Zaa (valStr) (Zad (Zap .int)))).enc (x0,x1,x2)) #[v0,v1,v2] (x0,x1,x2) true (by kernel_rfl) ((fn5 x0 x1 x2).trans (ZrG x0 x1 x2 o0 o1 o2)) hvl).mono fun e W' he=>?_
 obtain ⟨v,rfl,bel,hres⟩:=he
 obtain ⟨mu,_,hv⟩:=hres 0
 have hv:v=.bool true:=hv
 subst hv
 have lt0:∀ x∈p0,x.block<W.heap.size:=by obtain ⟨m,hm⟩:=h0;exact DataW.trod_lt m _ _ _ hm
 have lt1:∀ x∈p1,x.block<W.heap.size:=by obtain ⟨m,hm⟩:=h1;exact DataW.trod_lt m _ _ _ hm
 have lt2:∀ x∈p2,x.block<W.heap.size:=by obtain ⟨m,hm⟩:=h2;exact DataW.trod_lt m _ _ _ hm
 exact ⟨_,rfl,_,_,_,[],_,[],hW',trodAll_mk1 (shut_bool Tryz.underlying4 _),(trodAll_cons_mk (Below.trod Ztk (by kernel_rfl) (of_decide_eq_true (by kernel_rfl)) h0 bel lt0) (trodAll_cons_mk (Below.trod Ztk (by kernel_rfl) (of_decide_eq_true (by kernel_rfl)) h1 bel lt1) (trodAll_cons_mk (Below.trod Ztk (by kernel_rfl) (of_decide_eq_true (by kernel_rfl)) h2 bel lt2) trodAll_mk0))),rfl,bel.frame _,fun h=>by cases h⟩
theorem c6:(Rows.topLinearRow.inPlace == Tryz.prog.inPlace 5)=true:=by kernel_rfl
theorem c7:(Rows.topLinearRow.unfollowed == Tryz.prog.unfollowed 5)=true:=by kernel_rfl
theorem c8:(Rows.topLinearRow.recurses == Tryz.prog.recurses 5)=true:=by kernel_rfl
theorem c9:(Rows.topLinearRow.named == Tryz.prog.varsNamed 5)=true:=by kernel_rfl
theorem closed:joinedFacts Tryz.prog 5 Tryz.f5 Rows.topLinearSpec Rows.topLinearRow=true :=
 ZyC ZBL ZDc ZC3 ZCR Ztk ZDi ZCK ZDy ZCV ZCY (by kernel_rfl) (by kernel_rfl) (by kernel_rfl) rfl rfl c6 c7 c8 c9 (by kernel_rfl) (by kernel_rfl) (by kernel_rfl) (by kernel_rfl) (by kernel_rfl) (by kernel_rfl) (by kernel_rfl) (by kernel_rfl) (by kernel_rfl)
theorem over:Rows.topLinearRow.holds Tryz.pinned (OpenSpec.ofChange Rows.topLinearSpec) :=
 OpenClaim.holds_of_wide 5 Tryz.f5 rfl rfl rfl rfl rfl rfl rfl ⟨rfl,rfl,rfl,rfl,rfl⟩ rfl rfl rfl rfl rfl (by kernel_rfl) Tryz.func5 closed
   (of_decide_eq_true (by kernel_rfl)) (by unfold Func.isWrapper;first | (rw [if_pos (by decide +kernel)];kernel_rfl) | (rw [if_neg (by decide +kernel)];exact ⟨rfl,rfl⟩))
   (fun os started H enc _=>lifted os started H enc)
theorem proved:Rows.TopLinearSaid:=over
end Go.Proofs.YtaopdopnecognaaGreat.topLinear
namespace Go.Proofs.YtaopdopnecognaaGreat
theorem topLinear_holds:Rows.TopLinearSaid:=topLinear.proved
end Go.Proofs.YtaopdopnecognaaGreat
#print axioms Go.Proofs.YtaopdopnecognaaGreat.topLinear_holds
