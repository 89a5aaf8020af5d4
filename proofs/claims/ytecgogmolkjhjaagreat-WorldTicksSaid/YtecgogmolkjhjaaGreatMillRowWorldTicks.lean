/- The given statement WorldTicks, out of the plain law and of what the functions compute. -/
import Derived.Test.YtecgogmolkjhjaaGreatRows
import Derived.Test.YtecgogmolkjhjaaGreatMillOkDa
import Derived.Test.YtecgogmolkjhjaaGreatMillOpens
import Derived.Test.YtecgogmolkjhjaaGreatMillPureWorldTicks
import Derived.WalkKit
import Derived.ProofKit
import Derived.OpenShut
import Derived.ChangeOld
import Derived.Below
import Derived.SizedLaws
import Derived.Carry
set_option linter.all false
set_option maxRecDepth 100000
namespace Go.Proofs.YtecgogmolkjhjaaGreat.worldTicks
open Go.ChangeShapes Go.WideShapes Go.ChangeAt Go.RowKit Go.Proofs.Mill
set_option linter.unusedVariables false
theorem lifted (os:Os) (started:os.Started) (H:Type) (enc:TypeId×Value->H) :
   ReturnsInHanded {} Tryz.checked os 10 .any (Rows.worldTicksSpec.pre6 enc Tryz.prog Tryz.f10 Rows.worldTicksRow.domain false) (Rows.worldTicksSpec.post enc Tryz.prog Tryz.f10 false true false false):=by
 refine returnsInHanded_of_change_sized (C:=Tryz.checked) own1 started (by kernel_rfl) Tryz.func10
   (ChangeSpec.witness6 (enc:=enc) (C:=Tryz.checked) false ⟨#[],#[.agg #[.int .i64 0,.int .i64 0,.int .i64 0,.int .i64 0,.int .i64 0,.int .i64 0,.int .i64 0,.int .i64 0,.bool false,.int .i64 0,.int .i64 0,.int .i64 0],.slice none 0 0,.slice none 0 0,.int .u8 0],[]⟩ 8 (by kernel_rfl) (by kernel_rfl) (by kernel_rfl) (by kernel_rfl)) ?_
 intro W base args ds gs before hval0 hW hcnd hsz0 _
 have hval:∀ (j:Nat) t v,Tryz.f10.params[j]?=some t->args[j]?=some v->Value.okWide Tryz.prog W .any base t v:=hval0
 have hW':=hW
 obtain ⟨p,q,hA0,hV,rfl,hfz,hnd⟩:=hW
 have hA:DataW.TrodAll enc Tryz.prog W 0 (fun _=>true) true Tryz.f10.params.toList args.toList ds p:=hA0
 rw [Tryz.params10] at hA hval
 obtain ⟨v0,vs0,d0,ds0,p0,q0,hargs,rfl,rfl,h0,r0⟩:=trodAll_cons hA
 obtain ⟨v1,vs1,d1,ds1,p1,q1,rfl,rfl,rfl,h1,r1⟩:=trodAll_cons r0
 obtain ⟨v2,vs2,d2,ds2,p2,q2,rfl,rfl,rfl,h2,r2⟩:=trodAll_cons r1
 obtain ⟨v3,vs3,d3,ds3,p3,q3,rfl,rfl,rfl,h3,r3⟩:=trodAll_cons r2
 obtain ⟨rfl,rfl,rfl⟩:=trodAll_nil r3
 obtain rfl:args=#[v0,v1,v2,v3]:=by cases args;simp_all
 obtain ⟨rfl,rfl⟩:=trodVars_none hV
 obtain ⟨x0,a0,o0⟩:=ZED Zqz ZBA Tryz.underlying23 (by kernel_rfl) (hval 0 23 v0 rfl rfl) h0
 obtain ⟨x1,a1,o1⟩:=Zr9 (v:=(Zau .sentry)) Zqz (t:=78) (by kernel_rfl) (Zxd .sentry) (fun _ h=>by rw [Tryz.underlying78] at h;cases h) (fun _ _ h=>by rw [Tryz.underlying78] at h;cases h) (hval 1 78 v1 rfl rfl) h1
 obtain ⟨x2,a2,o2⟩:=Zr9 (v:=(Zau .int)) Zqz (t:=24) (by kernel_rfl) (Zxd .int) (fun _ h=>by rw [Tryz.underlying24] at h;cases h) (fun _ _ h=>by rw [Tryz.underlying24] at h;cases h) (hval 2 24 v2 rfl rfl) h2
 obtain ⟨x3,a3,o3⟩:=Zr9 (v:=(Zad .u8)) Zqz (t:=5) (by kernel_rfl) (ZDo .u8) (fun _ h=>by rw [Tryz.underlying5] at h;cases h) (fun _ _ h=>by rw [Tryz.underlying5] at h;cases h) (hval 3 5 v3 rfl rfl) h3
 have hvl:VL (pcx W fun _=>True) ((Zaa (Zap celConfig) (Zaa (Zau .sentry) (Zaa (Zau .int) (Zac (Zad .u8))))).enc (x0,x1,x2,x3)) [v0,v1,v2,v3]:=⟨a0,a1,a2,a3,trivial⟩
 refine (ok10 W (fun _=>True) ((Zaa (Zap celConfig) (Zaa (Zau .sentry) (Zaa (Zau .int) (Zac (Zad .u8))))).enc (x0,x1,x2,x3)) #[v0,v1,v2,v3] (x0,x1,x2,x3) true (by kernel_rfl) (ZqP x0 x1 x2 x3 o0 o1 o2 o3) hvl).mono fun e W' he=>?_
 obtain ⟨v,rfl,bel,hres⟩:=he
 obtain ⟨mu,_,hv⟩:=hres 0
 have hv:v=.bool true:=hv
 subst hv
 have lt0:∀ x∈p0,x.block<W.heap.size:=by obtain ⟨m,hm⟩:=h0;exact DataW.trod_lt m _ _ _ hm
 have lt1:∀ x∈p1,x.block<W.heap.size:=by obtain ⟨m,hm⟩:=h1;exact DataW.trod_lt m _ _ _ hm
 have lt2:∀ x∈p2,x.block<W.heap.size:=by obtain ⟨m,hm⟩:=h2;exact DataW.trod_lt m _ _ _ hm
 have lt3:∀ x∈p3,x.block<W.heap.size:=by obtain ⟨m,hm⟩:=h3;exact DataW.trod_lt m _ _ _ hm
 exact ⟨_,rfl,_,_,_,[],_,[],hW',trodAll_mk1 (shut_bool Tryz.underlying4 _),(trodAll_cons_mk (Below.trod Zqs (by kernel_rfl) (of_decide_eq_true (by kernel_rfl)) h0 bel lt0) (trodAll_cons_mk (Below.trod Zqs (by kernel_rfl) (of_decide_eq_true (by kernel_rfl)) h1 bel lt1) (trodAll_cons_mk (Below.trod Zqs (by kernel_rfl) (of_decide_eq_true (by kernel_rfl)) h2 bel lt2) (trodAll_cons_mk (Below.trod Zqs (by kernel_rfl) (of_decide_eq_true (by kernel_rfl)) h3 bel lt3) trodAll_mk0)))),rfl,bel.frame _,fun h=>by cases h⟩
theorem c6:(Rows.worldTicksRow.inPlace == Tryz.prog.inPlace 10)=true:=by kernel_rfl
theorem c7:(Rows.worldTicksRow.unfollowed == Tryz.prog.unfollowed 10)=true:=by kernel_rfl
theorem c8:(Rows.worldTicksRow.recurses == Tryz.prog.recurses 10)=true:=by kernel_rfl
theorem c9:(Rows.worldTicksRow.named == Tryz.prog.varsNamed 10)=true:=by kernel_rfl
theorem closed:joinedFacts Tryz.prog 10 Tryz.f10 Rows.worldTicksSpec Rows.worldTicksRow=true :=
 ZAm ZDv ZF0 ZEw ZEB Zqs ZFO ZEx ZFG ZEy ZEv (by kernel_rfl) (by kernel_rfl) (by kernel_rfl) rfl rfl c6 c7 c8 c9 (by kernel_rfl) (by kernel_rfl) (by kernel_rfl) (by kernel_rfl) (by kernel_rfl) (by kernel_rfl) (by kernel_rfl) (by kernel_rfl) (by kernel_rfl)
theorem over:Rows.worldTicksRow.holds Tryz.pinned (OpenSpec.ofChange Rows.worldTicksSpec) :=
 OpenClaim.holds_of_wide 10 Tryz.f10 rfl rfl rfl rfl rfl rfl rfl ⟨rfl,rfl,rfl,rfl,rfl⟩ rfl rfl rfl rfl rfl (by kernel_rfl) Tryz.func10 closed
   (of_decide_eq_true (by kernel_rfl)) (by unfold Func.isWrapper;first | (rw [if_pos (by decide +kernel)];kernel_rfl) | (rw [if_neg (by decide +kernel)];exact ⟨rfl,rfl⟩))
   (fun os started H enc _=>lifted os started H enc)
theorem proved:Rows.WorldTicksSaid:=over
end Go.Proofs.YtecgogmolkjhjaaGreat.worldTicks
namespace Go.Proofs.YtecgogmolkjhjaaGreat
theorem worldTicks_holds:Rows.WorldTicksSaid:=worldTicks.proved
end Go.Proofs.YtecgogmolkjhjaaGreat
#print axioms Go.Proofs.YtecgogmolkjhjaaGreat.worldTicks_holds
