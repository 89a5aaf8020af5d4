/- The given statement WorldRefuses, out of the plain law and of what the functions compute. -/
import Derived.Test.YtecgogmolkjhjaaGreatRows
import Derived.Test.YtecgogmolkjhjaaGreatMillOkDa
import Derived.Test.YtecgogmolkjhjaaGreatMillOpens
import Derived.Test.YtecgogmolkjhjaaGreatMillPureWorldRefuses
import Derived.WalkKit
import Derived.ProofKit
import Derived.OpenShut
import Derived.ChangeOld
import Derived.Below
import Derived.SizedLaws
import Derived.Carry
set_option linter.all false
set_option maxRecDepth 100000
namespace Go.Proofs.YtecgogmolkjhjaaGreat.worldRefuses
open Go.ChangeShapes Go.WideShapes Go.ChangeAt Go.RowKit Go.Proofs.Mill
set_option linter.unusedVariables false
theorem lifted (os:Os) (started:os.Started) (H:Type) (enc:TypeId×Value->H) :
   ReturnsInHanded {} Tryz.checked os 15 .any (Rows.worldRefusesSpec.pre6 enc Tryz.prog Tryz.f15 Rows.worldRefusesRow.domain false) (Rows.worldRefusesSpec.post enc Tryz.prog Tryz.f15 false true false false):=by
 refine returnsInHanded_of_change_sized (C:=Tryz.checked) own1 started (by kernel_rfl) Tryz.func15
   (ChangeSpec.witness6 (enc:=enc) (C:=Tryz.checked) false ⟨#[],#[.agg #[.int .i64 0,.int .i64 0,.int .i64 0,.int .i64 0,.int .i64 0,.int .i64 0,.int .i64 0,.int .i64 0,.bool false,.int .i64 0,.int .i64 0,.int .i64 0],.slice none 0 0,.slice none 0 0,.agg #[.int .i64 0,.int .i64 0,.int .i64 0,.int .i64 0,.int .i64 0],.int .u8 0],[]⟩ 8 (by kernel_rfl) (by kernel_rfl) (by kernel_rfl) (by kernel_rfl)) ?_
 intro W base args ds gs before hval0 hW hcnd hsz0 _
 have hval:∀ (j:Nat) t v,Tryz.f15.params[j]?=some t->args[j]?=some v->Value.okWide Tryz.prog W .any base t v:=hval0
 have hW':=hW
 obtain ⟨p,q,hA0,hV,rfl,hfz,hnd⟩:=hW
 have hA:DataW.TrodAll enc Tryz.prog W 0 (fun _=>true) true Tryz.f15.params.toList args.toList ds p:=hA0
 rw [Tryz.params15] at hA hval
 obtain ⟨v0,vs0,d0,ds0,p0,q0,hargs,rfl,rfl,h0,r0⟩:=trodAll_cons hA
 obtain ⟨v1,vs1,d1,ds1,p1,q1,rfl,rfl,rfl,h1,r1⟩:=trodAll_cons r0
 obtain ⟨v2,vs2,d2,ds2,p2,q2,rfl,rfl,rfl,h2,r2⟩:=trodAll_cons r1
 obtain ⟨v3,vs3,d3,ds3,p3,q3,rfl,rfl,rfl,h3,r3⟩:=trodAll_cons r2
 obtain ⟨v4,vs4,d4,ds4,p4,q4,rfl,rfl,rfl,h4,r4⟩:=trodAll_cons r3
 obtain ⟨rfl,rfl,rfl⟩:=trodAll_nil r4
 obtain rfl:args=#[v0,v1,v2,v3,v4]:=by cases args;simp_all
 obtain ⟨rfl,rfl⟩:=trodVars_none hV
 obtain ⟨x0,a0,o0⟩:=Zzs Zod ZAK Tryz.underlying23 (by kernel_rfl) (hval 0 23 v0 rfl rfl) h0
 obtain ⟨x1,a1,o1⟩:=Zsb (v:=(Zau .sentry)) Zod (t:=78) (by kernel_rfl) (ZwT .sentry) (fun _ h=>by rw [Tryz.underlying78] at h;cases h) (fun _ _ h=>by rw [Tryz.underlying78] at h;cases h) (hval 1 78 v1 rfl rfl) h1
 obtain ⟨x2,a2,o2⟩:=Zsb (v:=(Zau .int)) Zod (t:=24) (by kernel_rfl) (ZwT .int) (fun _ h=>by rw [Tryz.underlying24] at h;cases h) (fun _ _ h=>by rw [Tryz.underlying24] at h;cases h) (hval 2 24 v2 rfl rfl) h2
 obtain ⟨x3,a3,o3⟩:=Zzs Zod ZA5 Tryz.underlying101 (by kernel_rfl) (hval 3 101 v3 rfl rfl) h3
 obtain ⟨x4,a4,o4⟩:=Zsb (v:=(Zad .u8)) Zod (t:=5) (by kernel_rfl) (ZDM .u8) (fun _ h=>by rw [Tryz.underlying5] at h;cases h) (fun _ _ h=>by rw [Tryz.underlying5] at h;cases h) (hval 4 5 v4 rfl rfl) h4
 have hvl:VL (pcx W fun _=>True) ((Zaa (Zap celConfig) (Zaa (Zau .sentry) (Zaa (Zau .int) (Zaa (Zap celSEntry) (Zac (Zad .u8)))))).enc (x0,x1,x2,x3,x4)) [v0,v1,v2,v3,v4]:=⟨a0,a1,a2,a3,a4,trivial⟩
 refine (ok15 W (fun _=>True) ((Zaa (Zap celConfig) (Zaa (Zau .sentry) (Zaa (Zau .int) (Zaa (Zap celSEntry) (Zac (Zad .u8)))))).enc (x0,x1,x2,x3,x4)) #[v0,v1,v2,v3,v4] (x0,x1,x2,x3,x4) true (by kernel_rfl) (Zpb x0 x1 x2 x3 x4 o0 o1 o2 o3 o4) hvl).mono fun e W' he=>?_
 obtain ⟨v,rfl,bel,hres⟩:=he
 obtain ⟨mu,_,hv⟩:=hres 0
 have hv:v=.bool true:=hv
 subst hv
 have lt0:∀ x∈p0,x.block<W.heap.size:=by obtain ⟨m,hm⟩:=h0;exact DataW.trod_lt m _ _ _ hm
 have lt1:∀ x∈p1,x.block<W.heap.size:=by obtain ⟨m,hm⟩:=h1;exact DataW.trod_lt m _ _ _ hm
 have lt2:∀ x∈p2,x.block<W.heap.size:=by obtain ⟨m,hm⟩:=h2;exact DataW.trod_lt m _ _ _ hm
 have lt3:∀ x∈p3,x.block<W.heap.size:=by obtain ⟨m,hm⟩:=h3;exact DataW.trod_lt m _ _ _ hm
 have lt4:∀ x∈p4,x.block<W.heap.size:=by obtain ⟨m,hm⟩:=h4;exact DataW.trod_lt m _ _ _ hm
 exact ⟨_,rfl,_,_,_,[],_,[],hW',trodAll_mk1 (shut_bool Tryz.underlying4 _),(trodAll_cons_mk (Below.trod ZoV (by kernel_rfl) (of_decide_eq_true (by kernel_rfl)) h0 bel lt0) (trodAll_cons_mk (Below.trod ZoV (by kernel_rfl) (of_decide_eq_true (by kernel_rfl)) h1 bel lt1) (trodAll_cons_mk (Below.trod ZoV (by kernel_rfl) (of_decide_eq_true (by kernel_rfl)) h2 bel lt2) (trodAll_cons_mk (Below.trod ZoV (by kernel_rfl) (of_decide_eq_true (by kernel_rfl)) h3 bel lt3) (trodAll_cons_mk (Below.trod ZoV (by kernel_rfl) (of_decide_eq_true (by kernel_rfl)) h4 bel lt4) trodAll_mk0))))),rfl,bel.frame _,fun h=>by cases h⟩
theorem c6:(Rows.worldRefusesRow.inPlace == Tryz.prog.inPlace 15)=true:=by kernel_rfl
theorem c7:(Rows.worldRefusesRow.unfollowed == Tryz.prog.unfollowed 15)=true:=by kernel_rfl
theorem c8:(Rows.worldRefusesRow.recurses == Tryz.prog.recurses 15)=true:=by kernel_rfl
theorem c9:(Rows.worldRefusesRow.named == Tryz.prog.varsNamed 15)=true:=by kernel_rfl
theorem closed:joinedFacts Tryz.prog 15 Tryz.f15 Rows.worldRefusesSpec Rows.worldRefusesRow=true :=
 Zz4 ZDe ZFk ZEb ZDV ZoV ZES ZEc ZEx ZDT ZD4 (by kernel_rfl) (by kernel_rfl) (by kernel_rfl) rfl rfl c6 c7 c8 c9 (by kernel_rfl) (by kernel_rfl) (by kernel_rfl) (by kernel_rfl) (by kernel_rfl) (by kernel_rfl) (by kernel_rfl) (by kernel_rfl) (by kernel_rfl)
theorem over:Rows.worldRefusesRow.holds Tryz.pinned (OpenSpec.ofChange Rows.worldRefusesSpec) :=
 OpenClaim.holds_of_wide 15 Tryz.f15 rfl rfl rfl rfl rfl rfl rfl ⟨rfl,rfl,rfl,rfl,rfl⟩ rfl rfl rfl rfl rfl (by kernel_rfl) Tryz.func15 closed
   (of_decide_eq_true (by kernel_rfl)) (by unfold Func.isWrapper;first | (rw [if_pos (by decide +kernel)];kernel_rfl) | (rw [if_neg (by decide +kernel)];exact ⟨rfl,rfl⟩))
   (fun os started H enc _=>lifted os started H enc)
theorem proved:Rows.WorldRefusesSaid:=over
end Go.Proofs.YtecgogmolkjhjaaGreat.worldRefuses
namespace Go.Proofs.YtecgogmolkjhjaaGreat
theorem worldRefuses_holds:Rows.WorldRefusesSaid:=worldRefuses.proved
end Go.Proofs.YtecgogmolkjhjaaGreat
#print axioms Go.Proofs.YtecgogmolkjhjaaGreat.worldRefuses_holds
