/- A function whose one loop is over a function that keeps a variable of its own. -/
import Derived.Test.YtaopdopnecognaaGreatMillAll8
set_option linter.all false
namespace Go.Proofs.Mill
open Go.RowKit
def ZxG (gt:Nat) (kds:List (Nat×Kd)) (σ:St):Option (FuncId×Int×List AV×List AV) := match look σ.tm gt with
 | .fn f [.ptr i1 0, .ptr i2 0, .ptr i3 0, .ptr i4 0] => match look σ.ob i2 with
  | .box [.int .i64 x] => match Zi0 (ZiJ 8) [.ptr i1 0, .ptr i3 0, .ptr i4 0] ((i2, .dead) :: σ.ob) with
   | some (cs, ob) => match norm kds ⟨σ.tm, ob⟩ with
    | some hd=>some (f,x,cs,hd)
    | none=>none
   | none=>none
  | _=>none
 | _=>none
section
variable {V:Env} {w0 w:World} {ok:Nat->Prop} {nt:Nat} {σ:St} {a:Act} {mu:Nat->Option Nat}
theorem ZB8 {gt:Nat} {kds:List (Nat×Kd)} {f:FuncId} {x:Int} {cs hd:List AV} (hr:R w0 ok nt [] σ a w mu) (hgt:gt<nt) (h:ZxG gt kds σ=some (f,x,cs,hd)) :
   ∃ mu' pb u1 u3 u4, R w0 (fun b => ok b /\ b ≠ pb) nt [] (build kds hd) a w mu' /\ ok pb /\ w0.heap.size <= pb /\ pb < w.heap.size /\ a.eval (.tmp gt) = .func (.func f) #[] #[u1, .pointer (some ⟨pb, 0, none⟩), u3, u4] /\
     VL (cx w (build kds hd).ob mu' fun b=>ok b/\b≠pb) cs [u1,u3,u4]/\∃ e,w.heap[pb]?=some (.cells #[.int .i64 x] e (0,0)):=by
 unfold ZxG at h
 split at h
 case h_2=>cases h
 rename_i f' i1 i2 i3 i4 hfn
 split at h
 case h_2=>cases h
 rename_i x' hob
 split at h
 case h_2=>cases h
 rename_i cs' ob' hfz
 split at h
 case h_2=>cases h
 rename_i hd' hnorm
 simp only [Option.some.injEq,Prod.mk.injEq] at h
 obtain ⟨rfl,rfl,rfl,rfl⟩:=h
 have hv:=hr.tm gt hgt
 rw [hfn] at hv
 obtain ⟨vs,hge,hcaps⟩:=hv
 obtain ⟨u1,r1,hc1,hp1,hcaps⟩:=Za6 hcaps
 obtain ⟨u2,r2,rfl,hp2,hcaps⟩:=Za6 hcaps
 obtain ⟨u3,r3,rfl,hp3,hcaps⟩:=Za6 hcaps
 obtain ⟨u4,r4,rfl,hp4,hcaps⟩:=Za6 hcaps
 have hcaps:=Zbo hcaps
 subst hcaps
 have hvs:vs=#[u1,u2,u3,u4]:=by
   obtain ⟨l⟩:=vs
   simp at hc1
   simp [hc1]
 subst hvs
 have hp2':PtrV (cx w σ.ob mu ok) i2 0 u2:=hp2
 unfold PtrV at hp2'
 rw [show (cx w σ.ob mu ok).ob i2=.box [.int .i64 x'] from hob] at hp2'
 obtain ⟨pb,hmu,rfl⟩:=hp2'
 have hmu:mu i2=some pb:=hmu
 have hcell:∃ e,w.heap[pb]?=some (.cells #[.int .i64 x'] e (0,0)):=by
   have:=hr.mem.obj i2
   unfold ObjOK at this
   rw [show (cx w σ.ob mu ok).ob i2=.box [.int .i64 x'] from hob] at this
   obtain ⟨b,cur,e,h1,h2,h3⟩:=this
   have h1:mu i2=some b:=h1
   rw [hmu] at h1
   obtain rfl:=Option.some.inj h1
   obtain ⟨u,r,hc,hu,hr⟩:=Za6 h3
   have hr:=Zbo hr
   subst hr
   have hu:u=.int .i64 x':=hu
   subst hu
   have:cur=#[.int .i64 x']:=by
     obtain ⟨l⟩:=cur
     simp at hc
     simp [hc]
   rw [<- this]
   exact ⟨e,h2⟩
 have hr1:=hr.give hob hmu rfl
 have hv1:=hr1.tm gt hgt
 rw [show look (St.mk σ.tm ((i2,.dead)::σ.ob)).tm gt=_ from hfn] at hv1
 obtain ⟨vs,hge1,hcaps1⟩:=hv1
 have hvs:vs=#[u1,.pointer (some ⟨pb,0,none⟩),u3,u4]:=by
   have:=hge1.symm.trans hge
   simpa using this
 subst hvs
 obtain ⟨q1,_,q3,q4,_⟩:=hcaps1
 obtain ⟨hfr,hF⟩:=Zfl (w0:=w0) (w:=w) (ok:=fun k=>ok k/\k≠pb) (fun v ob x ob' u h=>ZgD 8 v ob x ob' u h) _ _ _ _ [u1,u3,u4] hfz
 obtain ⟨mu2,hm2,hmono2,hvl2⟩:=hF _ hr1.mem ⟨q1,q3,q4,trivial⟩
 have hr2:=hr1.go hm2 hmono2
 obtain ⟨mu3,hr3,hvl3⟩:=ZmM (J:=fun c=>VL c cs' [u1,u3,u4]) (fun c c' h1 hw hj=>Zio (fun b hb=>⟨h1 b hb,by rw [hw]⟩) cs' _ hfr hj) ⟨mu2,hr2,hvl2⟩ hnorm
 exact ⟨mu3,pb,u1,u3,u4,hr3,hr.mem.own_ok (id:=i2) hmu,hr.mem.base i2 pb hmu,hr.mem.lt (id:=i2) hmu,hge,hvl3,hcell⟩
theorem Zse {f0:FuncId} {fn:Func} {rounds depth gt:Nat} {A1 A2 B x y:Code} {ps:Array Tmp} {kds:List (Nat×Kd)} {σ α:Type} {enc:σ->List AV} {par:α->List AV} {encE:α->Array Value} {dec:List AV->Option σ}
    {step:σ->α->Option (σ⊕Empty)} {f:FuncId} {x0:Int} {cs:List AV} {els:List α} {st0 stN:σ} {args:List AV} {vals:Array Value} {rk:List Kd} {r:AV}
    (hG:Zai V) (hf:V.P.funcs[f0]?=some fn) (hbody:fn.body=some (.seq A1 (.seq (.seq A2 (.block 0 (.rangeFunc (.tmp gt) ps x y))) B))) (hnt:fn.ntmps=nt) (hle:args.length<=nt) (hgt:gt<nt)
    (hlaw:∀ c x,VL c (par x) (encE x).toList) (hps:∀ p∈ps.toList,p<nt) (hpl:∀ e,(par e).length=ps.size)
    (hdecS:∀ hd st,dec hd=some st->hd=enc st) (hlone:∀ st,(build kds (enc st)).lone=true)
    (hstep:∀ st e,evR V (inlK V rounds depth) nt rounds x y (Zf6 (ps.toList.zip (par e)) (build kds (enc st))) (fun e τ=>Zdn kds (fun _=>[]) dec (fun _ _=>(none:Option Empty)) e ⟨(build kds (enc st)).tm,τ.ob⟩)=step st e)
    (hA:evK V (fun _=>none) (inlK V rounds depth) 1 nt rounds A1 ⟨ZbU 0 args,[]⟩ (fun e σ=>match e with
      | .normal=>evK V (fun _=>none) (inlK V rounds depth) 1 nt rounds A2 σ (fun e σ=>match e with | .normal=>ZxG gt kds σ | _=>none)
      | _=>none)=some (f,x0,cs,enc st0))
    (hent:Zd9 V.P f)
    (hiter:∀ (c:Cx) (u1 u3 u4:Value) (pb:Nat),VL c cs [u1,u3,u4]->(∃ e,c.w.heap[pb]?=some (.cells #[.int .i64 x0] e (0,0)))->¬c.okb pb ->
      ZmP V.P f #[u1,.pointer (some ⟨pb,0,none⟩),u3,u4] (els.map encE) c.okb pb c.w)
    (hfold:Zcq step els st0=some (.inl stN))
    (hB:evK V (fun _=>none) (inlK V rounds depth) 1 nt rounds B (build kds (enc stN)) (fun e σ=>match e with
      | .ret=>(Zf5 V fn.results.toList fun vs=>.ret (Zjd vs)).runK σ [] (fun v _=>Zko rk v σ.ob)
      | _=>none)=some r)
    (hv:VL (pcx w ok) args vals.toList):Calls V.P f0 vals w fun e w'=>∃ u,e=.returned u/\Below w.heap.size w w'/\Res w ok w' r u:=by
  obtain ⟨ok1,hok1⟩:∃ ok1:Nat->Prop,ok1=fun b=>ok b\/w.heap.size<=b:=⟨_,rfl⟩
  have hm:Mem w (cx w [] (fun _=>none) ok1) :=
    ⟨fun _=>rfl,fun _ _ _ h=>(by cases h),fun _ _ h=>(by cases h),Below.refl _ _,fun b hb=>.inl (by rw [hok1];exact .inr hb)⟩
  have hv':VL (cx w [] (fun _=>none) ok1) args vals.toList:=by
    have hmono:Mono (pcx w ok) (cx w [] (fun _=>none) ok1):=Zdf (fun b hb=>⟨⟨by rw [hok1];exact .inl hb.1,hb.2.1,hb.2.2⟩,rfl⟩) (fun id=>.inl rfl) (fun _ _ h=>⟨h,rfl⟩)
    exact hmono.vl _ _ hv
  have hst:Holds T w ok1 nt [] ⟨ZbU 0 args,[]⟩ { tmps:=vals++Array.replicate (nt-vals.size) undef,defers:=[] } w:=⟨_,Zfn hm hv' hle,trivial⟩
  subst hnt
  refine (callsIn_wide (n:=0)).1 (callsIn_of_wp_marks (F:=Fence.wide) (n:=0) hf hbody trivial ?_)
  refine wpIn_seq (ZbM hG Stays.triv hst hA fun e1 σ1 a1 w1 hh1 h1=>?_)
  cases e1 with
  | exit id=>cases h1
  | goto id=>cases h1
  | ret=>cases h1
  | normal =>
  refine wpIn_seq (wpIn_seq (ZbM hG Stays.triv hh1 h1 fun e2 σ2 a2 w2 hh2 h2=>?_))
  cases e2 with
  | exit id=>cases h2
  | goto id=>cases h2
  | ret=>cases h2
  | normal =>
  obtain ⟨mu2,hr2,_⟩:=hh2
  obtain ⟨mu3,pb,u1,u3,u4,hr3,hokp,hbase,hlt,hge,hvl,hcell⟩:=ZB8 hr2 hgt h2
  have hnokb:¬(cx w2 (build kds (enc st0)).ob mu3 fun b=>ok1 b/\b≠pb).okb pb:=fun h=>h.1.2 rfl
  refine wpIn_block (Zy2 (st0:=st0) hG hlaw hps hpl hdecS hlone hstep hr3 hokp hbase hlt hge hent (hiter (cx w2 (build kds (enc st0)).ob mu3 fun b=>ok1 b/\b≠pb) u1 u3 u4 pb hvl hcell hnokb) hfold fun a4 w4 hh4=>?_)
  show Code.wpIn _ _ _ _ _ _ _
  refine ZfF (J:=T) (Δ:=anyD) (ro:=none) hG (Zba hG depth) Stays.triv (fun _ _ h=>by cases h) (fun _ _ h=>by cases h) B (fun _ _ _ h=>by cases h) hh4 hB fun e5 σ5 a5 w5 hh5 h5=>?_
  cases e5 with
  | exit id=>cases h5
  | goto id=>cases h5
  | normal=>cases h5
  | ret =>
  obtain ⟨ds',_,mu5,hr5,_⟩:=hh5
  obtain ⟨v,_,k1,k2⟩:=Rd.runK_val h5
  show LeavesInM (Za4 none) 0 V.P fn a5.tmps _ a5.defers .returning w5
  rw [hr5.defers]
  refine Zjj ds' a5 w5 hr5 fun a6 w6 ht hr6 _=>?_
  obtain ⟨u,hu,huv⟩:=Zh6 hr6 k1
  rw [ht] at hu
  refine ⟨u,hu,u,rfl,hr6.mem.ext,fun base=>?_⟩
  obtain ⟨ob2,os,m⟩:=Zhj k2 base
  obtain ⟨n,hfr⟩:=Zet base r
  obtain ⟨mu2,hm2,hv2,_⟩:=Zjq hr6.mem m hfr.2.2.2 (ob2:=Zay (ZbZ base r).2 []) (fun p hp=>ZcX _ _ p hfr.2.2.2 hp) (fun i hi=>by rw [Zb3 _ _ _ hi];rfl)
  have h7:=(hv2 [u] ⟨huv,trivial⟩).1
  rw [hok1] at hm2 h7
  exact ⟨mu2,hm2,h7⟩
end
end Go.Proofs.Mill
