/- Parts of the proof: MillLoop, MillOpen, MillEnter. -/
import Derived.Test.YtaopdopnecognaaGreatMillAll3
import Derived.KernelRfl
import Derived.ProofKit
import Derived.ChangeArms
import Derived.Carry
import Derived.JoinedOf
import Derived.WalkKit
set_option linter.all false
namespace Go.Proofs.Mill
open Go.RowKit
def Ztg (j off:Nat):Val where
 α:=Unit
 kd:=.al j off
 enc _:=Zlw j off
 dec
   | .ptr a o=>bif Nat.beq a ((1024+j)*64) && Nat.beq o off then some () else none
   | _=>none
 law:=by
   intro v a h
   split at h
   . rename_i b o
     cases hb:(Nat.beq b ((1024+j)*64) && Nat.beq o off) with
     | false=>rw [hb] at h;cases h
     | true =>
       simp only [Bool.and_eq_true] at hb
       have h1:=Nat.eq_of_beq_eq_true hb.1
       have h2:=Nat.eq_of_beq_eq_true hb.2
       subst h1 h2
       rfl
   . cases h
def Zmd (f:FuncId) (j off:Nat):Val where
 α:=Unit
 kd:=.bal f j off
 enc _:=.bfn f [Zlw j off]
 dec
   | .bfn g [.ptr a o]=>bif Nat.beq g f && (Nat.beq a ((1024+j)*64) && Nat.beq o off) then some () else none
   | _=>none
 law:=by
   intro v a h
   split at h
   . rename_i g b o
     cases hb:(Nat.beq g f && (Nat.beq b ((1024+j)*64) && Nat.beq o off)) with
     | false=>rw [hb] at h;cases h
     | true =>
       simp only [Bool.and_eq_true] at hb
       have h0:=Nat.eq_of_beq_eq_true hb.1
       have h1:=Nat.eq_of_beq_eq_true hb.2.1
       have h2:=Nat.eq_of_beq_eq_true hb.2.2
       subst h0 h1 h2
       rfl
   . cases h
def Zav (c:Cel):Val where
 α:=c.α
 kd:=.box c.kds
 enc x:=.box (c.enc x)
 dec
   | .box cs=>c.dec cs
   | _=>none
 law:=by
   intro v a h
   split at h
   . rw [<- c.law _ _ h]
   . cases h
def Ex.same:Ex->Ex->Bool
 | .normal,.normal=>true
 | .exit a,.exit b=>Nat.beq a b
 | .goto a,.goto b=>Nat.beq a b
 | .ret,.ret=>true
 | _,_=>false
theorem Ex.same_eq {a b:Ex} (h:a.same b=true):a=b:=by
 cases a <;> cases b <;> first | rfl | (cases h;done) | (rw [Nat.eq_of_beq_eq_true h])
structure Way where
  e:Ex
  ts:List Nat
  v:Vals
def Zdm (ts:List Nat) (v:Vals) (a:Way) (run:v.α->Option a.v.α):LSpec where
 keep:=ts.zip v.kds
 σ:=v.α
 ρ:=a.v.α
 dec:=v.dec
 run:=run
 enc y:=(a.e,a.v.enc y)
 keepX _:=a.ts.zip a.v.kds
 out _ y k:=k a.e (a.v.enc y)
 law _ _ _:=rfl
def dex1 (a:Way) (e:Ex) (hd:List AV):Option a.v.α:=bif e.same a.e then a.v.dec hd else none
def Zfq (ts:List Nat) (v:Vals) (a b:Way) (run:v.α->Option (a.v.α⊕b.v.α)):LSpec where
 keep:=ts.zip v.kds
 σ:=v.α
 ρ:=a.v.α⊕b.v.α
 dec:=v.dec
 run:=run
 enc
   | .inl y=>(a.e,a.v.enc y)
   | .inr y=>(b.e,b.v.enc y)
 keepX e:=bif e.same a.e then a.ts.zip a.v.kds else b.ts.zip b.v.kds
 out _ y k:=match y with
   | .inl y=>k a.e (a.v.enc y)
   | .inr y=>k b.e (b.v.enc y)
 law _ y _:=by cases y <;> rfl
def dex2 (a b:Way) (e:Ex) (hd:List AV):Option (a.v.α⊕b.v.α) := bif e.same a.e then (match a.v.dec hd with | some y=>some (.inl y) | none=>none) else bif e.same b.e then (match b.v.dec hd with | some y=>some (.inr y) | none=>none) else none
def Zti (e:Ex):Bool:=match e with | .normal=>false | _=>true
theorem Zb9 {V:Env} {L:Nat->Option LSpec} {nt rounds depth:Nat} {ts:List Nat} {v:Vals} {a:Way} {step:v.α->Option (v.α⊕a.v.α)} {c:Code}
   (hG:Zai V) (ha:Zti a.e=true) (hin:∀ c'∈ZaZ c,∀ s,L (ZaH c')=some s->LoopOK V nt s c')
   (hstep:∀ x,evK V L (inlK V rounds depth) 1 nt rounds c (build (ts.zip v.kds) (v.enc x)) (Zdn (ts.zip v.kds) (fun _=>a.ts.zip a.v.kds) v.dec (dex1 a))=step x) (hr:Zl7 c=true:=by kernel_rfl) :
   LoopOK V nt (Zdm ts v a (ZaA step)) c :=
 ZvN (s:=Zdm ts v a (ZaA step)) (fid:=1) (hdOf:=v.enc) (dex:=dex1 a) hG v.law (fun e hd y h=>by
   unfold dex1 at h
   cases he:e.same a.e with
   | false=>rw [he] at h;cases h
   | true =>
     rw [he] at h
     have h:a.v.dec hd=some y:=h
     have he:=Ex.same_eq he
     subst he
     refine ⟨fun hn=>(by rw [hn] at ha;cases ha),?_⟩
     show (a.e,a.v.enc y)=_
     rw [<- a.v.law _ _ h]) (fun _=>rfl) hin hstep hr
theorem Zds {V:Env} {L:Nat->Option LSpec} {nt rounds depth:Nat} {ts:List Nat} {v:Vals} {a b:Way} {step:v.α->Option (v.α⊕(a.v.α⊕b.v.α))} {c:Code}
   (hG:Zai V) (ha:Zti a.e=true) (hb:Zti b.e=true) (hin:∀ c'∈ZaZ c,∀ s,L (ZaH c')=some s->LoopOK V nt s c')
   (hstep:∀ x,evK V L (inlK V rounds depth) 1 nt rounds c (build (ts.zip v.kds) (v.enc x))
     (Zdn (ts.zip v.kds) (fun e=>bif e.same a.e then a.ts.zip a.v.kds else b.ts.zip b.v.kds) v.dec (dex2 a b))=step x) (hr:Zl7 c=true:=by kernel_rfl) :
   LoopOK V nt (Zfq ts v a b (ZaA step)) c :=
 ZvN (s:=Zfq ts v a b (ZaA step)) (fid:=1) (hdOf:=v.enc) (dex:=dex2 a b) hG v.law (fun e hd y h=>by
   unfold dex2 at h
   cases he:e.same a.e with
   | true =>
     rw [he] at h
     simp only [cond_true] at h
     have he:=Ex.same_eq he
     subst he
     split at h
     . rename_i z hz
       obtain rfl:=Option.some.inj h
       refine ⟨fun hn=>(by rw [hn] at ha;cases ha),?_⟩
       show (a.e,a.v.enc z)=_
       rw [<- a.v.law _ _ hz]
     . cases h
   | false =>
     rw [he] at h
     simp only [cond_false] at h
     cases he2:e.same b.e with
     | false=>rw [he2] at h;cases h
     | true =>
       rw [he2] at h
       simp only [cond_true] at h
       have he2:=Ex.same_eq he2
       subst he2
       split at h
       . rename_i z hz
         obtain rfl:=Option.some.inj h
         refine ⟨fun hn=>(by rw [hn] at hb;cases hb),?_⟩
         show (b.e,b.v.enc z)=_
         rw [<- b.v.law _ _ hz]
       . cases h) (fun _=>rfl) hin hstep hr
def ZaL:List (Nat×LSpec)->Nat->Option LSpec
 | [],_=>none
 | p::r,i=>bif Nat.beq p.1 i then some p.2 else ZaL r i
def Zmc (V:Env) (nt:Nat) (f:FuncId) (l:List (Nat×LSpec)):Prop:=∀ p∈l,LoopOK V nt p.2 (Za5 V.P f p.1)
theorem ZaT {V:Env} {nt:Nat} {f:FuncId}:Zmc V nt f []:=fun _ h=>by cases h
theorem ZaD {V:Env} {nt:Nat} {f:FuncId} {i:Nat} {s:LSpec} {l:List (Nat×LSpec)} (h:LoopOK V nt s (Za5 V.P f i)) (k:Zmc V nt f l):Zmc V nt f ((i,s)::l):=by
 intro p hp
 rcases List.mem_cons.1 hp with rfl | hp
 . exact h
 . exact k p hp
theorem ZmU:∀ {l:List (Nat×LSpec)} {i:Nat} {s:LSpec},ZaL l i=some s->(i,s)∈l
 | [],_,_,h=>by cases h
 | p :: r, i, s, h => by
   unfold ZaL at h
   cases hb:Nat.beq p.1 i with
   | true =>
     rw [hb] at h
     have hb:=Nat.eq_of_beq_eq_true hb
     obtain rfl:=Option.some.inj h
     subst hb
     simp
   | false =>
     rw [hb] at h
     exact List.mem_cons_of_mem _ (ZmU h)
theorem Zbi {V:Env} {f:FuncId} {nt:Nat} {l:List (Nat×LSpec)} (ha:Zkp V.P f=true) (hnt:∀ fn,V.P.funcs[f]?=some fn->fn.ntmps=nt) (h:Zmc V nt f l) :
   ∀ fn c,V.P.funcs[f]?=some fn->fn.body=some c->∀ c'∈ZaZ c,∀ s,ZaL l (ZaH c')=some s->LoopOK V fn.ntmps s c' :=
 Zzm ha hnt fun _ _ hs=>h _ (ZmU hs)
theorem ZmR {V:Env} {f:FuncId} {nt i:Nat} {l:List (Nat×LSpec)} (ha:Zkp V.P f=true) (h:Zmc V nt f l) :
   ∀ c'∈ZaZ (Za5 V.P f i),∀ s,ZaL l (ZaH c')=some s->LoopOK V nt s c' :=
 ZzD ha fun _ _ _ hs=>h _ (ZmU hs)
theorem ZaY {V:Env} {nt:Nat} {c:Code}:∀ c'∈ZaZ c,∀ s,ZaL [] (ZaH c')=some s->LoopOK V nt s c':=fun _ _ _ h=>by cases h
def ntB (P:Program) (f:FuncId) (nt:Nat):Bool:=match P.funcs[f]? with | some fn=>Nat.beq fn.ntmps nt | none=>true
theorem Zb1 {P:Program} {f:FuncId} {nt:Nat} (h:ntB P f nt=true):∀ fn,P.funcs[f]?=some fn->fn.ntmps=nt:=by
 intro fn hf
 unfold ntB at h
 rw [hf] at h
 exact Nat.eq_of_beq_eq_true h
theorem Ziv {V:Env} {L:Nat->Option LSpec} {f:FuncId} {rounds depth:Nat} {τ:Ty} {r:ResV} {fn:List τ.den->Option r.α} (hG:Zai V)
   (hL:∀ fn c,V.P.funcs[f]?=some fn->fn.body=some c->∀ c'∈ZaZ c,∀ s,L (ZaH c')=some s->LoopOK V fn.ntmps s c')
   (h1:Zi4 V L rounds depth f r.kds [.emp] r.dec=fn []) (h2:∀ xs,Zi4 V L rounds depth f r.kds [.lstn τ xs] r.dec=fn xs) :
   Zan V.P f (Zao (Zad (Zap τ)) r fn):=by
 intro w0 ok avs args a b hd hb hv
 have hd:=(Zad (Zap τ)).law _ _ hd
 subst hd
 obtain ⟨u,us,hu,h3,h4⟩:=Za6 (show VL (pcx w0 ok) [AV.lst τ a] args.toList from hv)
 have h4:=Zbo h4
 subst h4
 have fin:∀ {avs:List AV},VL (pcx w0 ok) avs args.toList->Zi4 V L rounds depth f r.kds avs r.dec=some b ->
     Calls V.P f args w0 fun e w'=>∃ v,e=.returned v/\Below w0.heap.size w0 w'/\Res w0 ok w' (r.enc b) v:=by
   intro avs hv' hr
   refine (Ztu hG hL hv' hr).mono fun e w' he=>?_
   obtain ⟨v,u,rfl,k1,k2,k3⟩:=he
   rw [r.law _ _ k3] at k2
   exact ⟨u,rfl,k1,k2⟩
 by_cases hn:u=.slice none 0 0
 . have ha:a=[]:=by
     have h3:(pcx w0 ok).DV (.lst τ.sz (a.map τ.enc)) u:=h3
     unfold Cx.DV at h3
     generalize he:D.lst τ.sz (a.map τ.enc)=d at h3
     rw [hn] at h3
     cases h3 with
     | nil sz A c hA =>
       injection he with _ he
       exact List.map_eq_nil_iff.1 he
   subst ha
   exact fin (avs:=[.emp]) (by rw [hu,hn];exact ⟨rfl,trivial⟩) (h1.trans hb)
 . exact fin (avs:=[.lstn τ a]) (by rw [hu];exact ⟨⟨h3,hn⟩,trivial⟩) ((h2 a).trans hb)
end Go.Proofs.Mill
namespace Go.Proofs.Mill
open Go.RowKit
inductive CK where
  | int (k:IntKind)
  | bool
  | str
  | lst (τ:Ty)
  | no
def ckOf:Ty->List CK
 | .int=>[.int .i64]
 | .u8=>[.int .u8]
 | .str=>[.str]
 | .entry=>[.int .i64,.int .i64,.int .i64]
 | .kid=>[.int .i64,.int .i64]
 | .mark=>[.int .i64,.int .i64,.int .i64,.int .i64,.int .i64,.int .i64]
 | .event=>[.int .i64,.int .i64,.int .i64,.int .i64,.int .i64,.int .i64,.bool,.int .i64]
 | .thread=>[.int .i64,.int .i64,.int .i64,.int .i64,.lst .entry,.lst .kid,.lst .int,.int .i64,.int .i64,.int .i64,.int .i64,.int .i64,.int .i64,.int .i64,.int .i64,.int .i64,.int .i64]
 | .sentry=>[.int .i64,.int .i64,.int .i64,.int .i64,.int .i64]
 | .want=>[.int .i64,.int .i64]
 | .client=>[.int .i64,.int .i64,.int .i64,.int .i64,.int .i64,.int .i64,.int .i64]
 | .reply=>[.int .i64,.int .i64,.int .i64]
 | .part=>[.str,.no]
 | .lst t=>[.lst t]
inductive D.Ok:D->Prop
  | int {k:IntKind} {n:Int} (h:(Lit.int k n).wf=true):D.Ok (.int k n)
  | bool (b:Bool):D.Ok (.bool b)
  | str {s:ByteArray} (h:s.size<=maxLen):D.Ok (.str s)
  | lst {sz:Nat} {rows:List (List D)} (h:rows.length<=maxLen) (hr:∀ r∈rows,∀ d∈r,D.Ok d):D.Ok (.lst sz rows)
def Ty.Ok (τ:Ty) (x:τ.den):Prop:=∀ d∈τ.enc x,d.Ok
def Zn1 (c:Cx):CK->Value->Prop
 | .int k,v=>∃ n,v=.int k n/\(Lit.int k n).wf=true
 | .bool,v=>∃ b,v=.bool b
 | .str,v=>∃ s,v=.string s/\s.size<=maxLen
 | .no,_=>False
 | .lst τ,v=>∃ xs:List τ.den,c.DV (.lst τ.sz (xs.map τ.enc)) v/\xs.length<=maxLen/\∀ x∈xs,τ.Ok x
def CellsAre (c:Cx):List CK->List Value->Prop
 | [],[]=>True
 | k::ks,v::vs=>Zn1 c k v/\CellsAre c ks vs
 | _,_=>False
theorem CellsAre.nil {c:Cx} {vs:List Value} (h:CellsAre c [] vs):vs=[]:=by cases vs <;> first | rfl | exact h.elim
theorem CellsAre.cons {c:Cx} {k:CK} {ks:List CK} {vs:List Value} (h:CellsAre c (k::ks) vs):∃ v r,vs=v::r/\Zn1 c k v/\CellsAre c ks r:=by
 cases vs with
 | nil=>exact h.elim
 | cons v r=>exact ⟨v,r,rfl,h.1,h.2⟩
theorem CellsAre.append {c:Cx}:∀ {ks ls:List CK} {vs us:List Value},CellsAre c ks vs->CellsAre c ls us->CellsAre c (ks++ls) (vs++us)
 | [],_,[],_,_,h=>h
 | _::_,_,_::_,_,h,k=>⟨h.1,h.2.append k⟩
theorem CellsAre.split {c:Cx}:∀ {ks ls:List CK} {vs:List Value},CellsAre c (ks++ls) vs->∃ us ws,vs=us++ws/\CellsAre c ks us/\CellsAre c ls ws
 | [],_,vs,h=>⟨[],vs,rfl,trivial,h⟩
 | k :: ks, ls, vs, h => by
   obtain ⟨v,r,rfl,h1,h2⟩:=CellsAre.cons (show CellsAre c (k::(ks++ls)) vs from h)
   obtain ⟨us,ws,rfl,h3,h4⟩:=CellsAre.split h2
   exact ⟨v::us,ws,rfl,⟨h1,h3⟩,h4⟩
theorem ZCv {c:Cx}:∀ (τ:Ty) {cs:List Value},CellsAre c (ckOf τ) cs->∃ x:τ.den,c.DVs (τ.enc x) cs/\τ.Ok x:=by
 have i:∀ {k:IntKind} {n:Int},c.DV (.int k n) (.int k n):=DV.int _ _
 have b:∀ {n:Bool},c.DV (.bool n) (.bool n):=DV.bool _
 have s:∀ {n:ByteArray},c.DV (.str n) (.string n):=DV.str _
 intro τ cs h
 cases τ
 case int =>
   obtain ⟨_,_,rfl,⟨n1,rfl,k1⟩,h1⟩:=h.cons
   obtain rfl:=h1.nil
   exact ⟨(n1:Int),⟨i,trivial⟩,by intro d hd;simp only [Ty.enc,ZnP,List.mem_singleton] at hd;subst hd;exact .int k1⟩
 case u8 =>
   obtain ⟨_,_,rfl,⟨n1,rfl,k1⟩,h1⟩:=h.cons
   obtain rfl:=h1.nil
   exact ⟨(n1:Int),⟨i,trivial⟩,by intro d hd;simp only [Ty.enc,ZwA,List.mem_singleton] at hd;subst hd;exact .int k1⟩
 case str =>
   obtain ⟨_,_,rfl,⟨n1,rfl,k1⟩,h1⟩:=h.cons
   obtain rfl:=h1.nil
   exact ⟨n1,⟨s,trivial⟩,by intro d hd;simp only [Ty.enc,Ztq,List.mem_singleton] at hd;subst hd;exact .str k1⟩
 case lst t =>
   obtain ⟨_,_,rfl,⟨xs,k1,k2,k3⟩,h1⟩:=h.cons
   obtain rfl:=h1.nil
   refine ⟨xs,⟨k1,trivial⟩,?_⟩
   intro d hd
   simp only [Ty.enc,List.mem_singleton] at hd
   subst hd
   refine .lst (by simpa using k2) fun r hr=>?_
   obtain ⟨x,hx,rfl⟩:=List.mem_map.1 hr
   exact k3 x hx
 case thread =>
   obtain ⟨_,_,rfl,⟨n1,rfl,k1⟩,h1⟩:=h.cons
   obtain ⟨_,_,rfl,⟨n2,rfl,k2⟩,h2⟩:=h1.cons
   obtain ⟨_,_,rfl,⟨n3,rfl,k3⟩,h3⟩:=h2.cons
   obtain ⟨_,_,rfl,⟨n4,rfl,k4⟩,h4⟩:=h3.cons
   obtain ⟨_,_,rfl,⟨n5,d5,l5,k5⟩,h5⟩:=h4.cons
   obtain ⟨_,_,rfl,⟨n6,d6,l6,k6⟩,h6⟩:=h5.cons
   obtain ⟨_,_,rfl,⟨n7,d7,l7,k7⟩,h7⟩:=h6.cons
   obtain ⟨_,_,rfl,⟨n8,rfl,k8⟩,h8⟩:=h7.cons
   obtain ⟨_,_,rfl,⟨n9,rfl,k9⟩,h9⟩:=h8.cons
   obtain ⟨_,_,rfl,⟨n10,rfl,k10⟩,h10⟩:=h9.cons
   obtain ⟨_,_,rfl,⟨n11,rfl,k11⟩,h11⟩:=h10.cons
   obtain ⟨_,_,rfl,⟨n12,rfl,k12⟩,h12⟩:=h11.cons
   obtain ⟨_,_,rfl,⟨n13,rfl,k13⟩,h13⟩:=h12.cons
   obtain ⟨_,_,rfl,⟨n14,rfl,k14⟩,h14⟩:=h13.cons
   obtain ⟨_,_,rfl,⟨n15,rfl,k15⟩,h15⟩:=h14.cons
   obtain ⟨_,_,rfl,⟨n16,rfl,k16⟩,h16⟩:=h15.cons
   obtain ⟨_,_,rfl,⟨n17,rfl,k17⟩,h17⟩:=h16.cons
   obtain rfl:=h17.nil
   have key:∀ {t:Ty} {xs:List t.den},xs.length<=maxLen->(∀ x∈xs,t.Ok x)->D.Ok (.lst t.sz (xs.map t.enc)):=fun h1 h2 =>
     .lst (by simpa using h1) fun r hr=>by obtain ⟨x,hx,rfl⟩:=List.mem_map.1 hr;exact h2 x hx
   refine ⟨(⟨n1,n2,⟨n3,n4⟩,n5,n6,n7,n8,n9,n10,n11,n12,n13,n14,n15,n16,n17⟩:Thread),⟨i,i,i,i,d5,d6,d7,i,i,i,i,i,i,i,i,i,i,trivial⟩,?_⟩
   have o5:=key (t:=.entry) l5 k5
   have o6:=key (t:=.kid) l6 k6
   have o7:=key (t:=.int) l7 k7
   intro d hd
   simp only [Ty.enc,Zox,List.mem_cons,List.not_mem_nil,or_false] at hd
   rcases hd with rfl | rfl | rfl | rfl | rfl | rfl | rfl | rfl | rfl | rfl | rfl | rfl | rfl | rfl | rfl | rfl | rfl <;> first | exact .int ‹_› | exact o5 | exact o6 | exact o7
 case entry =>
   obtain ⟨_,_,rfl,⟨n1,rfl,k1⟩,h1⟩:=h.cons
   obtain ⟨_,_,rfl,⟨n2,rfl,k2⟩,h2⟩:=h1.cons
   obtain ⟨_,_,rfl,⟨n3,rfl,k3⟩,h3⟩:=h2.cons
   obtain rfl:=h3.nil
   refine ⟨(⟨n1,⟨n2,n3⟩⟩:Entry),⟨i,i,i,trivial⟩,?_⟩
   intro d hd
   simp only [Ty.enc,ZkS,List.mem_cons,List.not_mem_nil,or_false] at hd
   rcases hd with rfl | rfl | rfl <;> exact .int ‹_›
 case kid =>
   obtain ⟨_,_,rfl,⟨n1,rfl,k1⟩,h1⟩:=h.cons
   obtain ⟨_,_,rfl,⟨n2,rfl,k2⟩,h2⟩:=h1.cons
   obtain rfl:=h2.nil
   refine ⟨(⟨n1,n2⟩:Kid),⟨i,i,trivial⟩,?_⟩
   intro d hd
   simp only [Ty.enc,Zop,List.mem_cons,List.not_mem_nil,or_false] at hd
   rcases hd with rfl | rfl <;> exact .int ‹_›
 case mark =>
   obtain ⟨_,_,rfl,⟨n1,rfl,k1⟩,h1⟩:=h.cons
   obtain ⟨_,_,rfl,⟨n2,rfl,k2⟩,h2⟩:=h1.cons
   obtain ⟨_,_,rfl,⟨n3,rfl,k3⟩,h3⟩:=h2.cons
   obtain ⟨_,_,rfl,⟨n4,rfl,k4⟩,h4⟩:=h3.cons
   obtain ⟨_,_,rfl,⟨n5,rfl,k5⟩,h5⟩:=h4.cons
   obtain ⟨_,_,rfl,⟨n6,rfl,k6⟩,h6⟩:=h5.cons
   obtain rfl:=h6.nil
   refine ⟨(⟨n1,n2,⟨n3,n4⟩,n5,n6⟩:Mark),⟨i,i,i,i,i,i,trivial⟩,?_⟩
   intro d hd
   simp only [Ty.enc,Zro,List.mem_cons,List.not_mem_nil,or_false] at hd
   rcases hd with rfl | rfl | rfl | rfl | rfl | rfl <;> exact .int ‹_›
 case event =>
   obtain ⟨_,_,rfl,⟨n1,rfl,k1⟩,h1⟩:=h.cons
   obtain ⟨_,_,rfl,⟨n2,rfl,k2⟩,h2⟩:=h1.cons
   obtain ⟨_,_,rfl,⟨n3,rfl,k3⟩,h3⟩:=h2.cons
   obtain ⟨_,_,rfl,⟨n4,rfl,k4⟩,h4⟩:=h3.cons
   obtain ⟨_,_,rfl,⟨n5,rfl,k5⟩,h5⟩:=h4.cons
   obtain ⟨_,_,rfl,⟨n6,rfl,k6⟩,h6⟩:=h5.cons
   obtain ⟨_,_,rfl,⟨n7,rfl⟩,h7⟩:=h6.cons
   obtain ⟨_,_,rfl,⟨n8,rfl,k8⟩,h8⟩:=h7.cons
   obtain rfl:=h8.nil
   refine ⟨(⟨n1,n2,n3,⟨n4,n5⟩,n6,n7,n8⟩:Event),⟨i,i,i,i,i,i,b,i,trivial⟩,?_⟩
   intro d hd
   simp only [Ty.enc,ZpL,List.mem_cons,List.not_mem_nil,or_false] at hd
   rcases hd with rfl | rfl | rfl | rfl | rfl | rfl | rfl | rfl <;> first | exact .int ‹_› | exact .bool _
 case sentry =>
   obtain ⟨_,_,rfl,⟨n1,rfl,k1⟩,h1⟩:=h.cons
   obtain ⟨_,_,rfl,⟨n2,rfl,k2⟩,h2⟩:=h1.cons
   obtain ⟨_,_,rfl,⟨n3,rfl,k3⟩,h3⟩:=h2.cons
   obtain ⟨_,_,rfl,⟨n4,rfl,k4⟩,h4⟩:=h3.cons
   obtain ⟨_,_,rfl,⟨n5,rfl,k5⟩,h5⟩:=h4.cons
   obtain rfl:=h5.nil
   refine ⟨(⟨n1,n2,n3,⟨n4,n5⟩⟩:SEntry),⟨i,i,i,i,i,trivial⟩,?_⟩
   intro d hd
   simp only [Ty.enc,Zn4,List.mem_cons,List.not_mem_nil,or_false] at hd
   rcases hd with rfl | rfl | rfl | rfl | rfl <;> exact .int ‹_›
 case want =>
   obtain ⟨_,_,rfl,⟨n1,rfl,k1⟩,h1⟩:=h.cons
   obtain ⟨_,_,rfl,⟨n2,rfl,k2⟩,h2⟩:=h1.cons
   obtain rfl:=h2.nil
   refine ⟨(⟨n1,n2⟩:Want),⟨i,i,trivial⟩,?_⟩
   intro d hd
   simp only [Ty.enc,Zrj,List.mem_cons,List.not_mem_nil,or_false] at hd
   rcases hd with rfl | rfl <;> exact .int ‹_›
 case client =>
   obtain ⟨_,_,rfl,⟨n1,rfl,k1⟩,h1⟩:=h.cons
   obtain ⟨_,_,rfl,⟨n2,rfl,k2⟩,h2⟩:=h1.cons
   obtain ⟨_,_,rfl,⟨n3,rfl,k3⟩,h3⟩:=h2.cons
   obtain ⟨_,_,rfl,⟨n4,rfl,k4⟩,h4⟩:=h3.cons
   obtain ⟨_,_,rfl,⟨n5,rfl,k5⟩,h5⟩:=h4.cons
   obtain ⟨_,_,rfl,⟨n6,rfl,k6⟩,h6⟩:=h5.cons
   obtain ⟨_,_,rfl,⟨n7,rfl,k7⟩,h7⟩:=h6.cons
   obtain rfl:=h7.nil
   refine ⟨(⟨⟨n1,n2,⟨n3,n4⟩,⟨n5,n6⟩⟩,n7⟩:Client),⟨i,i,i,i,i,i,i,trivial⟩,?_⟩
   intro d hd
   simp only [Ty.enc,ZnT,List.mem_cons,List.not_mem_nil,or_false] at hd
   rcases hd with rfl | rfl | rfl | rfl | rfl | rfl | rfl <;> exact .int ‹_›
 case part =>
   obtain ⟨_,_,rfl,_,h1⟩:=h.cons
   obtain ⟨_,_,rfl,h2,_⟩:=h1.cons
   exact h2.elim
 case reply =>
   obtain ⟨_,_,rfl,⟨n1,rfl,k1⟩,h1⟩:=h.cons
   obtain ⟨_,_,rfl,⟨n2,rfl,k2⟩,h2⟩:=h1.cons
   obtain ⟨_,_,rfl,⟨n3,rfl,k3⟩,h3⟩:=h2.cons
   obtain rfl:=h3.nil
   refine ⟨(⟨n1,n2,n3⟩:Reply),⟨i,i,i,trivial⟩,?_⟩
   intro d hd
   simp only [Ty.enc,ZpW,List.mem_cons,List.not_mem_nil,or_false] at hd
   rcases hd with rfl | rfl | rfl <;> exact .int ‹_›
def ZgF (P:Program) (E:TypeId->Option Ty):Nat->TypeId->Option (List CK)
 | 0,_=>none
 | n + 1, t => match P.underlying t with
   | some (.int k)=>some [.int k]
   | some .bool=>some [.bool]
   | some .string=>some [.str]
   | some (.slice e)=>match E e with | some τ=>some [.lst τ] | none=>none
   | some (.struct fs)=>match fs.toList.foldl (fun acc f=>match acc with
       | some l=>bif Nat.beq f.offset l.length then
           (match ZgF P E n f.type with
           | some r=>bif Nat.beq r.length (P.cellsOf f.type) then some (l++r) else none
           | none=>none)
           else none
       | none=>none) (some []) with
     | some l=>bif Nat.beq l.length (P.cellsOf t) then some l else none
     | none=>none
   | _=>none
def ZoU (P:Program) (E:TypeId->Option Ty):Prop:=∀ e τ,E e=some τ->ZgF P E 8 e=some (ckOf τ)/\P.cellsOf e=τ.sz
section
variable {H:Type} {enc:TypeId×Value->H} {P:Program} {E:TypeId->Option Ty} {w:World} {spare:Nat->Bool} {held:Bool}
theorem ZCE {fuel:Nat} {e:TypeId} {τ:Ty} {t:TypeId} {cs:List Value} {x:DataW H×List MemPlace} (hc:P.cellsOf e=τ.sz)
   (ih:∀ n,n<fuel->∀ cs x,DataW.trod enc P w 0 spare held n e cs=some x->∃ y:τ.den,(pcx w fun _=>True).DVs (τ.enc y) cs/\τ.Ok y)
   (ht:P.underlying t=some (.slice e)) (h:DataW.trod enc P w 0 spare held fuel t cs=some x):CellsAre (pcx w fun _=>True) [.lst τ] cs:=by
 rcases DataW.trod_slice ht h with ⟨rfl,_⟩ | ⟨a,len,cap,elems,rest,n,rfl,rfl,_,_,hl,hm,hlen,hel,_,_⟩
 . exact ⟨⟨[],DV.nil _ _ _ (fun _=>rfl),Nat.zero_le _,fun _ h=>by cases h⟩,trivial⟩
 refine ⟨?_,trivial⟩
 cases hz:len with
 | zero=>exact ⟨[],DV.nil _ _ _ (fun h=>by cases h),Nat.zero_le _,fun _ h=>by cases h⟩
 | succ len' =>
   rw [<- hz]
   have hpos:0<len:=by omega
   have hcells:∀ i,i<len->∃ cs',w.cells? 0 (a.add (i*τ.sz)) τ.sz=some cs'/\∃ y:τ.den,(pcx w fun _=>True).DVs (τ.enc y) cs'/\τ.Ok y:=by
     intro i hi
     have h1:=hel i hi
     rw [hc] at h1
     cases hw:w.cells? 0 (a.add (i*τ.sz)) τ.sz with
     | none =>
       rw [hw] at h1
       rw [List.getElem?_eq_getElem (by omega)] at h1
       cases h1
     | some cs' =>
       rw [hw,List.getElem?_eq_getElem (by omega)] at h1
       exact ⟨cs',rfl,ih n (by omega) _ _ h1⟩
   have hcell:∀ i,i<len->∃ cs',(∀ j u,cs'[j]?=some u->w.cell? ((a.add (i*τ.sz)).add j)=some u)/\∃ y:τ.den,(pcx w fun _=>True).DVs (τ.enc y) cs'/\τ.Ok y:=by
     intro i hi
     obtain ⟨cs',h1,y,h2⟩:=hcells i hi
     refine ⟨cs',fun j u hj=>?_,y,h2⟩
     unfold World.cells? at h1
     rw [if_pos (Nat.zero_le _)] at h1
     have hj':j<τ.sz:=by
       have hl:=mapM_some_length h1
       have hj2:=(List.getElem?_eq_some_iff.1 hj).1
       simp at hl
       omega
     have h3:=mapM_some_get h1 j j (by simp [hj'])
     rw [hj] at h3
     exact h3
   have hspot:a.spot=none:=by
     obtain ⟨cs',h1,y,h2,_⟩:=hcell 0 hpos
     have hlen0:cs'.length=τ.sz:=by rw [<- h2.length,τ.enc_length]
     have hs:=τ.sz_pos
     have h3:=h1 0 cs'[0] (List.getElem?_eq_getElem (by omega))
     rw [Nat.zero_mul] at h3
     have e:(a.add 0).add 0=a:=by simp [Addr.add]
     rw [e] at h3
     unfold World.cell? at h3
     split at h3
     . cases hsp:a.spot with
       | none=>rfl
       | some s=>rw [hsp] at h3;simp at h3
     . cases h3
   obtain ⟨blk,off,spot⟩:=a
   simp only at hspot
   subst hspot
   have hadd:∀ i j,((⟨blk,off,none⟩:Addr).add i).add j=⟨blk,off+(i+j),none⟩:=by
     intro i j
     rw [Zd1,Zd1,Nat.add_assoc]
   have hys:∃ ys:List τ.den,ys.length=len/\∀ i (hi:i<ys.length),(∀ j d,(τ.enc ys[i])[j]?=some d->∃ u,w.cell? ⟨blk,off+(i*τ.sz+j),none⟩=some u/\(pcx w fun _=>True).DV d u)/\τ.Ok ys[i]:=by
     have:∀ m,m<=len->∃ ys:List τ.den,ys.length=m/\∀ i (hi:i<ys.length),(∀ j d,(τ.enc ys[i])[j]?=some d->∃ u,w.cell? ⟨blk,off+(i*τ.sz+j),none⟩=some u/\(pcx w fun _=>True).DV d u)/\τ.Ok ys[i]:=by
       intro m
       induction m with
       | zero=>intro _;exact ⟨[],rfl,fun i hi=>by simp at hi⟩
       | succ m ihm =>
         intro hm'
         obtain ⟨ys,hy1,hy2⟩:=ihm (by omega)
         obtain ⟨cs',h1,y,h2,h3⟩:=hcell m (by omega)
         refine ⟨ys++[y],by simp [hy1],fun i hi=>?_⟩
         by_cases hi':i<ys.length
         . have e:(ys++[y])[i]=ys[i]:=List.getElem_append_left hi'
           rw [e]
           exact hy2 i hi'
         . have hi2:i=m:=by simp at hi;omega
           subst hi2
           have e:(ys++[y])[i]=y:=by
             rw [List.getElem_append_right (by omega)]
             simp [hy1]
           rw [e]
           refine ⟨fun j d hd=>?_,h3⟩
           obtain ⟨u,hu1,hu2⟩:=h2.get j d hd
           refine ⟨u,?_,hu2⟩
           have:=h1 j u hu1
           rw [hadd] at this
           exact this
     exact this len (Nat.le_refl _)
   obtain ⟨ys,hy1,hy2⟩:=hys
   refine ⟨ys,?_,by omega,fun x hx=>?_⟩
   . have hget:∀ j d,(ys.map τ.enc).flatten[j]?=some d->∃ u,w.cell? ⟨blk,off+j,none⟩=some u/\(pcx w fun _=>True).DV d u:=by
       intro j d hj
       have hs:=τ.sz_pos
       have hlt:j<ys.length*τ.sz:=by
         have:=(List.getElem?_eq_some_iff.1 hj).1
         rw [Zbn] at this
         exact this
       have hq:j / τ.sz<ys.length:=(Nat.div_lt_iff_lt_mul hs).2 hlt
       have hr:j % τ.sz<τ.sz:=Nat.mod_lt _ hs
       have he:=ZfT τ ys (j / τ.sz) (j % τ.sz) ys[j / τ.sz] (List.getElem?_eq_getElem hq) hr
       have hdm:j / τ.sz*τ.sz+j % τ.sz=j:=by rw [Nat.mul_comm];exact Nat.div_add_mod j τ.sz
       rw [hdm,hj] at he
       obtain ⟨u,hu1,hu2⟩:=(hy2 _ hq).1 _ d he.symm
       rw [hdm] at hu1
       exact ⟨u,hu1,hu2⟩
     have hok:(pcx w fun _=>True).okb blk:=by
       refine ⟨trivial,?_,fun _=>by simp [pcx]⟩
       have hs:=τ.sz_pos
       have h0:0<(ys.map τ.enc).flatten.length:=by rw [Zbn,hy1];exact Nat.mul_pos hpos hs
       obtain ⟨u,hu,_⟩:=hget 0 _ (List.getElem?_eq_getElem h0)
       unfold World.cell? at hu
       split at hu
       . rename_i hh
         exact (Array.getElem?_eq_some_iff.1 hh).1
       . cases hu
     have key:=DV.lst (w:=w) (ok:=(pcx w fun _=>True).okb) τ.sz (ys.map τ.enc) blk off cap (fun j=>(w.cell? ⟨blk,off+j,none⟩).getD undef) (by simp;omega)
       (fun r hr=>by obtain ⟨x,_,rfl⟩:=List.mem_map.1 hr;exact τ.enc_length x)
       (fun j d hj=>by obtain ⟨u,hu,_⟩:=hget j d hj;rw [hu];rfl)
       (fun j d hj=>by obtain ⟨u,hu,hv⟩:=hget j d hj;rw [hu];exact hv) hok
     rw [List.length_map,hy1] at key
     exact key
   . obtain ⟨i,hi,rfl⟩:=List.getElem_of_mem hx
     exact (hy2 i hi).2
theorem ZuN (hE:ZoU P E):∀ (fuel n:Nat) (t:TypeId) (l:List CK) (cs:List Value) (x:DataW H×List MemPlace),ZgF P E n t=some l->DataW.trod enc P w 0 spare held fuel t cs=some x ->
   CellsAre (pcx w fun _=>True) l cs:=by
 intro fuel
 induction fuel using Nat.strongRecOn with
 | _ fuel ihf =>
 intro n
 induction n generalizing fuel with
 | zero=>intro t l cs x h;cases h
 | succ n ihn =>
   intro t l cs x h hx
   simp only [ZgF] at h
   split at h
   . rename_i k hu
     obtain rfl:=Option.some.inj h
     obtain ⟨m,rfl,_,hw⟩:=DataW.trod_int hu hx
     exact ⟨⟨m,rfl,hw⟩,trivial⟩
   . rename_i hu
     obtain rfl:=Option.some.inj h
     obtain ⟨m,rfl,_⟩:=DataW.trod_bool hu hx
     exact ⟨⟨m,rfl⟩,trivial⟩
   . rename_i hu
     obtain rfl:=Option.some.inj h
     obtain ⟨m,rfl,_,hw⟩:=DataW.trod_string hu hx
     exact ⟨⟨m,rfl,hw⟩,trivial⟩
   . rename_i e hu
     split at h
     . rename_i τ he
       obtain rfl:=Option.some.inj h
       obtain ⟨hk,hsz⟩:=hE e τ he
       exact ZCE hsz (fun m hm cs x hx=>ZCv τ (ihf m hm 8 e _ cs x hk hx)) hu hx
     . cases h
   . rename_i fs hu
     split at h
     case h_2=>cases h
     rename_i l1 hl1
     cases hll:Nat.beq l1.length (P.cellsOf t) with
     | false=>rw [hll] at h;cases h
     | true =>
     rw [hll] at h
     obtain rfl:=Option.some.inj h
     have hll:=Nat.eq_of_beq_eq_true hll
     have h:=hl1
     obtain ⟨xs,m,rfl,_,hlen,hxl,hf⟩:=DataW.trod_struct hu hx
     have key:∀ (r pre:List Field) (l0 l:List CK),fs.toList=pre++r->CellsAre (pcx w fun _=>True) l0 (cs.take l0.length) ->
         (r.foldl (fun acc f=>match acc with
           | some l=>bif Nat.beq f.offset l.length then
               (match ZgF P E n f.type with
               | some r=>bif Nat.beq r.length (P.cellsOf f.type) then some (l++r) else none
               | none=>none)
               else none
           | none=>none) (some l0))=some l->CellsAre (pcx w fun _=>True) l (cs.take l.length):=by
       intro r
       induction r with
       | nil =>
         intro pre l0 l _ h0 h
         obtain rfl:=Option.some.inj h
         exact h0
       | cons f r ihr =>
         intro pre l0 l hp h0 h
         simp only [List.foldl_cons] at h
         have hnone:∀ (r:List Field),r.foldl (fun acc f=>match acc with
           | some l=>bif Nat.beq f.offset l.length then
               (match ZgF P E n f.type with
               | some r=>bif Nat.beq r.length (P.cellsOf f.type) then some (l++r) else none
               | none=>none)
               else none
           | none=>none) (none:Option (List CK))=none:=by
           intro r
           induction r with
           | nil=>rfl
           | cons f r ih=>simpa using ih
         cases ho:Nat.beq f.offset l0.length with
         | false=>rw [ho] at h;simp only [cond_false] at h;rw [hnone] at h;cases h
         | true =>
           rw [ho] at h
           simp only [cond_true] at h
           have ho:=Nat.eq_of_beq_eq_true ho
           cases hc:ZgF P E n f.type with
           | none=>rw [hc] at h;simp only at h;rw [hnone] at h;cases h
           | some q =>
             rw [hc] at h
             simp only at h
             cases hb:Nat.beq q.length (P.cellsOf f.type) with
             | false=>rw [hb] at h;simp only [cond_false] at h;rw [hnone] at h;cases h
             | true =>
               rw [hb] at h
               simp only [cond_true] at h
               have hb:=Nat.eq_of_beq_eq_true hb
               have hi:fs[pre.length]?=some f:=by
                 have:fs.toList[pre.length]?=some f:=by rw [hp];simp
                 simpa using this
               have h1:=hf _ f hi
               have hlt:pre.length<xs.length:=by
                 have:=(Array.getElem?_eq_some_iff.1 hi).1
                 omega
               rw [List.getElem?_eq_getElem hlt] at h1
               have h2:=ihn m (fun k hk=>ihf k (by omega)) f.type q _ _ hc h1
               refine ihr (pre++[f]) (l0++q) l (by rw [hp];simp) ?_ h
               rw [ho,<- hb] at h2
               have hsplit:cs.take (l0++q).length=cs.take l0.length++(cs.drop l0.length).take q.length:=by
                 rw [List.length_append,List.take_add]
               rw [hsplit]
               exact h0.append h2
     have h3:=key fs.toList [] [] l1 rfl trivial h
     rw [List.take_of_length_le (by omega)] at h3
     exact h3
   . cases h
def AV.Ok:AV->Prop
 | .int k n=>(Lit.int k n).wf=true
 | .bool _=>True
 | .str s=>s.size<=maxLen
 | .lst τ xs=>xs.length<=maxLen/\∀ x∈xs,τ.Ok x
 | _=>False
def Cel.Opens (c:Cel) (l:List CK):Prop:=∀ (k:Cx) (cs:List Value),CellsAre k l cs->∃ x,VL k (c.enc x) cs/\∀ v∈c.enc x,v.Ok
theorem ZdD (k:IntKind):(Zau k).Opens [.int k]:=by
 intro c cs h
 obtain ⟨_,_,rfl,⟨n,rfl,hn⟩,h1⟩:=h.cons
 obtain rfl:=h1.nil
 exact ⟨n,⟨rfl,trivial⟩,by intro v hv;obtain rfl:=List.mem_singleton.1 hv;exact hn⟩
theorem ZwZ:celBool.Opens [.bool]:=by
 intro c cs h
 obtain ⟨_,_,rfl,⟨n,rfl⟩,h1⟩:=h.cons
 obtain rfl:=h1.nil
 exact ⟨n,⟨rfl,trivial⟩,by intro v hv;obtain rfl:=List.mem_singleton.1 hv;trivial⟩
theorem ZdG {a b:Cel} {l m:List CK} (ha:a.Opens l) (hb:b.Opens m):(Zam a b).Opens (l++m):=by
 intro c cs h
 obtain ⟨us,ws,rfl,h1,h2⟩:=h.split
 obtain ⟨x,x1,x2⟩:=ha c us h1
 obtain ⟨y,y1,y2⟩:=hb c ws h2
 refine ⟨(x,y),x1.append y1,fun v hv=>?_⟩
 rcases List.mem_append.1 hv with hv | hv
 . exact x2 v hv
 . exact y2 v hv
theorem Zz9 {a:Cel} {l:List CK} {X:Type} {f:a.α->X} {g:X->a.α} {h:∀ y,g (f y)=y} (ha:a.Opens l):(Zcx a X f g h).Opens l:=by
 intro c cs hc
 obtain ⟨x,x1,x2⟩:=ha c cs hc
 refine ⟨f x,?_,?_⟩
 . show VL c (a.enc (g (f x))) cs
   rw [h];exact x1
 . show ∀ v∈a.enc (g (f x)),v.Ok
   rw [h];exact x2
def ZAZ (w:World) (v:Val) (u:Value) (x:v.α):Prop:=V (pcx w fun _=>True) (v.enc x) u
def Val.Ok (v:Val) (x:v.α):Prop:=match v.enc x with | .agg cs=>∀ y∈cs,y.Ok | y=>y.Ok
theorem ZCF {c:Cel} {l:List CK} (hE:ZoU P E) {t:TypeId} {u:Value} {d:DataW H} {p:List MemPlace} {base:Nat} {fs:Array Field} (ho:c.Opens l) (hu:P.underlying t=some (.struct fs))
   (hc:ZgF P E 8 t=some l) (hw:Value.okWide P w .any base t u) (h:DataW.Trod enc P w 0 spare held t u d p):∃ x,ZAZ w (Zaq c) u x/\(Zaq c).Ok x:=by
 unfold Value.okWide at hw
 rw [hu] at hw
 obtain ⟨cs,rfl,_⟩:=hw
 obtain ⟨fuel,hf⟩:=h
 obtain ⟨x,h1,h2⟩:=ho _ _ (ZuN hE fuel 8 t l _ _ hc hf)
 exact ⟨x,⟨cs,rfl,h1⟩,h2⟩
theorem Zwj {v:Val} {k:CK} (hE:ZoU P E) {t:TypeId} {u:Value} {d:DataW H} {p:List MemPlace} {base:Nat} (hc:ZgF P E 8 t=some [k])
   (ho:∀ c u,Zn1 c k u->∃ x,V c (v.enc x) u/\v.Ok x) (hns:∀ fs,P.underlying t≠some (.struct fs)) (hna:∀ n e,P.underlying t≠some (.array n e))
   (hw:Value.okWide P w .any base t u) (h:DataW.Trod enc P w 0 spare held t u d p):∃ x,ZAZ w v u x/\v.Ok x:=by
 obtain ⟨fuel,hf⟩:=h
 have h1:=ZuN hE fuel 8 t [k] _ _ hc hf
 obtain ⟨y,r,hy,hk,hr⟩:=h1.cons
 obtain rfl:=hr.nil
 have hu:u=y:=by
   have key:∀ cs:Array Value,u≠.agg cs:=by
     rintro cs rfl
     unfold Value.okWide at hw
     split at hw
     . rename_i fs hu;exact hns fs hu
     . rename_i n e hu;exact hna n e hu
     . unfold Cell.okWide at hw
       split at hw <;> first
         | (rename_i h1 h2;cases h2;done)
         | (rename_i h2;cases h2;done)
         | skip
       unfold Cell.ok at hw
       split at hw <;> first
         | (rename_i h1 h2;cases h2;done)
         | (rename_i h2;cases h2;done)
         | exact hw.elim
   have hc:u.cells=#[u]:=by
     cases u <;> first | rfl | exact (key _ rfl).elim
   rw [hc] at hy
   exact (List.cons.inj hy).1
 subst hu
 exact ho _ _ hk
theorem ZB5:∀ c u,Zn1 c .str u->∃ x,V c (valStr.enc x) u/\valStr.Ok x:=by
 rintro c u ⟨n,rfl,hn⟩
 exact ⟨n,rfl,hn⟩
theorem ZBP (τ:Ty):∀ c u,Zn1 c (.lst τ) u->∃ x,V c ((Zap τ).enc x) u/\(Zap τ).Ok x:=by
 rintro c u ⟨xs,h1,h2,h3⟩
 exact ⟨xs,h1,h2,h3⟩
end
end Go.Proofs.Mill
namespace Go.Proofs.Mill
theorem ZrU (rest:List (List Char)):stripLifts liftWords ("cut".toList::rest)=([],"cut".toList::rest):=by kernel_rfl
theorem Zyh {P:Program} {rest:List (List Char)} (hb:behindMainWord (wordsSigns P.initOrder.toList) = "cut".toList::rest) (h1:P.laysLater=false) (h2:P.bearsReflect=false) (h3:P.doorRows=[]):P.mayEnter=true:=by
 unfold Program.mayEnter
 rw [hb]
 simp only [ZrU,Program.doorFits,h1,h2,h3]
 have e1:("cut".toList == "gc".toList)=false:=by kernel_rfl
 have e2:("cut".toList == "spec".toList)=false:=by kernel_rfl
 have e3:("cut".toList == "carried".toList)=false:=by kernel_rfl
 rw [e1,e2,e3]
 simp
theorem ZAt {P:Program} {rest:List (List Char)} (hb:behindMainWord (wordsSigns P.initOrder.toList) = "cut".toList::rest):P.headLifts=[]:=by
 unfold Program.headLifts
 rw [hb,ZrU]
 simp
theorem Zyj {P:Program} {rest:List (List Char)} (hb:behindMainWord (wordsSigns P.initOrder.toList) = "cut".toList::rest):P.liftsFinal=false:=by
 unfold Program.liftsFinal
 rw [hb,ZAt hb]
 have e3:(("cut".toList::rest).head? == some "carried".toList)=false:=by kernel_rfl
 simp only [e3]
 simp
theorem ZzJ {P:Program} {rest:List (List Char)} (hb:behindMainWord (wordsSigns P.initOrder.toList) = "cut".toList::rest):P.make=some .cut:=by
 unfold Program.make
 rw [hb]
 have e1:("cut".toList == "gc".toList)=false:=by kernel_rfl
 have e2:("cut".toList == "spec".toList)=false:=by kernel_rfl
 simp only [e1,e2,beq_self_eq_true,Bool.false_or,Bool.true_or,if_true]
 simp
theorem ZyC {P:Program} {f:FuncId} {fn:Func} {s:ChangeSpec} {c:OpenClaim} {rest:List (List Char)} (hb:behindMainWord (wordsSigns P.initOrder.toList) = "cut".toList::rest)
   (h1:P.laysLater=false) (h2:P.bearsReflect=false) (h3:P.doorRows=[]) (hl:laidOutB P=true) (hm:mapsRowed P=true) (hs:P.stopsHeard=true) (hp:P.plainKeys=true) (hst:P.stops=[]) (hkn:P.stopKnobs=[])
   (a1:c.wf (OpenSpec.ofChange s)=true) (a2:fn.params.all (P.readableRec ·)=true) (a3:namedTie P c.named s.vars=true) (a4:c.stops=[]) (a5:c.knobs=[])
   (a6:(c.inPlace == P.inPlace f)=true) (a7:(c.unfollowed == P.unfollowed f)=true) (a8:(c.recurses == P.recurses f)=true) (a9:(c.named == P.varsNamed f)=true)
   (a10:((c.maps == (fn.params.toList++s.plain.varTypes P).any (P.mapsRec ·)) && (c.ifaces == (fn.params.toList++s.plain.varTypes P).any (P.ifacesRec ·)) && (c.mapsOut == P.mapsAmong fn.resultTypes.toList))=true)
   (a11:((c.loops == (fn.params.toList++s.plain.varTypes P).any (P.loopsFrom ·)) && (c.wideKeys == (fn.params.toList++s.plain.varTypes P++fn.resultTypes.toList).any (P.wideKeysFrom ·)))=true)
   (a12:(s.vars.all (P.varReadable ·) && fn.resultTypes.all (fun t=>P.readableRec t && decide (t<P.types.size)) && (c.ifacesOut == fn.resultTypes.toList.any (P.ifacesRec ·)) && (c.loopsOut == fn.resultTypes.toList.any (P.loopsFrom ·)))=true)
   (a13:c.plainKeys=true) (a14:c.shortTexts.isNone=true) (a15:c.lifted=false) (a16:c.make=.cut)
   (a17:((c.kinds == (if c.domain.isEmpty then [] else fn.params.toList.map fun t=>match P.underlying t with | some (.int k)=>some k | _=>none)) && (c.pinned == c.pinnedBy))=true)
   (a18:((c.veiled == (fn.params.toList++s.plain.varTypes P++fn.resultTypes.toList).any (P.veiledRec ·)) && c.veiledFits P fn.params.toList (fn.params.toList++s.plain.varTypes P++fn.resultTypes.toList))=true):joinedFacts P f fn s c=true:=by
 have b1:=Zyh hb h1 h2 h3
 have b2:=Zyj hb
 have b3:=ZzJ hb
 simp only [Bool.and_eq_true] at a10 a11 a12 a17 a18
 unfold joinedFacts
 simp only [Bool.and_eq_true]
 rw [a4,a5,hst,hkn,b1,b2,b3,a13,hp,a15,a16]
 exact ⟨⟨⟨⟨⟨⟨⟨⟨⟨⟨⟨⟨⟨⟨⟨⟨⟨⟨⟨⟨⟨⟨⟨⟨⟨⟨⟨⟨⟨⟨⟨a1,hl⟩,hm⟩,a2⟩,a3⟩,by rfl⟩,by rfl⟩,by rfl⟩,by rfl⟩,a6⟩,a7⟩,a8⟩,a9⟩,a10.1.1⟩,a10.1.2⟩,a10.2⟩,a11.1⟩,a11.2⟩,a12.1.1.1⟩,a12.1.1.2⟩,a12.1.2⟩,a12.2⟩,by rfl⟩,a14⟩,hs⟩,rfl⟩,by rfl⟩,by simp⟩,a17.1⟩,a17.2⟩,a18.1⟩,a18.2⟩
end Go.Proofs.Mill
