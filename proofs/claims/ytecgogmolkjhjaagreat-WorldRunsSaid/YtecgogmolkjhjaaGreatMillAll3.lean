/- Parts of the proof: MillExpo, MillNorm, MillFreezeV, MillCode, MillTurn, MillFunc, MillSpec, MillCodec, MillTypes, MillEnv, MillLoop. -/
import Derived.Test.YtecgogmolkjhjaaGreatMillAll2
import Derived.Scope
import Derived.RangeFuncRecord
import Derived.RangeFuncOwn
import Derived.RangeFuncLeaves
import Derived.KernelRfl
set_option linter.all false
noncomputable section
namespace Go.Proofs.Mill
open Go.RowKit
def Zjh (o:AV):Prop:=(∃ e τ,∃ xs:List τ.den,o=.row e τ xs)\/∃ cs,o=.box cs
def Ev (ob ob':List (Nat×AV)):Prop:=∀ i,look ob' i=look ob i\/(Zjh (look ob i)/\look ob' i=.dead)\/∃ e τ,∃ xs:List τ.den,look ob i=.row e τ xs/\look ob' i=.frz τ xs
theorem Ev.refl (ob:List (Nat×AV)):Ev ob ob:=fun _=>.inl rfl
theorem Zfr:¬Zjh .dead:=by rintro (⟨_,_,_,h⟩ | ⟨_,h⟩) <;> cases h
theorem Zlg {τ:Ty} {xs:List τ.den}:¬Zjh (.frz τ xs):=by rintro (⟨_,_,_,h⟩ | ⟨_,h⟩) <;> cases h
theorem Ev.trans {a b c:List (Nat×AV)} (h:Ev a b) (k:Ev b c):Ev a c:=by
 intro i
 rcases h i with h1 | ⟨h1,h2⟩ | ⟨e,τ,xs,h1,h2⟩
 . rw [<- h1];exact k i
 . rcases k i with k1 | ⟨k1,_⟩ | ⟨_,_,_,k1,_⟩
   . exact .inr (.inl ⟨h1,k1.trans h2⟩)
   . rw [h2] at k1;exact (Zfr k1).elim
   . rw [h2] at k1;cases k1
 . rcases k i with k1 | ⟨k1,_⟩ | ⟨_,_,_,k1,_⟩
   . exact .inr (.inr ⟨e,τ,xs,h1,k1.trans h2⟩)
   . rw [h2] at k1;exact (Zlg k1).elim
   . rw [h2] at k1;cases k1
theorem Ev.dead {a b:List (Nat×AV)} (h:Ev a b) {i:Nat} (hd:look a i=.dead):look b i=.dead:=by
 rcases h i with h1 | ⟨h1,_⟩ | ⟨_,_,_,h1,_⟩
 . exact h1.trans hd
 . rw [hd] at h1;exact (Zfr h1).elim
 . rw [hd] at h1;cases h1
theorem Ev.frz {a b:List (Nat×AV)} (h:Ev a b) {i:Nat} {τ:Ty} {xs:List τ.den} (hd:look a i=.frz τ xs):look b i=.frz τ xs:=by
 rcases h i with h1 | ⟨h1,_⟩ | ⟨_,_,_,h1,_⟩
 . exact h1.trans hd
 . rw [hd] at h1;exact (Zlg h1).elim
 . rw [hd] at h1;cases h1
theorem Ev.alive {a b:List (Nat×AV)} (h:Ev a b) {i:Nat} (hd:Zjh (look b i)):look b i=look a i:=by
 rcases h i with h1 | ⟨_,h2⟩ | ⟨_,_,_,_,h2⟩
 . exact h1
 . rw [h2] at hd;exact (Zfr hd).elim
 . rw [h2] at hd;exact (Zlg hd).elim
theorem Ev.kill {ob:List (Nat×AV)} {i:Nat} (h:Zjh (look ob i)):Ev ob ((i,.dead)::ob):=by
 intro j
 by_cases e:i=j
 . subst e;exact .inr (.inl ⟨h,look_eq _ _ _⟩)
 . exact .inl (Za1 _ _ e)
structure Cond (ob ob':List (Nat×AV)) (ws:Wr) (os:List (Option Nat)) (c1 c2:Cx):Prop where
  dv:∀ d v,c1.DV d v->c2.DV d v
  okb:∀ b,c1.okb b->c2.okb b
  world:c2.w=c1.w
  frz:∀ i τ (xs:List τ.den),look ob' i=.frz τ xs->c1.ob i=.frz τ xs
  old:∀ i,look ob' i=.dead->Zjh (look ob i)->c1.ob i=look ob i
  new:∀ q∈ws.zip os,c2.ob q.1.1=q.1.2/\c2.mu q.1.1=q.2.bind c1.mu
structure Moves (cs ys:List AV) (ob ob':List (Nat×AV)) (ws:Wr) (os:List (Option Nat)):Prop where
  ev:Ev ob ob'
  len:os.length=ws.length
  alive:∀ i,some i∈os->Zjh (look ob i)/\look ob' i=.dead
  nodup:(os.filterMap id).Nodup
  rows:∀ p∈ws,Zjh p.2
  sends:∀ c1 c2,Cond ob ob' ws os c1 c2->(∀ us,VL c1 cs us->VL c2 ys us)/\((∀ i,ObjOK c1 i)->∀ p∈ws,ObjOK c2 p.1)
theorem Moves.nil (ob:List (Nat×AV)):Moves [] [] ob ob [] [] :=
 ⟨Ev.refl ob,rfl,fun _ h=>(by cases h),List.nodup_nil,fun _ h=>(by cases h),fun _ _ _=>⟨fun us h=>by rw [ZbO h];trivial,fun _ _ h=>(by cases h)⟩⟩
theorem Cond.left {ob ob1 ob':List (Nat×AV)} {ws1 ws2:Wr} {os1 os2:List (Option Nat)} {c1 c2:Cx} (h1:os1.length=ws1.length) (k:Ev ob1 ob')
   (h:Cond ob ob' (ws1++ws2) (os1++os2) c1 c2):Cond ob ob1 ws1 os1 c1 c2:=by
 refine ⟨h.dv,h.okb,h.world,fun i τ xs hi=>h.frz i τ xs (k.frz hi),fun i hd ha=>h.old i (k.dead hd) ha,fun q hq=>h.new q ?_⟩
 rw [List.zip_append h1.symm]
 exact List.mem_append_left _ hq
theorem Cond.right {ob ob1 ob':List (Nat×AV)} {ws1 ws2:Wr} {os1 os2:List (Option Nat)} {c1 c2:Cx} (h1:os1.length=ws1.length) (k:Ev ob ob1)
   (h:Cond ob ob' (ws1++ws2) (os1++os2) c1 c2):Cond ob1 ob' ws2 os2 c1 c2:=by
 refine ⟨h.dv,h.okb,h.world,h.frz,fun i hd ha=>?_,fun q hq=>h.new q ?_⟩
 . have e:=k.alive ha
   rw [e] at ha ⊢
   exact h.old i hd ha
 . rw [List.zip_append h1.symm]
   exact List.mem_append_right _ hq
theorem Moves.append {cs ys cs' ys':List AV} {ob ob1 ob':List (Nat×AV)} {ws1 ws2:Wr} {os1 os2:List (Option Nat)} (h:Moves cs ys ob ob1 ws1 os1) (k:Moves cs' ys' ob1 ob' ws2 os2) :
   Moves (cs++cs') (ys++ys') ob ob' (ws1++ws2) (os1++os2):=by
 refine ⟨h.ev.trans k.ev,by simp [h.len,k.len],fun i hi=>?_,?_,fun p hp=>?_,fun c1 c2 hc=>?_⟩
 . rcases List.mem_append.1 hi with hi | hi
   . obtain ⟨h1,h2⟩:=h.alive i hi
     exact ⟨h1,k.ev.dead h2⟩
   . obtain ⟨h1,h2⟩:=k.alive i hi
     exact ⟨by rw [<- h.ev.alive h1];exact h1,h2⟩
 . rw [List.filterMap_append,List.nodup_append]
   refine ⟨h.nodup,k.nodup,fun x hx y hy e=>?_⟩
   subst e
   have hx:some x∈os1:=by simpa using hx
   have hy:some x∈os2:=by simpa using hy
   have:=(k.alive x hy).1
   rw [(h.alive x hx).2] at this
   exact Zfr this
 . rcases List.mem_append.1 hp with hp | hp
   . exact h.rows p hp
   . exact k.rows p hp
 . obtain ⟨a1,b1⟩:=h.sends c1 c2 (hc.left h.len k.ev)
   obtain ⟨a2,b2⟩:=k.sends c1 c2 (hc.right h.len h.ev)
   refine ⟨fun us hu=>?_,fun ho p hp=>?_⟩
   . obtain ⟨u1,u2,rfl,h1,h2⟩:=hu.split
     exact (a1 _ h1).append (a2 _ h2)
   . rcases List.mem_append.1 hp with hp | hp
     . exact b1 ho p hp
     . exact b2 ho p hp
theorem Moves.plain {v x:AV} {ob:List (Nat×AV)} (h:∀ c1 c2:Cx,(∀ d v,c1.DV d v->c2.DV d v)->(∀ i τ (xs:List τ.den),look ob i=.frz τ xs->c1.ob i=.frz τ xs)->∀ u,V c1 v u->V c2 x u) :
   Moves [v] [x] ob ob [] [] :=
 ⟨Ev.refl ob,rfl,fun _ h=>(by cases h),List.nodup_nil,fun _ h=>(by cases h),fun c1 c2 hc=>⟨fun us hu=>by
   obtain ⟨u,us',rfl,h1,h2⟩:=Zbk hu
   rw [ZbO h2]
   exact ⟨h c1 c2 hc.dv hc.frz u h1,trivial⟩,fun _ _ h=>(by cases h)⟩⟩
theorem Moves.kept {v:AV} {ob:List (Nat×AV)} (h:∀ c1 c2:Cx,(∀ d v,c1.DV d v->c2.DV d v)->(∀ b,c1.okb b->c2.okb b)->c2.w=c1.w->∀ u,V c1 v u->V c2 v u):Moves [v] [v] ob ob [] [] :=
 ⟨Ev.refl ob,rfl,fun _ h=>(by cases h),List.nodup_nil,fun _ h=>(by cases h),fun c1 c2 hc=>⟨fun us hu=>by
   obtain ⟨u,us',rfl,h1,h2⟩:=Zbk hu
   rw [ZbO h2]
   exact ⟨h c1 c2 hc.dv hc.okb hc.world u h1,trivial⟩,fun _ _ h=>(by cases h)⟩⟩
mutual
theorem ZvU {c1 c2:Cx} (hd:∀ d v,c1.DV d v->c2.DV d v) (hb:∀ b,c1.okb b->c2.okb b/\c2.w.heap[b]?=c1.w.heap[b]?):∀ (v:AV) (u:Value),v.frozen=true->V c1 v u->V c2 v u
 | .int _ _,_,_,h=>h
 | .bool _,_,_,h=>h
 | .str _,_,_,h=>h
 | .lst _ _,_,_,h=>hd _ _ h
 | .emp,_,_,h=>h
 | .cst _,_,_,h=>h
 | .fn _ cs,_,hf,⟨vs,e,h⟩=>⟨vs,e,ZqP hd hb cs vs.toList hf h⟩
 | .cptr cs _,_,hf,⟨b,cur,e,h1,h2,h3,h4⟩=>⟨b,cur,e,h1,(hb b h2).1,((hb b h2).2).trans h3,ZqP hd hb cs cur.toList hf h4⟩
 | .undef,_,hf,_ | .lstn _ _,_,hf,_ | .own _,_,hf,_ | .ownv _ _ _,_,hf,_ | .ptr _ _,_,hf,_ | .eptr _ _ _,_,hf,_ | .lptr _ _ _ _,_,hf,_ | .agg _,_,hf,_ | .tup _,_,hf,_ | .bfn _ _,_,hf,_
 | .ifc _ _,_,hf,_ | .box _,_,hf,_ | .row _ _ _,_,hf,_ | .frz _ _,_,hf,_ | .dead,_,hf,_=>by cases hf
theorem ZqP {c1 c2:Cx} (hd:∀ d v,c1.DV d v->c2.DV d v) (hb:∀ b,c1.okb b->c2.okb b/\c2.w.heap[b]?=c1.w.heap[b]?):∀ (vs:List AV) (us:List Value),AV.frozens vs=true->VL c1 vs us->VL c2 vs us
 | [],[],_,h=>h
 | [],_::_,_,h=>h
 | _::_,[],_,h=>h
 | v :: vs, u :: us, hf, ⟨h1, h2⟩ => by
   simp only [AV.frozens] at hf
   cases hv:v.frozen with
   | false=>rw [hv] at hf;cases hf
   | true =>
     rw [hv] at hf
     exact ⟨ZvU hd hb v u hv h1,ZqP hd hb vs us hf h2⟩
end
theorem ZwE {c1 c2:Cx} (h:∀ d v,c1.DV d v->c2.DV d v):∀ {ds:List D} {vs:List Value},c1.DVs ds vs->c2.DVs ds vs
 | [],[],_=>trivial
 | _::_,_::_,⟨a,b⟩=>⟨h _ _ a,ZwE h b⟩
theorem ZjB {κ:Kd} {v x:AV} {ob ob':List (Nat×AV)} (h:ZfI κ v ob=some (x,ob')) (id:Nat) :
   ∃ os,Moves [v] [(ZbC id x).1] ob ob' (ZbC id x).2.1 os:=by
 unfold ZfI at h
 split at h
 . rename_i e τ
   split at h
   . rename_i i
     split at h
     . rename_i e' ρ xs hl
       split at h
       case h_2=>cases h
       rename_i hh _
       cases hb:Nat.beq e' e with
       | false=>rw [hb] at h;cases h
       | true =>
       rw [hb] at h
       have hb:=Nat.eq_of_beq_eq_true hb
       subst hh hb
       simp only [cond_true,Option.some.injEq,Prod.mk.injEq] at h
       obtain ⟨rfl,rfl⟩:=h
       have ha:Zjh (look ob i):=.inl ⟨_,_,_,hl⟩
       refine ⟨[some i],Ev.kill ha,rfl,fun j hj=>?_,by simp,fun p hp=>?_,fun c1 c2 hc=>?_⟩
       . simp only [List.mem_singleton,Option.some.injEq] at hj
         subst hj
         exact ⟨ha,look_eq _ _ _⟩
       . simp only [ZbC,List.mem_singleton] at hp
         subst hp;exact .inl ⟨_,_,_,rfl⟩
       . have ho:=hc.old i (look_eq _ _ _) ha
         rw [hl] at ho
         obtain ⟨hn1,hn2⟩:=hc.new ((id,.row e' ρ xs),some i) (by simp [ZbC])
         simp only [Option.bind_some] at hn1 hn2
         refine ⟨fun us hu=>?_,fun hob p hp=>?_⟩
         . obtain ⟨u,us',rfl,h1,h2⟩:=Zbk hu
           rw [ZbO h2]
           refine ⟨?_,trivial⟩
           have h1:OwnV c1 i u:=h1
           show OwnV c2 id u
           unfold OwnV at h1 ⊢
           rw [ho] at h1
           rw [hn1]
           simp only at h1 ⊢
           rw [hn2]
           unfold Zhb at h1 ⊢
           rw [hc.world]
           exact h1
         . simp only [ZbC,List.mem_singleton] at hp
           subst hp
           have h1:=hob i
           unfold ObjOK at h1 ⊢
           rw [ho] at h1
           rw [hn1]
           simp only at h1 ⊢
           rw [hn2]
           unfold Zhb at h1 ⊢
           rw [hc.world]
           rcases h1 with h1 | ⟨b,cap,cur,k1,k2,k3,k4,k5⟩
           . exact .inl h1
           . exact .inr ⟨b,cap,cur,k1,k2,k3,k4,ZwE hc.dv k5⟩
     . cases h
   . simp only [Option.some.injEq,Prod.mk.injEq] at h
     obtain ⟨rfl,rfl⟩:=h
     refine ⟨[none],Ev.refl _,rfl,fun j hj=>?_,by simp,fun p hp=>?_,fun c1 c2 hc=>?_⟩
     . simp at hj
     . simp only [ZbC,List.mem_singleton] at hp
       subst hp;exact .inl ⟨_,_,_,rfl⟩
     . obtain ⟨hn1,hn2⟩:=hc.new ((id,.row e τ []),none) (by simp [ZbC])
       simp only [Option.bind_none] at hn1 hn2
       refine ⟨fun us hu=>?_,fun hob p hp=>?_⟩
       . obtain ⟨u,us',rfl,h1,h2⟩:=Zbk hu
         rw [ZbO h2]
         refine ⟨?_,trivial⟩
         simp only [V] at h1
         show OwnV c2 id u
         unfold OwnV
         rw [hn1]
         exact .inl ⟨hn2,rfl,none,h1⟩
       . simp only [ZbC,List.mem_singleton] at hp
         subst hp
         unfold ObjOK
         rw [hn1]
         exact .inl ⟨hn2,rfl⟩
   . cases h
 . rename_i τ
   split at h
   . rename_i i
     split at h
     . rename_i e' ρ xs hl
       split at h
       case h_2=>cases h
       rename_i hh _
       subst hh
       simp only [Option.some.injEq,Prod.mk.injEq] at h
       obtain ⟨rfl,rfl⟩:=h
       have hev:Ev ob ((i,.frz ρ xs)::ob):=by
         intro j
         by_cases e:i=j
         . subst e;exact .inr (.inr ⟨_,_,_,hl,look_eq _ _ _⟩)
         . exact .inl (Za1 _ _ e)
       refine ⟨[],hev,rfl,fun _ h=>(by cases h),List.nodup_nil,fun _ h=>(by cases h),fun c1 c2 hc=>⟨fun us hu=>?_,fun _ _ h=>(by cases h)⟩⟩
       obtain ⟨u,us',rfl,h1,h2⟩:=Zbk hu
       rw [ZbO h2]
       refine ⟨hc.dv _ _ ?_,trivial⟩
       have h1:OwnV c1 i u:=h1
       unfold OwnV at h1
       rw [hc.frz i ρ xs (look_eq _ _ _)] at h1
       exact h1
     . rename_i ρ xs hl
       split at h
       case h_2=>cases h
       rename_i hh _
       subst hh
       simp only [Option.some.injEq,Prod.mk.injEq] at h
       obtain ⟨rfl,rfl⟩:=h
       refine ⟨[],Moves.plain fun c1 c2 hd hf u h1=>hd _ _ ?_⟩
       have h1:OwnV c1 i u:=h1
       unfold OwnV at h1
       rw [hf i ρ xs hl] at h1
       exact h1
     . cases h
   . split at h
     case h_2=>cases h
     rename_i hh _
     subst hh
     simp only [Option.some.injEq,Prod.mk.injEq] at h
     obtain ⟨rfl,rfl⟩:=h
     exact ⟨[],Moves.plain fun c1 c2 hd hf u h1=>hd _ _ h1⟩
   . simp only [Option.some.injEq,Prod.mk.injEq] at h
     obtain ⟨rfl,rfl⟩:=h
     refine ⟨[],Moves.plain fun c1 c2 hd hf u h1=>?_⟩
     simp only [V] at h1
     subst h1
     exact DV.nil _ _ _ (fun _=>rfl)
   . cases h
 . split at h <;> first
     | (cases h;done)
     | (simp only [Option.some.injEq,Prod.mk.injEq] at h
        obtain ⟨rfl,rfl⟩:=h
        exact ⟨[],Moves.plain fun c1 c2 hd hf u h1=>by simpa only [ZbC,V] using h1⟩)
     | (simp only [Option.some.injEq,Prod.mk.injEq] at h
        obtain ⟨rfl,rfl⟩:=h
        refine ⟨[],Moves.plain fun c1 c2 hd hf u h1=>?_⟩
        obtain ⟨vs,e,hv⟩:=h1
        exact ⟨vs,e,by rw [ZbO hv];trivial⟩)
 . rename_i f
   split at h
   . rename_i g
     cases hb:Nat.beq g f with
     | false=>rw [hb] at h;cases h
     | true =>
       rw [hb] at h
       have hb:=Nat.eq_of_beq_eq_true hb
       subst hb
       simp only [cond_true,Option.some.injEq,Prod.mk.injEq] at h
       obtain ⟨rfl,rfl⟩:=h
       refine ⟨[],Moves.plain fun c1 c2 hd hf u h1=>?_⟩
       obtain ⟨vs,e,hv⟩:=h1
       exact ⟨vs,e,by rw [ZbO hv];trivial⟩
   . cases h
 . cases h
 . split at h
   . rename_i f cs
     cases hb:AV.frozens cs with
     | false=>rw [hb] at h;cases h
     | true =>
       rw [hb] at h
       simp only [cond_true,Option.some.injEq,Prod.mk.injEq] at h
       obtain ⟨rfl,rfl⟩:=h
       exact ⟨[],Moves.kept fun c1 c2 hd ho hw u h1=>ZvU hd (fun b h=>⟨ho b h,by rw [hw]⟩) (.fn f cs) u hb h1⟩
   . cases h
 . cases h
 . cases h
theorem ZdO:∀ {ks:List Kd} {vs xs:List AV} {ob ob':List (Nat×AV)},ZcG ks vs ob=some (xs,ob')->∀ id,∃ os,Moves vs (Zb6 id xs).1 ob ob' (Zb6 id xs).2.1 os
 | [], [], xs, ob, ob', h, id => by
   simp only [ZcG,Option.some.injEq,Prod.mk.injEq] at h
   obtain ⟨rfl,rfl⟩:=h
   exact ⟨[],Moves.nil _⟩
 | κ :: ks, v :: vs, xs, ob, ob', h, id => by
   simp only [ZcG] at h
   split at h
   case h_2=>cases h
   rename_i x ob1 h1
   split at h
   case h_2=>cases h
   rename_i xs' ob2 h2
   simp only [Option.some.injEq,Prod.mk.injEq] at h
   obtain ⟨rfl,rfl⟩:=h
   obtain ⟨os1,m1⟩:=ZjB h1 id
   obtain ⟨os2,m2⟩:=ZdO h2 (ZbC id x).2.2
   exact ⟨os1++os2,m1.append m2⟩
 | [],_::_,_,_,_,h,_=>by simp [ZcG] at h
 | _::_,[],_,_,_,h,_=>by simp [ZcG] at h
theorem Moves.agg {cs ys:List AV} {ob ob':List (Nat×AV)} {ws:Wr} {os:List (Option Nat)} (h:Moves cs ys ob ob' ws os):Moves [.agg cs] [.agg ys] ob ob' ws os :=
 ⟨h.ev,h.len,h.alive,h.nodup,h.rows,fun c1 c2 hc=>⟨fun us hu=>by
   obtain ⟨u,us',rfl,h1,h2⟩:=Zbk hu
   rw [ZbO h2]
   obtain ⟨vs,e,hv⟩:=h1
   exact ⟨⟨vs,e,(h.sends c1 c2 hc).1 _ hv⟩,trivial⟩,(h.sends c1 c2 hc).2⟩⟩
theorem Moves.tup {cs ys:List AV} {ob ob':List (Nat×AV)} {ws:Wr} {os:List (Option Nat)} (h:Moves cs ys ob ob' ws os):Moves [.tup cs] [.tup ys] ob ob' ws os :=
 ⟨h.ev,h.len,h.alive,h.nodup,h.rows,fun c1 c2 hc=>⟨fun us hu=>by
   obtain ⟨u,us',rfl,h1,h2⟩:=Zbk hu
   rw [ZbO h2]
   obtain ⟨vs,e,hv⟩:=h1
   exact ⟨⟨vs,e,(h.sends c1 c2 hc).1 _ hv⟩,trivial⟩,(h.sends c1 c2 hc).2⟩⟩
theorem Moves.box {i n:Nat} {cs ys:List AV} {ob ob':List (Nat×AV)} {ws:Wr} {os:List (Option Nat)} (hl:look ob i=.box cs) (h:Moves cs ys ((i,.dead)::ob) ob' ws os) :
   Moves [.ptr i 0] [.ptr n 0] ob ob' ((n,.box ys)::ws) (some i::os):=by
 have ha:Zjh (look ob i):=.inr ⟨_,hl⟩
 have hk:=Ev.kill ha
 have hdead:look ob' i=.dead:=h.ev.dead (look_eq _ _ _)
 refine ⟨hk.trans h.ev,by simp [h.len],fun j hj=>?_,?_,fun p hp=>?_,fun c1 c2 hc=>?_⟩
 . rcases List.mem_cons.1 hj with hj | hj
   . obtain rfl:=Option.some.inj hj
     exact ⟨ha,hdead⟩
   . obtain ⟨h1,h2⟩:=h.alive j hj
     exact ⟨by rw [<- hk.alive h1];exact h1,h2⟩
 . rw [show (some i::os).filterMap id=i::os.filterMap id from rfl,List.nodup_cons]
   refine ⟨fun hm=>?_,h.nodup⟩
   have hm:some i∈os:=by simpa using hm
   have:=(h.alive i hm).1
   rw [look_eq] at this
   exact Zfr this
 . rcases List.mem_cons.1 hp with rfl | hp
   . exact .inr ⟨_,rfl⟩
   . exact h.rows p hp
 . have hc':Cond ((i,.dead)::ob) ob' ws os c1 c2:=hc.right (ws1:=[(n,.box ys)]) (os1:=[some i]) rfl hk
   obtain ⟨a1,b1⟩:=h.sends c1 c2 hc'
   have ho:=hc.old i hdead ha
   rw [hl] at ho
   obtain ⟨hn1,hn2⟩:=hc.new ((n,.box ys),some i) (by simp)
   simp only [Option.bind_some] at hn1 hn2
   refine ⟨fun us hu=>?_,fun hob p hp=>?_⟩
   . obtain ⟨u,us',rfl,h1,h2⟩:=Zbk hu
     rw [ZbO h2]
     refine ⟨?_,trivial⟩
     have h1:PtrV c1 i 0 u:=h1
     show PtrV c2 n 0 u
     unfold PtrV at h1 ⊢
     rw [ho] at h1
     rw [hn1]
     simp only at h1 ⊢
     rw [hn2]
     exact h1
   . rcases List.mem_cons.1 hp with rfl | hp
     . have h1:=hob i
       unfold ObjOK at h1 ⊢
       rw [ho] at h1
       rw [hn1]
       simp only at h1 ⊢
       rw [hn2,hc.world]
       obtain ⟨b,cur,e,k1,k2,k3⟩:=h1
       exact ⟨b,cur,e,k1,k2,a1 _ k3⟩
     . exact b1 hob p hp
end Go.Proofs.Mill
namespace Go.Proofs.Mill
open Go.RowKit
theorem Zkg:∀ (ob:List (Nat×AV)) (i:Nat),look ob i≠.undef->∃ p∈ob,p.1=i
 | [],i,h=>(h rfl).elim
 | (j, o) :: ob, i, h => by
   by_cases e:j=i
   . exact ⟨(j,o),by simp,e⟩
   . rw [Za1 _ _ e] at h
     obtain ⟨p,hp,he⟩:=Zkg ob i h
     exact ⟨p,by simp [hp],he⟩
theorem ZBu {w0 w:World} {ob ob':List (Nat×AV)} {mu:Nat->Option Nat} {ok:Nat->Prop} (hm:Mem w0 (cx w ob mu ok)) (hev:Ev ob ob') :
   ∃ ob1 mu1, Mem w0 (cx w ob1 mu1 ok) /\ Mono (cx w ob mu ok) (cx w ob1 mu1 ok) /\ (∀ i τ (xs : List τ.den), look ob' i = .frz τ xs -> look ob1 i = .frz τ xs) /\
     (∀ i,look ob' i=.dead->look ob1 i=look ob i):=by
 let ws:Wr:=ob'.filterMap fun p=>match look ob p.1,look ob' p.1 with | .row _ _ _,.frz τ xs=>some (p.1,.frz τ xs) | _,_=>none
 have hmem:∀ p∈ws,∃ e τ,∃ xs:List τ.den,look ob p.1=.row e τ xs/\look ob' p.1=.frz τ xs/\p.2=.frz τ xs:=by
   intro p hp
   obtain ⟨q,hq,hqp⟩:=List.mem_filterMap.1 hp
   rcases hev q.1 with h1 | ⟨_,h2⟩ | ⟨e,τ,xs,h1,h2⟩
   . rw [h1] at hqp
     cases hl:look ob q.1 <;> rw [hl] at hqp <;> cases hqp
   . rw [h2] at hqp
     cases hl:look ob q.1 <;> rw [hl] at hqp <;> cases hqp
   . rw [h1,h2] at hqp
     simp only [Option.some.injEq] at hqp
     subst hqp
     exact ⟨e,τ,xs,h1,h2,rfl⟩
 have hfz:Fz ob ws:=fun p hp=>by
   obtain ⟨e,τ,xs,h1,_,h3⟩:=hmem p hp
   exact ⟨e,τ,xs,h1,h3⟩
 obtain ⟨mu1,hm1,hmono,hws,hothers⟩:=Zgz hfz hm
 refine ⟨ZaI ws ob,mu1,hm1,hmono,fun i τ xs hi=>?_,fun i hi=>?_⟩
 . rcases hev i with h1 | ⟨_,h2⟩ | ⟨e,σ,ys,h1,h2⟩
   . by_cases hin:∃ p∈ws,p.1=i
     . obtain ⟨p,hp,rfl⟩:=hin
       obtain ⟨e,σ,ys,k1,k2,k3⟩:=hmem p hp
       rw [h1,k1] at k2
       cases k2
     . rw [(hothers i fun p hp e=>hin ⟨p,hp,e⟩).1,<- h1]
       exact hi
   . rw [hi] at h2;cases h2
   . rw [hi] at h2
     obtain ⟨p,hp,he⟩:=Zkg ob' i (by rw [hi];intro h;cases h)
     have:(i,AV.frz τ xs)∈ws:=by
       refine List.mem_filterMap.2 ⟨p,hp,?_⟩
       rw [he,h1,hi]
     exact hws _ this
 . refine (hothers i fun p hp e=>?_).1
   obtain ⟨_,_,_,_,k2,_⟩:=hmem p hp
   rw [e,hi] at k2
   cases k2
theorem ZwK {ws:Wr} {os:List (Option Nat)} (hn:(ws.map (·.1)).Nodup) (hl:os.length=ws.length) (q:(Nat×AV)×Option Nat) (hq:q∈ws.zip os) :
   (ws.zip os).find? (fun x=>x.1.1 == q.1.1)=some q:=by
 induction ws generalizing os with
 | nil=>simp at hq
 | cons p ws ih =>
   cases os with
   | nil=>simp at hl
   | cons o os =>
     simp only [List.map_cons,List.nodup_cons] at hn
     rw [List.zip_cons_cons] at hq ⊢
     rcases List.mem_cons.1 hq with rfl | hq'
     . simp
     . have hne:p.1≠q.1.1:=by
         intro e
         apply hn.1
         rw [e]
         exact List.mem_map.2 ⟨q.1,(List.of_mem_zip hq').1,rfl⟩
       rw [List.find?_cons_of_neg (by simpa using hne)]
       exact ih hn.2 (by simpa using hl) hq'
theorem Zkx {w0 w:World} {ob ob' ob2:List (Nat×AV)} {mu:Nat->Option Nat} {ok:Nat->Prop} {cs ys:List AV} {ws:Wr} {os:List (Option Nat)}
   (hm:Mem w0 (cx w ob mu ok)) (h:Moves cs ys ob ob' ws os) (hn:(ws.map (·.1)).Nodup) (h2:∀ p∈ws,look ob2 p.1=p.2) (h3:∀ i,(∀ p∈ws,p.1≠i)->look ob2 i=.undef) :
   ∃ mu2,Mem w0 (cx w ob2 mu2 ok)/\(∀ us,VL (cx w ob mu ok) cs us->VL (cx w ob2 mu2 ok) ys us)/\∀ b,(cx w ob mu ok).okb b->(cx w ob2 mu2 ok).okb b:=by
 obtain ⟨ob1,mu1,hm1,hmono,hfrz,hdead⟩:=ZBu hm h.ev
 let mu2:Nat->Option Nat:=fun i=>match (ws.zip os).find? (fun x=>x.1.1 == i) with | some q=>q.2.bind mu1 | none=>none
 have hin:∀ q∈ws.zip os,mu2 q.1.1=q.2.bind mu1:=by
   intro q hq
   show (match (ws.zip os).find? (fun x=>x.1.1 == q.1.1) with | some q=>q.2.bind mu1 | none=>none)=_
   rw [ZwK hn h.len q hq]
 have hof:∀ i b,mu2 i=some b->∃ q∈ws.zip os,q.1.1=i/\∃ j,q.2=some j/\mu1 j=some b:=by
   intro i b hb
   have hb:(match (ws.zip os).find? (fun x=>x.1.1 == i) with | some q=>q.2.bind mu1 | none=>none)=some b:=hb
   cases hf:(ws.zip os).find? (fun x=>x.1.1 == i) with
   | none=>rw [hf] at hb;cases hb
   | some q =>
     rw [hf] at hb
     have hq:=List.mem_of_find?_eq_some hf
     have he:=List.find?_some hf
     cases hq2:q.2 with
     | none=>simp only [hq2,Option.bind_none] at hb;cases hb
     | some j =>
       simp only [hq2,Option.bind_some] at hb
       exact ⟨q,hq,by simpa using he,j,hq2,hb⟩
 have hnone:∀ i,(∀ p∈ws,p.1≠i)->mu2 i=none:=by
   intro i hi
   cases hb:mu2 i with
   | none=>rfl
   | some b =>
     obtain ⟨q,hq,he,_⟩:=hof i b hb
     exact (hi q.1 (List.of_mem_zip hq).1 he).elim
 have hokb:∀ b,(cx w ob1 mu1 ok).okb b->(cx w ob2 mu2 ok).okb b:=by
   intro b hb
   refine ⟨hb.1,hb.2.1,fun i e=>?_⟩
   obtain ⟨_,_,_,j,_,hj⟩:=hof i b e
   exact hb.2.2 j hj
 have hc:Cond ob ob' ws os (cx w ob1 mu1 ok) (cx w ob2 mu2 ok):=by
   refine ⟨fun d v hd=>DV.mono hokb (fun _ _=>rfl) hd,hokb,rfl,fun i τ xs hi=>hfrz i τ xs hi,fun i hd _=>hdead i hd,fun q hq=>⟨h2 q.1 (List.of_mem_zip hq).1,hin q hq⟩⟩
 obtain ⟨s1,s2⟩:=h.sends _ _ hc
 refine ⟨mu2,⟨fun i=>?_,fun i j b hi hj=>?_,fun i b hi=>?_,hm1.ext,hm1.okn_of rfl (Nat.le_refl _) fun b _ h2 i e=>by
   obtain ⟨_,_,_,j,_,hj⟩:=hof i b e
   exact h2 j hj⟩,fun us hu=>s1 us (hmono.vl _ _ hu),fun b hb=>hokb b (hmono.blk b hb).1⟩
 . by_cases hi:∃ p∈ws,p.1=i
   . obtain ⟨p,hp,rfl⟩:=hi
     exact s2 hm1.obj p hp
   . have hi':∀ p∈ws,p.1≠i:=fun p hp e=>hi ⟨p,hp,e⟩
     unfold ObjOK
     rw [show (cx w ob2 mu2 ok).ob i=.undef from h3 i hi']
     exact hnone i hi'
 . obtain ⟨q,hq,rfl,a,ha,hma⟩:=hof i b hi
   obtain ⟨q',hq',rfl,a',ha',hma'⟩:=hof j b hj
   have haa:a=a':=hm1.inj a a' b hma hma'
   subst haa
   have key:∀ {ws:Wr} {os:List (Option Nat)},(os.filterMap id).Nodup->∀ {q q':(Nat×AV)×Option Nat},q∈ws.zip os->q'∈ws.zip os->q.2=some a->q'.2=some a->q.1.1=q'.1.1:=by
     intro ws
     induction ws with
     | nil=>intro os _ q q' hq;simp at hq
     | cons p ws ih =>
       intro os hnd q q' hq hq' h1 h2
       cases os with
       | nil=>simp at hq
       | cons o os =>
         rw [List.zip_cons_cons] at hq hq'
         have tail:(os.filterMap id).Nodup:=by
           cases o with
           | none=>simpa using hnd
           | some o=>simp only [List.filterMap_cons,id_eq,List.nodup_cons] at hnd;exact hnd.2
         have no:o=some a->∀ {x:(Nat×AV)×Option Nat},x∈ws.zip os->x.2=some a->False:=by
           intro ho x hx hxa
           subst ho
           simp only [List.filterMap_cons,id_eq,List.nodup_cons] at hnd
           apply hnd.1
           have:=(List.of_mem_zip hx).2
           rw [hxa] at this
           simpa using this
         rcases List.mem_cons.1 hq with rfl | hq
         . rcases List.mem_cons.1 hq' with rfl | hq'
           . rfl
           . exact (no h1 hq' h2).elim
         . rcases List.mem_cons.1 hq' with rfl | hq'
           . exact (no h2 hq h1).elim
           . exact ih tail hq hq' h1 h2
   exact key h.nodup hq hq' ha ha'
 . obtain ⟨_,_,_,j,_,hj⟩:=hof i b hi
   exact hm1.base j b hj
theorem ZiT:∀ (ob:List (Nat×AV)),ZgN ob=true->(ob.map (·.1)).Nodup
 | [],_=>by simp
 | p :: r, h => by
   unfold ZgN at h
   cases hc:(r.all fun q=>!(Nat.beq p.1 q.1)) with
   | false=>rw [hc] at h;cases h
   | true =>
     rw [hc] at h
     rw [List.map_cons,List.nodup_cons]
     refine ⟨fun hm=>?_,ZiT r h⟩
     obtain ⟨q,hq,he⟩:=List.mem_map.1 hm
     have:=List.all_eq_true.1 hc q hq
     rw [he] at this
     simp at this
theorem ZeL:∀ (ob:List (Nat×AV)),(ob.map (·.1)).Nodup->∀ p∈ob,look ob p.1=p.2
 | [],_,_,h=>by cases h
 | q :: ob, hn, p, h => by
   simp only [List.map_cons,List.nodup_cons] at hn
   rcases List.mem_cons.1 h with rfl | h
   . exact look_eq _ _ _
   . rw [Za1 _ _ (fun e=>hn.1 (by rw [e];exact List.mem_map.2 ⟨p,h,rfl⟩))]
     exact ZeL ob hn.2 p h
theorem ZeO (ob:List (Nat×AV)) (i:Nat) (h:∀ p∈ob,p.1≠i):look ob i=.undef:=by
 apply Classical.byContradiction
 intro hne
 obtain ⟨p,hp,he⟩:=Zkg ob i hne
 exact h p hp he
theorem Zvg {κ:Kd} {v x:AV} {ob ob':List (Nat×AV)} (h:ZfI κ v ob=some (x,ob')) (id:Nat) :
   (Zgc id x).1=(ZbC id x).1/\(Zgc id x).2=(ZbC id x).2.1:=by
 unfold ZfI at h
 repeat' (split at h)
 all_goals first
   | (cases h;done)
   | (simp only [Option.some.injEq,Prod.mk.injEq] at h;obtain ⟨rfl,_⟩:=h;exact ⟨rfl,rfl⟩)
   | (generalize Nat.beq _ _=b at h
      cases b
      . cases h
      . simp only [cond_true,Option.some.injEq,Prod.mk.injEq] at h;obtain ⟨rfl,_⟩:=h;exact ⟨rfl,rfl⟩)
   | (generalize AV.frozens _=b at h
      cases b
      . cases h
      . simp only [cond_true,Option.some.injEq,Prod.mk.injEq] at h;obtain ⟨rfl,_⟩:=h;exact ⟨rfl,rfl⟩)
theorem Zud {κ:Kd} {v x:AV} {ob ob':List (Nat×AV)} (h:ZpN κ v ob=some (x,ob')) (id:Nat) :
   ∃ os,Moves [v] [(Zgc id x).1] ob ob' (Zgc id x).2 os:=by
 unfold ZpN at h
 split at h
 . rename_i ks
   split at h
   . rename_i i
     split at h
     case h_2=>cases h
     rename_i cs hl
     split at h
     case h_2=>cases h
     rename_i xs ob1 hx
     simp only [Option.some.injEq,Prod.mk.injEq] at h
     obtain ⟨rfl,rfl⟩:=h
     obtain ⟨os,m⟩:=ZdO hx (id+1)
     exact ⟨some i::os,m.box hl⟩
   . split at h
     case h_2=>cases h
     rename_i xs ob1 hx
     simp only [Option.some.injEq,Prod.mk.injEq] at h
     obtain ⟨rfl,rfl⟩:=h
     obtain ⟨os,m⟩:=ZdO hx (id+1)
     exact ⟨os,m.agg⟩
   . cases h
 . obtain ⟨os,m⟩:=ZjB h id
   have hx:=Zvg h id
   rw [hx.1,hx.2]
   exact ⟨os,m⟩
end Go.Proofs.Mill
namespace Go.Proofs.Mill
variable {ds:List Deferred}
open Go.RowKit
section
variable {V:Env} {J:Cx->Prop} {w0 w:World} {ok:Nat->Prop} {nt:Nat} {σ:St} {a:Act}
theorem ZBC {ob:List (Nat×AV)} {mu:Nat->Option Nat} {id:Nat} (h:Mem w0 (cx w ob mu ok)) :
   Mem w0 (cx w ((id,.dead)::ob) (upd mu id none) ok)/\Mono (cx w ob mu ok) (cx w ((id,.dead)::ob) (upd mu id none) ok):=by
 have hmu:∀ j b,upd mu id none j=some b->mu j=some b:=by
   intro j b hj
   unfold upd at hj
   split at hj
   . cases hj
   . exact hj
 have hmono:Mono (cx w ob mu ok) (cx w ((id,.dead)::ob) (upd mu id none) ok):=by
   refine Zc0 (fun b hb=>⟨⟨hb.1,hb.2.1,fun j e=>hb.2.2 j (hmu j b e)⟩,rfl⟩) (fun j=>?_) (fun b _ h3=>⟨fun j e=>h3 j (hmu j b e),rfl⟩)
   by_cases e:id=j
   . subst e;exact .inr (.inl (look_eq _ _ _))
   . exact .inr (.inr (.inl ⟨Za1 _ _ e,Zbu _ _ (Ne.symm e),fun _ _=>rfl⟩))
 refine ⟨⟨fun j=>?_,fun i j b hi hj=>h.inj i j b (hmu i b hi) (hmu j b hj),fun i b hi=>h.base i b (hmu i b hi),h.ext,h.okn_of rfl (Nat.le_refl _) fun b _ h2 j e=>h2 j (hmu j b e)⟩,hmono⟩
 by_cases e:id=j
 . subst e
   unfold ObjOK
   rw [show (cx w ((id,.dead)::ob) (upd mu id none) ok).ob id=.dead from look_eq _ _ _]
   exact Zbz _ _ _
 . exact (h.obj j).keep hmono (Za1 _ _ e) (Zbu _ _ (Ne.symm e)) (fun _ _=>rfl)
def Frz (w0 w:World) (ok:Nat->Prop) (ob ob':List (Nat×AV)) (P Q:Cx->Prop):Prop :=
 ∀ mu,Mem w0 (cx w ob mu ok)->P (cx w ob mu ok)->∃ mu',Mem w0 (cx w ob' mu' ok)/\Mono (cx w ob mu ok) (cx w ob' mu' ok)/\Q (cx w ob' mu' ok)
theorem ZfN {g:AV->List (Nat×AV)->Option (AV×List (Nat×AV))}
   (hg:∀ v ob x ob' u,g v ob=some (x,ob')->x.frozen=true/\Frz w0 w ok ob ob' (fun c=>Mill.V c v u) (fun c=>Mill.V c x u)) :
   ∀ (vs:List AV) (ob:List (Nat×AV)) (xs:List AV) (ob':List (Nat×AV)) (us:List Value),Zkc g vs ob=some (xs,ob')->AV.frozens xs=true/\Frz w0 w ok ob ob' (fun c=>VL c vs us) (fun c=>VL c xs us)
 | [], ob, xs, ob', us, h => by
   simp only [Zkc,Option.some.injEq,Prod.mk.injEq] at h
   obtain ⟨rfl,rfl⟩:=h
   exact ⟨rfl,fun mu hm hv=>⟨mu,hm,Mono.refl _,hv⟩⟩
 | v :: vs, ob, xs, ob', us, h => by
   simp only [Zkc] at h
   split at h
   case h_2=>cases h
   rename_i x ob1 h1
   split at h
   case h_2=>cases h
   rename_i ys ob2 h2
   simp only [Option.some.injEq,Prod.mk.injEq] at h
   obtain ⟨rfl,rfl⟩:=h
   cases us with
   | nil =>
     have hx:=(hg v ob x ob1 undef h1).1
     have hys:=(ZfN hg vs ob1 ys ob2 [] h2).1
     refine ⟨by simp only [AV.frozens,hx,cond_true];exact hys,fun mu hm hv=>hv.elim⟩
   | cons u us =>
     obtain ⟨hx,f1⟩:=hg v ob x ob1 u h1
     obtain ⟨hys,f2⟩:=ZfN hg vs ob1 ys ob2 us h2
     refine ⟨by simp only [AV.frozens,hx,cond_true];exact hys,fun mu hm hv=>?_⟩
     obtain ⟨mu1,m1,o1,v1⟩:=f1 mu hm hv.1
     obtain ⟨mu2,m2,o2,v2⟩:=f2 mu1 m1 (o1.vl _ _ hv.2)
     exact ⟨mu2,m2,o1.trans o2,o2.v _ _ v1,v2⟩
theorem ZgV:∀ (d:Nat) (v:AV) (ob:List (Nat×AV)) (x:AV) (ob':List (Nat×AV)) (u:Value),ZjH d v ob=some (x,ob') ->
   x.frozen=true/\Frz w0 w ok ob ob' (fun c=>Mill.V c v u) (fun c=>Mill.V c x u)
 | 0,_,_,_,_,_,h=>by cases h
 | d + 1, v, ob, x, ob', u, h => by
   have same:∀ {y:AV},y.frozen=true->some (y,ob)=some (x,ob')->v=y->x.frozen=true/\Frz w0 w ok ob ob' (fun c=>Mill.V c v u) (fun c=>Mill.V c x u):=by
     intro y hy h e
     simp only [Option.some.injEq,Prod.mk.injEq] at h
     obtain ⟨rfl,rfl⟩:=h
     subst e
     exact ⟨hy,fun mu hm hv=>⟨mu,hm,Mono.refl _,hv⟩⟩
   unfold ZjH at h
   split at h
   . rename_i id off
     split at h
     case h_2=>cases h
     rename_i cs hl
     split at h
     case h_2=>cases h
     rename_i xs ob1 hx
     simp only [Option.some.injEq,Prod.mk.injEq] at h
     obtain ⟨rfl,rfl⟩:=h
     refine ⟨(ZfN (w0:=w0) (w:=w) (ok:=ok) (ZgV d) cs _ xs ob1 [] hx).1,fun mu hm hv=>?_⟩
     have hob:=hm.obj id
     unfold ObjOK at hob
     have hv:PtrV (cx w ob mu ok) id off u:=hv
     unfold PtrV at hv
     rw [show (cx w ob mu ok).ob id=.box cs from hl] at hob hv
     obtain ⟨b,cur,e,h1,h2,h3⟩:=hob
     obtain ⟨b',h1',rfl⟩:=hv
     rw [h1] at h1'
     obtain rfl:=Option.some.inj h1'
     obtain ⟨m1,o1⟩:=ZBC (id:=id) hm
     obtain ⟨mu2,m2,o2,v2⟩:=(ZfN (w0:=w0) (w:=w) (ok:=ok) (ZgV d) cs _ xs ob1 cur.toList hx).2 _ m1 (o1.vl _ _ h3)
     have hob1:(cx w ((id,.dead)::ob) (upd mu id none) ok).okb b:=by
       refine ⟨hm.own_ok h1,hm.lt h1,fun j e=>?_⟩
       have e:upd mu id none j=some b:=e
       by_cases hj:j=id
       . subst hj
         rw [Zbz] at e
         cases e
       . rw [Zbu _ _ hj] at e
         exact hj (hm.inj j id b e h1)
     exact ⟨mu2,m2,o1.trans o2,b,cur,e,rfl,(o2.blk b hob1).1,h2,v2⟩
   . rename_i f cs
     split at h
     case h_2=>cases h
     rename_i xs ob1 hx
     simp only [Option.some.injEq,Prod.mk.injEq] at h
     obtain ⟨rfl,rfl⟩:=h
     refine ⟨(ZfN (w0:=w0) (w:=w) (ok:=ok) (ZgV d) cs _ xs ob1 [] hx).1,fun mu hm hv=>?_⟩
     obtain ⟨vs,rfl,hv⟩:=hv
     obtain ⟨mu2,m2,o2,v2⟩:=(ZfN (w0:=w0) (w:=w) (ok:=ok) (ZgV d) cs _ xs ob1 vs.toList hx).2 _ hm hv
     exact ⟨mu2,m2,o2,vs,rfl,v2⟩
   . rename_i id
     split at h
     . rename_i e τ xs hl
       simp only [Option.some.injEq,Prod.mk.injEq] at h
       obtain ⟨rfl,rfl⟩:=h
       refine ⟨rfl,fun mu hm hv=>?_⟩
       obtain ⟨mu1,m1,o1,hws,_⟩:=Zgz (ws:=[(id,.frz τ xs)]) (fun p hp=>by
         simp only [List.mem_singleton] at hp
         subst hp
         exact ⟨e,τ,xs,hl,rfl⟩) hm
       refine ⟨mu1,m1,o1,?_⟩
       have:=o1.own id u hv
       unfold OwnV at this
       rw [show (cx w (ZaI [(id,AV.frz τ xs)] ob) mu1 ok).ob id=.frz τ xs from look_eq _ _ _] at this
       exact this
     . rename_i τ xs hl
       simp only [Option.some.injEq,Prod.mk.injEq] at h
       obtain ⟨rfl,rfl⟩:=h
       refine ⟨rfl,fun mu hm hv=>⟨mu,hm,Mono.refl _,?_⟩⟩
       have hv:OwnV (cx w ob mu ok) id u:=hv
       unfold OwnV at hv
       rw [show (cx w ob mu ok).ob id=.frz τ xs from hl] at hv
       exact hv
     . cases h
   . exact same rfl h rfl
   . exact same rfl h rfl
   . exact same rfl h rfl
   . exact same rfl h rfl
   . exact same rfl h rfl
   . rename_i cs off
     cases hf:AV.frozens cs with
     | false=>rw [hf] at h;cases h
     | true=>rw [hf] at h;exact same (y:=.cptr cs off) (by simp only [AV.frozen];exact hf) h rfl
   . cases h
theorem ZyC {gt d:Nat} {gv:AV} {ob':List (Nat×AV)} (hh:Holds J w0 ok nt ds σ a w) (h:ZjH d (look σ.tm gt) σ.ob=some (gv,ob')):Holds T w0 ok nt ds ⟨(gt,gv)::σ.tm,ob'⟩ a w:=by
 obtain ⟨mu,hr,_⟩:=hh
 have hgt:gt<nt:=by
   apply Classical.byContradiction
   intro hn
   rw [hr.far gt (by omega)] at h
   cases d <;> cases h
 obtain ⟨mu',m',o',v'⟩:=(ZgV d _ _ _ _ (a.tmps.getD gt undef) h).2 mu hr.mem (hr.tm gt hgt)
 refine ⟨mu',⟨m',fun t ht=>?_,fun t ht=>?_,hr.size,hr.defers,o'.marks hr.marks⟩,trivial⟩
 . show Mill.V _ (look ((gt,gv)::σ.tm) t) _
   by_cases e:gt=t
   . subst e;rw [look_eq];exact v'
   . rw [Za1 _ _ e];exact o'.v _ _ (hr.tm t ht)
 . show look ((gt,gv)::σ.tm) t=.undef
   rw [Za1 _ _ (by omega)]
   exact hr.far t ht
end
end Go.Proofs.Mill
namespace Go.Proofs.Mill
variable {ds:List Deferred}
open Go.RowKit
def Ex.to:Ex->Exit
 | .normal=>.normal
 | .exit id=>.exit id
 | .goto l=>.goto l
 | .ret=>.ret
section
variable {P:Program} {Q:Exit->Act->World->Prop} {a:Act} {w:World} {ro:Option Nat}
theorem Zc5 {b:Frame} {k:List Item} {cs:List Frame} {c:Code}:step P (lone (b.atR a (.code (.scope c)::k)) cs w)=.next (lone (b.atR a (.code c::.inScope c::k)) cs w) :=
 step_lone_go (by simp [stepG,stepG.exec,Frame.atR])
theorem ZpX {b:Frame} {k:List Item} {cs:List Frame} {c:Code}:step P (lone (b.atR a (.inScope c::k)) cs w)=.next (lone (b.atR a k) cs w) :=
 step_lone_go (by simp [stepG,stepG.exec,Frame.atR])
theorem Zts {c:Code} (h:c.wpIn (Zbf ro) 0 P (fun e a w=>match e with | .goto l=>∃ rest,findLabel c l=some rest/\rest.wpIn (Zbf ro) 0 P (Exit.noGoto Q) a w | e=>Q e a w) a w):(Code.scope c).wpIn (Zbf ro) 0 P Q a w:=by
 intro b k cs hro hb hr
 have h0:(lone (b.atR a (.code (.scope c)::k)) cs w).fenced P (Zbf ro):=fenced_calm hb hr rfl
 obtain ⟨e,a₁,w₁,hq,harr⟩:=h b (.inScope c::k) cs hro hb hr
 cases e with
 | normal=>exact ⟨.normal,a₁,w₁,hq,.head h0 Zc5 (StepsIn.trans harr (.one (fenced_calm hb hr rfl) ZpX))⟩
 | exit id=>exact ⟨.exit id,a₁,w₁,hq,.of_steps (.one h0 Zc5) ⟨fun k' hk=>harr.1 k' (by simp [exitTo,hk]),fun hr hk=>harr.2 hr (by simp [exitTo,hk])⟩⟩
 | goto l =>
   obtain ⟨rest,hf,hrest⟩:=hq
   have hg:gotoIn l (.inScope c::k)=some (.code rest::.inScope c::k):=by simp [gotoIn,hf]
   have hto:=harr.1 _ hg
   obtain ⟨e₂,a₂,w₂,hq₂,harr₂⟩:=hrest b (.inScope c::k) cs hro hb hr
   cases e₂ with
   | normal=>exact ⟨.normal,a₂,w₂,hq₂,.head h0 Zc5 (StepsIn.trans hto (StepsIn.trans harr₂ (.one (fenced_calm hb hr rfl) ZpX)))⟩
   | exit id=>exact ⟨.exit id,a₂,w₂,hq₂,.of_steps (.head h0 Zc5 hto) ⟨fun k' hk=>harr₂.1 k' (by simp [exitTo,hk]),fun hr hk=>harr₂.2 hr (by simp [exitTo,hk])⟩⟩
   | goto l=>exact hq₂.elim
   | ret=>exact ⟨_,a₂,w₂,hq₂,.of_steps (.head h0 Zc5 hto) harr₂⟩
   | panic ch=>exact ⟨_,a₂,w₂,hq₂,.of_steps (.head h0 Zc5 hto) harr₂⟩
   | outgrown=>exact ⟨_,a₂,w₂,hq₂,.of_steps (.head h0 Zc5 hto) harr₂⟩
 | ret=>exact ⟨_,a₁,w₁,hq,.of_steps (.one h0 Zc5) harr⟩
 | panic ch=>exact ⟨_,a₁,w₁,hq,.of_steps (.one h0 Zc5) harr⟩
 | outgrown=>exact ⟨_,a₁,w₁,hq,.of_steps (.one h0 Zc5) harr⟩
def Zfn (ro:Option Nat) (P:Program) (c:Code) (Q:Exit->Act->World->Prop) (a:Act) (w:World):Prop :=
 ∀ (b:Frame) (k:List Item) (cs:List Frame),b.roundOf=ro->∃ e a' w',Q e a' w'/\ArrivesIn (Machine.fenced P (Zbf ro)) P (lone (b.atR a (.code c::.inLoop c::k)) cs w) b k cs e a' w'
theorem Zyx {n:Nat}:(Zbf ro).room n:=fun _ h=>by simp [Fence.wide] at h
theorem ZiS {c:Code} (h:Zfn ro P c Q a w):(Code.loop c).wpIn (Zbf ro) 0 P Q a w :=
 fun b k cs hro hb hr=>let ⟨e,a',w',hq,harr⟩:=h b k cs hro;⟨e,a',w',hq,.of_steps (.one (fenced_calm hb hr rfl) stepR_loop) harr⟩
theorem ZdA {c:Code} (h:c.wpIn (Zbf ro) 0 P (Exit.then (Zfn ro P c Q) Q) a w):Zfn ro P c Q a w:=by
 intro b k cs hro
 have hb:(Zbf ro).fn b.fn:=trivial
 have hr:(Zbf ro).room (cs.length+1+0):=Zyx
 obtain ⟨e,a₁,w₁,hq,harr⟩:=h b (.inLoop c::k) cs hro hb hr
 cases e with
 | normal =>
   obtain ⟨e₂,a₂,w₂,hq₂,harr₂⟩:=hq b k cs hro
   exact ⟨e₂,a₂,w₂,hq₂,.of_steps (StepsIn.trans harr (.one (fenced_calm hb hr rfl) stepR_inLoop)) harr₂⟩
 | exit id=>exact ⟨_,a₁,w₁,hq,.pass (x:=.inLoop c) rfl (fun _ _=>.inl (by simp)) harr⟩
 | goto l=>exact ⟨_,a₁,w₁,hq,.pass (x:=.inLoop c) rfl (fun _ _=>.inl (by simp)) harr⟩
 | ret=>exact ⟨_,a₁,w₁,hq,.pass (x:=.inLoop c) rfl (fun _ _=>.inl (by simp)) harr⟩
 | panic ch=>exact ⟨_,a₁,w₁,hq,.pass (x:=.inLoop c) rfl (fun _ _=>.inl (by simp)) harr⟩
 | outgrown=>exact ⟨_,a₁,w₁,hq,.pass (x:=.inLoop c) rfl (fun _ _=>.inl (by simp)) harr⟩
theorem Zoi {c:Code} {Q':Exit->Act->World->Prop} (h:Zfn ro P c Q a w) (hq:∀ e a w,Q e a w->Q' e a w):Zfn ro P c Q' a w :=
 fun b k cs hro=>let ⟨e,a',w',q,r⟩:=h b k cs hro;⟨e,a',w',hq _ _ _ q,r⟩
end
def Za9:Code->List Code
 | .seq a b=>Za9 a++Za9 b
 | .cond _ a b=>Za9 a++Za9 b
 | .block _ c=>Za9 c
 | .loop c=>c::Za9 c
 | .scope c=>Za9 c
 | .rangeFunc g ps x y=>[.rangeFunc g ps x y]
 | _=>[]
def Zd7 (Δ:List Deferred->Prop) (J:Cx->Prop) (w0:World) (ok:Nat->Prop) (nt:Nat) (σ:St) (a:Act) (w:World):Prop:=∃ ds,Δ ds/\Holds J w0 ok nt ds σ a w
def anyD:List Deferred->Prop:=fun _=>True
def Zub (V:Env) (nt:Nat) (s:LSpec) (c:Code):Prop :=
 ∀ (ro : Option Nat) (w0 : World) (ok : Nat -> Prop) (hd : List AV) (x : s.σ) (y : s.ρ) (a : Act) (w : World), s.dec hd = some x -> s.run x = some y -> Zd7 anyD T w0 ok nt (build s.keep hd) a w ->
   Zfn ro V.P c (fun e a' w'=>e=(s.enc y).1.to/\Zd7 anyD T w0 ok nt (build (s.keepX (s.enc y).1) (s.enc y).2) a' w') a w
def Zx8 (V:Env) (nt:Nat) (s:LSpec) (c:Code):Prop :=
 ∀ (w0 : World) (ok : Nat -> Prop) (hd : List AV) (x : s.σ) (y : s.ρ) (a : Act) (w : World), s.dec hd = some x -> s.run x = some y -> Zd7 anyD T w0 ok nt (build s.keep hd) a w ->
   c.wpIn (Zbf none) 0 V.P (fun e a' w'=>e=(s.enc y).1.to/\Zd7 anyD T w0 ok nt (build (s.keepX (s.enc y).1) (s.enc y).2) a' w') a w
def LoopOK (V:Env) (nt:Nat) (s:LSpec) (c:Code):Prop:=match ZdK c with | true=>Zx8 V nt s c | false=>Zub V nt s c
theorem LoopOK.loop {V:Env} {nt:Nat} {s:LSpec} {c:Code} (h:LoopOK V nt s c) (hr:ZdK c=false):Zub V nt s c:=by
 unfold LoopOK at h;rw [hr] at h;exact h
theorem LoopOK.of0 {V:Env} {nt:Nat} {s:LSpec} {c:Code} (hr:ZdK c=false) (h:Zub V nt s c):LoopOK V nt s c:=by
 unfold LoopOK;rw [hr];exact h
theorem Zso {c:Cx} (f:Nat->Value):∀ (L:List (Nat×AV)),VL c (L.map (·.2)) ((L.map (·.1)).map f)->∀ t,V c (look L t) (f t)
 | [],_,_=>trivial
 | (i, x) :: L, h, t => by
   by_cases e:i=t
   . subst e;rw [look_eq];exact h.1
   . rw [Za1 _ _ e];exact Zso f L h.2 t
theorem ZtN (κ:Kd) (ob:List (Nat×AV)):ZpN κ .undef ob=none:=by
 cases κ <;> rfl
theorem Zi6:∀ {ks:List (Nat×Kd)} {tm:List (Nat×AV)} {ob ob':List (Nat×AV)} {xs:List AV},Ze2 ks tm ob=some (xs,ob') ->
   ∃ os,Moves (ks.map fun p=>look tm p.1) ((build ks xs).tm.map (·.2)) ob ob' (build ks xs).ob os/\(build ks xs).tm.map (·.1)=ks.map (·.1)/\∀ p∈ks,look tm p.1≠.undef
 | [], tm, ob, ob', xs, h => by
   simp only [Ze2,Option.some.injEq,Prod.mk.injEq] at h
   obtain ⟨rfl,rfl⟩:=h
   exact ⟨[],Moves.nil _,rfl,fun _ h=>(by cases h)⟩
 | (t, κ) :: ks, tm, ob, ob', xs, h => by
   simp only [Ze2] at h
   split at h
   case h_2=>cases h
   rename_i x ob1 h1
   split at h
   case h_2=>cases h
   rename_i xs' ob2 h2
   simp only [Option.some.injEq,Prod.mk.injEq] at h
   obtain ⟨rfl,rfl⟩:=h
   obtain ⟨os1,m1⟩:=Zud h1 ((1024+t)*64)
   obtain ⟨os2,m2,e2,n2⟩:=Zi6 h2
   refine ⟨os1++os2,m1.append m2,?_,fun p hp=>?_⟩
   . show t::(build ks xs').tm.map (·.1)=t::ks.map (·.1)
     rw [e2]
   . rcases List.mem_cons.1 hp with rfl | hp
     . intro hu
       simp only at hu
       rw [hu,ZtN] at h1
       cases h1
     . exact n2 p hp
section
variable {V:Env} {J:Cx->Prop} {w0 w:World} {ok:Nat->Prop} {nt fid rounds:Nat} {σ τ:St} {a:Act}
def Zg5 (ks:List (Nat×Kd)) (σ:St):Option (List AV) := match Ze2 ks σ.tm σ.ob with
 | some (xs,_)=>bif ZgN (build ks xs).ob then some xs else none
 | none=>none
theorem ZpZ:∀ {ks:List (Nat×Kd)} {tm ob:List (Nat×AV)} {xs:List AV} {ob':List (Nat×AV)},Ze2 ks tm ob=some (xs,ob')->xs.length=ks.length
 | [],_,_,_,_,h=>by simp [Ze2] at h;simp [h.1]
 | (t, κ) :: ks, tm, ob, xs, ob', h => by
   unfold Ze2 at h
   split at h
   case h_2=>cases h
   rename_i x ob1 hx
   split at h
   case h_2=>cases h
   rename_i xs' ob2 hxs
   simp only [Option.some.injEq,Prod.mk.injEq] at h
   obtain ⟨rfl,rfl⟩:=h
   simp [ZpZ hxs]
theorem Zoj:∀ (ks:List (Nat×Kd)) (xs:List AV),xs.length=(noAl ks).length ->
   (build ks (ZeU ks xs)).ob=(build (noAl ks) xs).ob /\
   ∀ t,look (build ks (ZeU ks xs)).tm t=look (build (noAl ks) xs).tm t\/∃ j off,(t,Kd.al j off)∈ks/\look (build ks (ZeU ks xs)).tm t=Zre j off
 | [],xs,_=>by simp [ZeU,noAl,build]
 | (s, κ) :: ks, xs, hl => by
   cases hκ:κ.isAl with
   | true =>
     cases κ <;> try (cases hκ;done)
     rename_i j off
     have e:noAl ((s,Kd.al j off)::ks)=noAl ks:=by simp [noAl,Kd.isAl]
     rw [e] at hl ⊢
     obtain ⟨h1,h2⟩:=Zoj ks xs hl
     have hb:build ((s,Kd.al j off)::ks) (ZeU ((s,Kd.al j off)::ks) xs)=⟨(s,Zre j off)::(build ks (ZeU ks xs)).tm,(build ks (ZeU ks xs)).ob⟩:=rfl
     rw [hb]
     refine ⟨h1,fun t=>?_⟩
     by_cases est:s=t
     . subst est
       exact .inr ⟨j,off,by simp,look_eq _ _ _⟩
     . rcases h2 t with h | ⟨j',off',hm,h⟩
       . refine .inl ?_
         show look ((s,Zre j off)::(build ks (ZeU ks xs)).tm) t=_
         rw [Za1 _ _ est];exact h
       . refine .inr ⟨j',off',List.mem_cons_of_mem _ hm,?_⟩
         show look ((s,Zre j off)::(build ks (ZeU ks xs)).tm) t=_
         rw [Za1 _ _ est];exact h
   | false =>
     have e:noAl ((s,κ)::ks)=(s,κ)::noAl ks:=by simp [noAl,hκ]
     rw [e] at hl ⊢
     cases xs with
     | nil=>simp at hl
     | cons x xs =>
       obtain ⟨h1,h2⟩:=Zoj ks xs (by simpa using hl)
       have hw:ZeU ((s,κ)::ks) (x::xs)=x::ZeU ks xs:=by cases κ <;> first | rfl | cases hκ
       rw [hw]
       have hb1:build ((s,κ)::ks) (x::ZeU ks xs)=⟨(s,(Zgc ((1024+s)*64) x).1)::(build ks (ZeU ks xs)).tm,(Zgc ((1024+s)*64) x).2++(build ks (ZeU ks xs)).ob⟩:=rfl
       have hb2:build ((s,κ)::noAl ks) (x::xs)=⟨(s,(Zgc ((1024+s)*64) x).1)::(build (noAl ks) xs).tm,(Zgc ((1024+s)*64) x).2++(build (noAl ks) xs).ob⟩:=rfl
       rw [hb1,hb2]
       refine ⟨by simp only [h1],fun t=>?_⟩
       by_cases est:s=t
       . subst est
         exact .inl (by simp only [look_eq])
       . simp only
         rw [Za1 _ _ est,Za1 _ _ est]
         rcases h2 t with h | ⟨j',off',hm,h⟩
         . exact .inl h
         . exact .inr ⟨j',off',List.mem_cons_of_mem _ hm,h⟩
theorem Zr2 {v:AV} (h:Zvp v=true):∃ cs,v=.box cs:=by
 cases v <;> first | exact ⟨_,rfl⟩ | cases h
theorem ZEE {σ τ:St} {t j off:Nat} (h:alOk σ τ t j off=true) :
   ∃ id cs cs',look σ.tm t=.ptr id off/\look σ.tm j=.ptr id 0/\look τ.tm j=.ptr ((1024+j)*64) 0/\look σ.ob id=.box cs/\look τ.ob ((1024+j)*64)=.box cs':=by
 unfold alOk at h
 split at h
 . rename_i a o b c e1 e2 e3
   simp only [Bool.and_eq_true] at h
   obtain ⟨⟨⟨q1,q2⟩,q3⟩,o1,o2⟩:=h
   have q1:=Nat.eq_of_beq_eq_true q1
   have q2:=Nat.eq_of_beq_eq_true q2
   have q3:=Nat.eq_of_beq_eq_true q3
   subst q1 q2 q3
   obtain ⟨cs,o1⟩:=Zr2 o1
   obtain ⟨cs',o2⟩:=Zr2 o2
   exact ⟨a,cs,cs',e1,e2,e3,o1,o2⟩
 . cases h
theorem Zv7 {σ τ:St}:∀ {ks:List (Nat×Kd)},ZlJ σ τ ks=true->∀ t j off,(t,Kd.al j off)∈ks->alOk σ τ t j off=true
 | [],_,_,_,_,h=>by cases h
 | (s, κ) :: ks, h, t, j, off, hm => by
   have tail:ZlJ σ τ ks=true:=by
     cases κ <;> try exact h
     rename_i j' off'
     cases hb:alOk σ τ s j' off' with
     | true=>simpa only [ZlJ,hb,cond_true] using h
     | false=>simp only [ZlJ,hb,cond_false] at h;cases h
   rcases List.mem_cons.1 hm with e | hm
   . simp only [Prod.mk.injEq] at e
     obtain ⟨rfl,rfl⟩:=e
     cases hb:alOk σ τ t j off with
     | true=>rfl
     | false=>simp only [ZlJ,hb,cond_false] at h;cases h
   . exact Zv7 tail t j off hm
theorem Zsg {ks:List (Nat×Kd)} {hd:List AV} (hJB:∀ c c':Cx,(∀ b,c.okb b->c'.okb b)->c'.w=c.w->J c->J c') (hh:Holds J w0 ok nt ds σ a w) (h:Zg5 ks σ=some hd):Holds J w0 ok nt ds (build ks hd) a w:=by
 obtain ⟨mu,hr,hj⟩:=hh
 unfold Zg5 at h
 split at h
 case h_2=>cases h
 rename_i xs ob' hx
 cases hn:ZgN (build ks xs).ob with
 | false=>rw [hn] at h;cases h
 | true =>
   rw [hn] at h
   obtain rfl:=Option.some.inj h
   obtain ⟨os,m,hk,hu⟩:=Zi6 hx
   have hnd:=ZiT _ hn
   obtain ⟨mu2,hm2,hv,hokb⟩:=Zkx hr.mem m hnd (ZeL _ hnd) (fun i hi=>ZeO _ i hi)
   have hv':=hv (ks.map fun p=>a.tmps.getD p.1 undef) (by
     have:∀ (l:List (Nat×Kd)),VL (cx w σ.ob mu ok) (l.map fun p=>look σ.tm p.1) (l.map fun p=>a.tmps.getD p.1 undef):=by
       intro l
       induction l with
       | nil=>trivial
       | cons p l ih=>exact ⟨ZaQ hr (.tmp p.1),ih⟩
     exact this ks)
   have hsl:=Zso (fun t=>a.tmps.getD t undef) (build ks xs).tm (by rw [hk,List.map_map];exact hv')
   refine ⟨mu2,⟨hm2,fun t _=>hsl t,fun t ht=>?_,hr.size,hr.defers,⟨hr.marks.1,fun d hd=>by obtain ⟨D,e,h0,h1,h2⟩:=hr.marks.2 d hd;exact ⟨D,e,h0,hokb D h1,h2⟩⟩⟩,hJB _ _ hokb rfl hj⟩
   refine ZeO _ t fun p hp e=>?_
   have hp1:p.1∈ks.map (·.1):=by rw [<- hk];exact List.mem_map.2 ⟨p,hp,rfl⟩
   obtain ⟨q,hq,he⟩:=List.mem_map.1 hp1
   apply hu q hq
   rw [he,e]
   exact hr.far t ht
theorem Zr3 {ks:List (Nat×Kd)} {hd:List AV} (hJB:∀ c c':Cx,(∀ b,c.okb b->c'.okb b)->c'.w=c.w->J c->J c') (hh:Holds J w0 ok nt ds σ a w) (h:norm ks σ=some hd):Holds J w0 ok nt ds (build ks hd) a w:=by
 unfold norm at h
 split at h
 case h_2=>cases h
 rename_i xs ob' hx
 cases hn:(ZgN (build (noAl ks) xs).ob && ZlJ σ (build (noAl ks) xs) ks) with
 | false=>rw [hn] at h;cases h
 | true =>
   rw [hn] at h
   obtain rfl:=Option.some.inj h
   rw [Bool.and_eq_true] at hn
   have hB:Zg5 (noAl ks) σ=some xs:=by
     unfold Zg5
     rw [hx]
     simp only [hn.1,cond_true]
   obtain ⟨mu,hr,hj⟩:=hh
   obtain ⟨mu2,hr2,hj2⟩:=Zsg hJB ⟨mu,hr,hj⟩ hB
   obtain ⟨hob,htm⟩:=Zoj ks xs (ZpZ hx)
   rw [<- hob] at hj2
   have hal:=fun t j off hm=>ZEE (Zv7 hn.2 t j off hm)
   refine ⟨mu2,⟨by rw [hob];exact hr2.mem,fun t ht=>?_,fun t ht=>?_,hr2.size,hr2.defers,by rw [hob];exact hr2.marks⟩,hj2⟩
   . rw [hob]
     rcases htm t with e | ⟨j,off,hm,e⟩
     . rw [e];exact hr2.tm t ht
     . obtain ⟨id,cs,cs',e1,e2,e3,o1,o2⟩:=hal t j off hm
       have v1:=ZaQ hr (.tmp t)
       have v2:=ZaQ hr (.tmp j)
       have v3:=ZaQ hr2 (.tmp j)
       rw [show valOf σ (.tmp t)=look σ.tm t from rfl,e1] at v1
       rw [show valOf σ (.tmp j)=look σ.tm j from rfl,e2] at v2
       rw [show valOf (build (noAl ks) xs) (.tmp j)=look (build (noAl ks) xs).tm j from rfl,e3] at v3
       have v1:PtrV (cx w σ.ob mu ok) id off (a.tmps.getD t undef):=v1
       have v2:PtrV (cx w σ.ob mu ok) id 0 (a.tmps.getD j undef):=v2
       have v3:PtrV (cx w (build (noAl ks) xs).ob mu2 ok) ((1024+j)*64) 0 (a.tmps.getD j undef):=v3
       unfold PtrV at v1 v2 v3
       rw [show (cx w σ.ob mu ok).ob id=.box cs from o1] at v1 v2
       rw [show (cx w (build (noAl ks) xs).ob mu2 ok).ob ((1024+j)*64)=.box cs' from o2] at v3
       obtain ⟨b,k1,k2⟩:=v1
       obtain ⟨b',k1',k2'⟩:=v2
       obtain ⟨b'',k1'',k2''⟩:=v3
       rw [e]
       show PtrV (cx w (build (noAl ks) xs).ob mu2 ok) ((1024+j)*64) off (a.tmps.getD t undef)
       unfold PtrV
       rw [show (cx w (build (noAl ks) xs).ob mu2 ok).ob ((1024+j)*64)=.box cs' from o2]
       rw [k1] at k1'
       obtain rfl:=Option.some.inj k1'
       rw [k2'] at k2''
       have:b=b'':=by simpa using k2''
       subst this
       exact ⟨b,k1'',k2⟩
   . rcases htm t with e | ⟨j,off,hm,e⟩
     . rw [e];exact hr2.far t ht
     . obtain ⟨id,cs,cs',e1,_⟩:=hal t j off hm
       rw [hr.far t ht] at e1
       cases e1
theorem ZtK {ks:List (Nat×Kd)} {hd:List AV} (hh:Holds J w0 ok nt ds σ a w) (h:norm ks σ=some hd):Holds T w0 ok nt ds (build ks hd) a w :=
 Zr3 (J:=T) (fun _ _ _ _ _=>trivial) (by obtain ⟨mu,hr,_⟩:=hh;exact ⟨mu,hr,trivial⟩) h
theorem ZEK {ρ:Type} {L:Nat->Option LSpec} {inl:Inl ρ} (hG:Zaj V) (hI:Zgg V inl) (hJ:Stays J) (hLJ:∀ id s,L id=some s->∀ c,J c) {ro:Option Nat} {Δ:List Deferred->Prop} (hΔ:∀ id s,L id=some s->∀ ds,Δ ds) :
   ∀ (c : Code), (∀ {σ : St} {a : Act} {w : World} {k : Ex -> St -> Option ρ} {r : ρ} {Q : Exit -> Act -> World -> Prop}, (∀ c' ∈ Za9 c, ∀ s, L (ZaP c') = some s -> LoopOK V nt s c' /\ (ZdK c' = true -> ro = none)) ->
     Zd7 Δ J w0 ok nt σ a w->evK V L inl fid nt rounds c σ k=some r->(∀ e σ' a' w',Zd7 Δ J w0 ok nt σ' a' w'->k e σ'=some r->Q e.to a' w')->c.wpIn (Zbf ro) 0 V.P Q a w) /\
     ∀ (l:Nat) (rest:Code),findLabel c l=some rest->∀ {σ:St} {a:Act} {w:World} {k:Ex->St->Option ρ} {r:ρ} {Q:Exit->Act->World->Prop},(∀ c'∈Za9 c,∀ s,L (ZaP c')=some s->LoopOK V nt s c'/\(ZdK c'=true->ro=none)) ->
     Zd7 Δ J w0 ok nt σ a w->evT V L inl fid nt rounds l c σ k=some r->(∀ e σ' a' w',Zd7 Δ J w0 ok nt σ' a' w'->k e σ'=some r->Q e.to a' w')->rest.wpIn (Zbf ro) 0 V.P Q a w:=by
 intro c
 induction c with
 | skip =>
   refine ⟨?_,fun l rest hf=>by simp [findLabel] at hf⟩
   intro σ a w k r Q _ hh h hn
   exact wpIn_skip (hn _ _ _ _ hh h)
 | label l0 =>
   refine ⟨?_,fun l rest hf=>?_⟩
   . intro σ a w k r Q _ hh h hn
     exact wpIn_label (hn _ _ _ _ hh h)
   . intro σ a w k r Q _ hh h hn
     simp only [findLabel] at hf
     split at hf
     . rename_i hb
       obtain rfl:=Option.some.inj hf
       simp only [evT] at h
       have hb:l0=l:=by simpa using hb
       subst hb
       rw [show Nat.beq l0 l0=true by simp] at h
       exact wpIn_skip (hn .normal _ _ _ hh h)
     . cases hf
 | region id ops draw =>
   refine ⟨?_,fun l rest hf=>by simp [findLabel] at hf⟩
   intro σ a w k r Q _ hh h hn
   obtain ⟨ds,hd,hh⟩:=hh
   exact ZEm hG hI hJ hh h fun σ' a' w' hh' h'=>hn .normal σ' a' w' ⟨ds,hd,hh'⟩ h'
 | seq x y ihx ihy =>
   refine ⟨?_,fun l rest hf=>?_⟩
   rotate_left
   . intro σ a w k r Q hl hh h hn
     cases hx:findLabel x l with
     | some r1 =>
       simp only [findLabel,hx] at hf
       obtain rfl:=Option.some.inj hf
       simp only [evT,hx] at h
       refine wpIn_seq (ihx.2 l r1 hx (fun c' hc=>hl c' (List.mem_append_left _ hc)) hh h fun e σ' a' w' hh' h'=>?_)
       cases e with
       | normal=>exact ihy.1 (fun c' hc=>hl c' (List.mem_append_right _ hc)) hh' h' hn
       | exit id=>exact hn _ _ _ _ hh' h'
       | goto l=>exact hn _ _ _ _ hh' h'
       | ret=>exact hn _ _ _ _ hh' h'
     | none =>
       simp only [findLabel,hx] at hf
       simp only [evT,hx] at h
       exact ihy.2 l rest hf (fun c' hc=>hl c' (List.mem_append_right _ hc)) hh h hn
   intro σ a w k r Q hl hh h hn
   refine wpIn_seq (ihx.1 (fun c' hc=>hl c' (List.mem_append_left _ hc)) hh h fun e σ' a' w' hh' h'=>?_)
   cases e with
   | normal=>exact ihy.1 (fun c' hc=>hl c' (List.mem_append_right _ hc)) hh' h' hn
   | exit id=>exact hn _ _ _ _ hh' h'
   | goto l=>exact hn _ _ _ _ hh' h'
   | ret=>exact hn _ _ _ _ hh' h'
 | cond c x y ihx ihy =>
   refine ⟨?_,fun l rest hf=>by simp [findLabel] at hf⟩
   intro σ a w k r Q hl hh h hn
   simp only [evK] at h
   split at h
   case h_2=>cases h
   rename_i t ht
   obtain ⟨ds,hds,mu,hr,hj⟩:=hh
   have hc:=ZaQ hr c
   rw [ht] at hc
   simp only [Mill.V] at hc
   refine wpIn_cond hc ?_
   cases t with
   | true=>exact ihx.1 (fun c' hc=>hl c' (List.mem_append_left _ hc)) ⟨ds,hds,mu,hr,hj⟩ h hn
   | false=>exact ihy.1 (fun c' hc=>hl c' (List.mem_append_right _ hc)) ⟨ds,hds,mu,hr,hj⟩ h hn
 | block id c ih =>
   refine ⟨?_,fun l rest hf=>by simp [findLabel] at hf⟩
   intro σ a w k r Q hl hh h hn
   refine wpIn_block (ih.1 hl hh h fun e σ' a' w' hh' h'=>?_)
   cases e with
   | normal=>exact hn _ _ _ _ hh' h'
   | exit id' =>
     show if id'=id then Q .normal a' w' else Q (.exit id') a' w'
     simp only at h'
     by_cases he:id'=id
     . subst he
       rw [if_pos rfl]
       rw [show Nat.beq id' id'=true by simp] at h'
       exact hn _ _ _ _ hh' h'
     . rw [if_neg he]
       have hf:Nat.beq id' id=false:=by
         cases hb:Nat.beq id' id with
         | false=>rfl
         | true=>exact (he (Nat.eq_of_beq_eq_true hb)).elim
       rw [hf] at h'
       exact hn _ _ _ _ hh' h'
   | goto l=>exact hn _ _ _ _ hh' h'
   | ret=>exact hn _ _ _ _ hh' h'
 | loop c ih =>
   refine ⟨?_,fun l rest hf=>by simp [findLabel] at hf⟩
   intro σ a w k r Q hl hh h hn
   refine ZiS ?_
   simp only [evK] at h
   split at h
   . have hl':∀ c'∈Za9 c,∀ s,L (ZaP c')=some s->LoopOK V nt s c'/\(ZdK c'=true->ro=none):=fun c' hc=>hl c' (List.mem_cons_of_mem _ hc)
     have key:∀ (n:Nat) (σ:St) (a:Act) (w:World),Zd7 Δ J w0 ok nt σ a w->Zzw (fun σ k=>evK V L inl fid nt rounds c σ k) k n σ=some r->Zfn ro V.P c Q a w:=by
       intro n
       induction n with
       | zero=>intro σ a w _ h;cases h
       | succ n ihn =>
         intro σ a w hh h
         refine ZdA (ih.1 hl' hh h fun e σ' a' w' hh' h'=>?_)
         cases e with
         | normal=>exact ihn σ' a' w' hh' h'
         | exit id=>exact hn _ _ _ _ hh' h'
         | goto l=>exact hn _ _ _ _ hh' h'
         | ret=>exact hn _ _ _ _ hh' h'
     exact key rounds σ a w hh h
   . rename_i s hs
     cases hir:ZdK c with
     | true=>rw [hir] at hs;cases hs
     | false =>
     rw [hir] at hs
     have hs:L (ZaP c)=some s:=hs
     split at h
     case h_1=>cases h
     rename_i hd hnorm
     split at h
     case h_1=>cases h
     rename_i x hdec
     split at h
     case h_1=>cases h
     rename_i y hrun
     rw [s.law] at h
     obtain ⟨ds,_,hh⟩:=hh
     refine Zoi ((hl c (by simp [Za9]) s hs).1.loop hir ro w0 ok hd x y a w hdec hrun ⟨ds,trivial,ZtK hh hnorm⟩) fun e a' w' he=>?_
     obtain ⟨rfl,ds',_,mu,hr,_⟩:=he
     exact hn _ _ _ _ ⟨ds',hΔ _ _ hs ds',mu,hr,hLJ _ _ hs _⟩ h
 | exit id =>
   refine ⟨?_,fun l rest hf=>by simp [findLabel] at hf⟩
   intro σ a w k r Q _ hh h hn
   exact wpIn_exit (hn (.exit id) _ _ _ hh h)
 | goto l =>
   refine ⟨?_,fun l rest hf=>by simp [findLabel] at hf⟩
   intro σ a w k r Q _ hh h hn
   exact wpIn_goto (hn (.goto l) _ _ _ hh h)
 | ret =>
   refine ⟨?_,fun l rest hf=>by simp [findLabel] at hf⟩
   intro σ a w k r Q _ hh h hn
   exact wpIn_ret (hn .ret _ _ _ hh h)
 | rangeFunc g ps x y _ _ =>
   refine ⟨?_,fun l rest hf=>by simp [findLabel] at hf⟩
   intro σ a w k r Q hl hh h hn
   cases g with
   | tmp gt =>
     simp only [evK] at h
     split at h
     case h_1=>cases h
     rename_i gv ob' hfz
     split at h
     case h_1=>cases h
     rename_i s hs
     split at h
     case h_1=>cases h
     rename_i hd hnorm
     split at h
     case h_1=>cases h
     rename_i z hdec
     split at h
     case h_1=>cases h
     rename_i y' hrun
     rw [s.law] at h
     obtain ⟨ds,_,hh⟩:=hh
     obtain ⟨hrg,hro⟩:=hl (.rangeFunc (.tmp gt) ps x y) (by simp [Za9]) s hs
     obtain rfl:=hro rfl
     have hrg:Zx8 V nt s (.rangeFunc (.tmp gt) ps x y):=hrg
     refine wpIn_mono (hrg w0 ok hd z y' a w hdec hrun ⟨ds,trivial,ZtK (ZyC hh hfz) hnorm⟩) fun e a' w' he=>?_
     obtain ⟨rfl,ds',_,mu,hr,_⟩:=he
     exact hn _ _ _ _ ⟨ds',hΔ _ _ hs ds',mu,hr,hLJ _ _ hs _⟩ h
   | const v=>simp [evK] at h
   | func f=>simp [evK] at h
   | global g=>simp [evK] at h
 | scope c ih =>
   refine ⟨?_,fun l rest hf=>by simp [findLabel] at hf⟩
   intro σ a w k r Q hl hh h hn
   refine Zts (ih.1 hl hh h fun e σ' a' w' hh' h'=>?_)
   cases e with
   | normal=>exact hn _ _ _ _ hh' h'
   | exit id'=>exact hn _ _ _ _ hh' h'
   | goto l =>
     simp only at h'
     split at h'
     . cases h'
     . rename_i rest hf
       refine ⟨rest,hf,ih.2 l rest hf hl hh' h' fun e2 σ2 a2 w2 hh2 h2=>?_⟩
       cases e2 with
       | normal=>exact hn _ _ _ _ hh2 h2
       | exit id'=>exact hn _ _ _ _ hh2 h2
       | goto l=>cases h2
       | ret=>exact hn _ _ _ _ hh2 h2
   | ret=>exact hn _ _ _ _ hh' h'
 | refuse why =>
   refine ⟨?_,fun l rest hf=>by simp [findLabel] at hf⟩
   intro σ a w k r Q _ hh h hn
   simp [evK] at h
theorem ZiZ {ρ:Type} {L:Nat->Option LSpec} {inl:Inl ρ} (hG:Zaj V) (hI:Zgg V inl) (hJ:Stays J) (hLJ:∀ id s,L id=some s->∀ c,J c) {ro:Option Nat} {Δ:List Deferred->Prop} (hΔ:∀ id s,L id=some s->∀ ds,Δ ds) :
   ∀ (c : Code) {σ : St} {a : Act} {w : World} {k : Ex -> St -> Option ρ} {r : ρ} {Q : Exit -> Act -> World -> Prop}, (∀ c' ∈ Za9 c, ∀ s, L (ZaP c') = some s -> LoopOK V nt s c' /\ (ZdK c' = true -> ro = none)) ->
     Zd7 Δ J w0 ok nt σ a w->evK V L inl fid nt rounds c σ k=some r->(∀ e σ' a' w',Zd7 Δ J w0 ok nt σ' a' w'->k e σ'=some r->Q e.to a' w')->c.wpIn (Zbf ro) 0 V.P Q a w:=fun c=>(ZEK hG hI hJ hLJ hΔ c).1
end
end Go.Proofs.Mill
namespace Go.Proofs.Mill
variable {ds:List Deferred}
open Go.RowKit
structure MonoC (c c':Cx):Prop extends Mono5 c c' where
  blkc:∀ b cur e m,c.okb b->c.w.heap[b]?=some (.cells cur e m)->c'.okb b/\c'.w.heap[b]?=c.w.heap[b]?
mutual
theorem MonoC.v {c c':Cx} (h:MonoC c c'):∀ (x:AV) (v:Value),V c x v->V c' x v
 | .undef,_,_=>trivial
 | .int _ _,_,hv=>hv
 | .bool _,_,hv=>hv
 | .str _,_,hv=>hv
 | .lst _ _,_,hv=>h.dv _ _ hv
 | .lstn _ _,_,hv=>⟨h.dv _ _ hv.1,hv.2⟩
 | .emp,_,hv=>hv
 | .own _,_,hv=>h.own _ _ hv
 | .ownv _ _ _,_,hv=>hv
 | .ptr _ _,_,hv=>h.ptr _ _ _ hv
 | .eptr _ _ _,_,hv=>h.eptr _ _ _ _ hv
 | .lptr _ _ _ _,_,hv=>h.lptr _ _ _ _ _ hv
 | .cptr cs _,_,⟨b,cur,e,h1,h2,h3,h4⟩=>⟨b,cur,e,h1,(h.blkc b _ _ _ h2 h3).1,((h.blkc b _ _ _ h2 h3).2).trans h3,h.vl cs cur.toList h4⟩
 | .agg cs,_,⟨vs,e,hv⟩=>⟨vs,e,h.vl cs vs.toList hv⟩
 | .tup cs,_,⟨vs,e,hv⟩=>⟨vs,e,h.vl cs vs.toList hv⟩
 | .fn _ caps,_,⟨vs,e,hv⟩=>⟨vs,e,h.vl caps vs.toList hv⟩
 | .bfn _ first,_,⟨vs,e,hv⟩=>⟨vs,e,h.vl first vs.toList hv⟩
 | .cst _,_,hv=>hv
 | .ifc _ x,_,⟨u,e,hv⟩=>⟨u,e,h.v x u hv⟩
 | .box _,_,hv=>hv
 | .row _ _ _,_,hv=>hv
 | .frz _ _,_,hv=>hv
 | .dead,_,hv=>hv
theorem MonoC.vl {c c':Cx} (h:MonoC c c'):∀ (xs:List AV) (vs:List Value),VL c xs vs->VL c' xs vs
 | [],[],hv=>hv
 | x::xs,v::vs,⟨a,b⟩=>⟨h.v x v a,h.vl xs vs b⟩
end
section
variable {w0 w w':World} {ok:Nat->Prop} {nt:Nat} {σ:St} {a:Act} {mu:Nat->Option Nat} {ob:List (Nat×AV)} {r:Nat} {o:Obj}
theorem ZuJ (ht:Turned w w' fun k=>k=r) (ho:w.heap[r]?=some o) (hc:o.isCells=false) {b n:Nat} {u:Value} (h:w.cell? ⟨b,n,none⟩=some u):w'.cell? ⟨b,n,none⟩=some u:=by
 have hb:∃ o',w.heap[b]?=some o':=by
   cases hb:w.heap[b]? with
   | some o'=>exact ⟨o',rfl⟩
   | none=>simp [World.cell?,hb] at h
 obtain ⟨o',hb⟩:=hb
 have hne:b≠r:=by
   rintro rfl
   rw [ho] at hb
   obtain rfl:=Option.some.inj hb
   cases o <;> first | (cases hc;done) | simp [World.cell?,ho] at h
 rw [cell?_heap (ht.block b (Array.getElem?_eq_some_iff.1 hb).1 hne)]
 exact h
theorem ZnH (ht:Turned w w' fun k=>k=r) (ho:w.heap[r]?=some o) (hc:o.isCells=false) {b:Nat} {cur:Array Value} {e:TypeId} {m:Nat×Nat} (h:w.heap[b]?=some (.cells cur e m)):w'.heap[b]?=some (.cells cur e m):=by
 have hne:b≠r:=by
   rintro rfl
   rw [ho] at h
   obtain rfl:=Option.some.inj h
   cases hc
 rw [ht.block b (Array.getElem?_eq_some_iff.1 h).1 hne]
 exact h
theorem Zip (ht:Turned w w' fun k=>k=r) (ho:w.heap[r]?=some o) (hc:o.isCells=false):MonoC (cx w ob mu ok) (cx w' ob mu ok):=by
 have hokb:∀ b,(cx w ob mu ok).okb b->(cx w' ob mu ok).okb b:=fun b h=>⟨h.1,Nat.lt_of_lt_of_le h.2.1 ht.size,h.2.2⟩
 have hdv:∀ d v,(cx w ob mu ok).DV d v->(cx w' ob mu ok).DV d v:=by
   intro d v h
   induction h with
   | int k n=>exact .int k n
   | bool b=>exact .bool b
   | str s=>exact .str s
   | fn f=>exact .fn f
   | nil sz A c hA=>exact .nil sz A c hA
   | lst sz rows b off c u hc' hsz hcell hdv hb ih =>
     exact .lst sz rows b off c u hc' hsz (fun j d hj=>ZuJ ht ho hc (hcell j d hj)) (fun j d hj=>ih j d hj) (hokb b hb)
 have hlp:∀ τ xs i off v,LptrV (cx w ob mu ok) τ xs i off v->LptrV (cx w' ob mu ok) τ xs i off v:=by
   rintro τ xs i off v ⟨hi,b,o',u,rfl,hb,hcl,hd⟩
   exact ⟨hi,b,o',u,rfl,hokb b hb,fun j d hj=>ZuJ ht ho hc (hcl j d hj),fun j d hj=>hdv _ _ (hd j d hj)⟩
 refine ⟨⟨hdv,fun id v h=>?_,fun id off v h=>?_,fun id i off v h=>?_,hlp⟩,fun b cur e m hb h=>⟨hokb b hb,?_⟩⟩
 . unfold OwnV at h ⊢
   change (match look ob id with | .row e τ xs=>_ | .frz τ xs=>_ | .dead=>_ | _=>_) at h
   show (match look ob id with | .row e τ xs=>_ | .frz τ xs=>_ | .dead=>_ | _=>_)
   cases hob:look ob id <;> rw [hob] at h <;> try exact h
   case row e τ xs =>
     rcases h with h | ⟨b,cap,cur,h1,h2,h3,h4⟩
     . exact .inl h
     . exact .inr ⟨b,cap,cur,h1,⟨ZnH ht ho hc h2.1,h2.2⟩,h3,h4⟩
   case frz τ xs=>exact hdv _ _ h
 . exact h
 . unfold EptrV at h ⊢
   change (match look ob id with | .row e τ xs=>_ | .frz τ xs=>_ | .dead=>_ | _=>_) at h
   show (match look ob id with | .row e τ xs=>_ | .frz τ xs=>_ | .dead=>_ | _=>_)
   cases hob:look ob id <;> rw [hob] at h <;> try exact h
   case frz τ xs=>exact hlp _ _ _ _ _ h
 . exact (ZnH ht ho hc h).trans h.symm
theorem ZCd (hm:Mem w0 (cx w ob mu ok)) (ht:Turned w w' fun k=>k=r) (ho:w.heap[r]?=some o) (hc:o.isCells=false) (hr:w0.heap.size<=r):Mem w0 (cx w' ob mu ok):=by
 have hmono:MonoC (cx w ob mu ok) (cx w' ob mu ok):=Zip ht ho hc
 refine ⟨fun id=>?_,hm.inj,hm.base,ht.ext hm.ext (fun k e=>by subst e;exact hr),hm.okn_of rfl ht.size fun _ _ h2=>h2⟩
 have h:=hm.obj id
 unfold ObjOK at h ⊢
 change (match look ob id with | .box cs=>_ | .row e τ xs=>_ | .undef=>_ | .dead=>_ | .frz _ _=>_ | _=>_) at h
 show (match look ob id with | .box cs=>_ | .row e τ xs=>_ | .undef=>_ | .dead=>_ | .frz _ _=>_ | _=>_)
 cases hob:look ob id <;> rw [hob] at h <;> try exact h
 case box cs =>
   obtain ⟨b,cur,e,h1,h2,h3⟩:=h
   exact ⟨b,cur,e,h1,ZnH ht ho hc h2,hmono.vl _ _ h3⟩
 case row e τ xs =>
   rcases h with h | ⟨b,cap,cur,h1,h2,h3,h4,h5⟩
   . exact .inl h
   . exact .inr ⟨b,cap,cur,h1,⟨ZnH ht ho hc h2.1,h2.2⟩,h3,h4,ZwE hmono.dv h5⟩
theorem R.turn (hr:R w0 ok nt ds σ a w mu) (ht:Turned w w' fun k=>k=r) (ho:w.heap[r]?=some o) (hc:o.isCells=false) (hb:w0.heap.size<=r) (hd:∀ d∈ds,d≠{ target:=.collected r,args:=#[] }):R w0 ok nt ds σ a w' mu:=by
 have hmono:MonoC (cx w σ.ob mu ok) (cx w' σ.ob mu ok):=Zip ht ho hc
 refine ⟨ZCd hr.mem ht ho hc hb,fun t h=>hmono.v _ _ (hr.tm t h),hr.far,hr.size,hr.defers,hr.marks.1,fun d hdd=>?_⟩
 obtain ⟨D,e,h0,h1,h2⟩:=hr.marks.2 d hdd
 have hne:D≠r:=by
   rintro rfl
   exact hd d hdd e
 exact ⟨D,e,h0,⟨h1.1,Nat.lt_of_lt_of_le h1.2.1 ht.size,h1.2.2⟩,(ht.block D h1.2.1 hne).trans h2⟩
theorem Zuy (ht:Turned w w' fun _=>False) (hm:Mem w0 (cx w ob mu ok)):Mono (cx w ob mu ok) (cx w' ob mu ok) :=
 Zc0 (fun b hb=>⟨⟨hb.1,Nat.lt_of_lt_of_le hb.2.1 ht.size,hb.2.2⟩,ht.block b hb.2.1 (fun x=>x)⟩) (fun id=>.inr (.inr (.inl ⟨rfl,rfl,fun b hb=>ht.block b (hm.lt hb) (fun x=>x)⟩))) (fun b hb h=>⟨h,ht.block b hb (fun x=>x)⟩)
theorem mem_grow (ht:Turned w w' fun _=>False) (hm:Mem w0 (cx w ob mu ok)):Mem w0 (cx w' ob mu ok) :=
 ⟨fun id=>(hm.obj id).keep (Zuy ht hm) rfl rfl (fun b hb=>ht.block b (hm.lt hb) (fun x=>x)),hm.inj,hm.base,ht.ext hm.ext (fun _ h=>h.elim),hm.okn_of rfl ht.size fun _ _ h2=>h2⟩
theorem R.grow (hr:R w0 ok nt ds σ a w mu) (ht:Turned w w' fun _=>False):R w0 ok nt ds σ a w' mu :=
 hr.go (mem_grow ht hr.mem) (Zuy ht hr.mem)
theorem ZeQ (w:World) (r:Nat) (o:Obj):Turned w (w.putObj r o) fun k=>k=r :=
 ⟨rfl,rfl,rfl,by simp,fun k _ h=>World.putObj_heap_other h⟩
end
end Go.Proofs.Mill
namespace Go.Proofs.Mill
variable {ds:List Deferred}
open Go.RowKit
section
variable {V:Env} {J:Cx->Prop} {w0 w:World} {ok:Nat->Prop} {nt fid rounds:Nat} {σ τ:St} {a:Act} {mu:Nat->Option Nat}
def resM (a:Act):ResultVar->Sem Value
 | .tmp t=>pure (a.tmps.getD t undef)
 | .cell b t=>do loadVar t (<- asAddr (a.tmps.getD b undef))
theorem ZBO {α:Type} {k:AV->Rd α} {r:α} {t:TypeId} {p:AV} {pv:Value} {c:Cx} (h:(rdAt V t p k).val σ=some r) (hp:Mill.V c p pv):∃ x,pv=.pointer (some x):=by
 cases p <;> try (simp [rdAt,Rd.val] at h;done)
 case ptr=>exact PtrV.some hp
 case eptr=>exact EptrV.some hp
 case lptr=>obtain ⟨_,b,o,_,rfl,_⟩:=hp;exact ⟨_,rfl⟩
 case cptr=>obtain ⟨_,_,_,rfl,_⟩:=hp;exact ⟨_,rfl⟩
theorem Zsf {α:Type} (hr:R w0 ok nt ds σ a w mu):∀ (l:List ResultVar) (k:List AV->Rd α) (r:α),(Zgj V l k).val σ=some r ->
   ∃ vs us,(k vs).val σ=some r/\(l.mapM (resM a)).run V.P w=.ok us w/\VL (cx w σ.ob mu ok) vs us
 | [],k,r,h=>⟨[],[],h,by simp,trivial⟩
 | .tmp t :: l, k, r, h => by
   obtain ⟨vs,us,h1,h2,h3⟩:=Zsf hr l _ r (show (Zgj V l fun vs=>k (look σ.tm t::vs)).val σ=some r from h)
   refine ⟨_::vs,a.tmps.getD t undef::us,h1,?_,ZaQ hr (.tmp t),h3⟩
   simp [List.mapM_cons,resM,h2]
 | .cell b t :: l, k, r, h => by
   have h:(rdAt V t (look σ.tm b) fun v=>Zgj V l fun vs=>k (v::vs)).val σ=some r:=h
   obtain ⟨x,hx⟩:=ZBO h (ZaQ hr (.tmp b))
   obtain ⟨v,u,h1,h2,h3⟩:=ZxX h hr.mem (ZaQ hr (.tmp b))
   obtain ⟨vs,us,h4,h5,h6⟩:=Zsf hr l _ r h1
   refine ⟨v::vs,u::us,h4,?_,h3,h6⟩
   have hx':a.tmps.getD b undef=.pointer (some x):=hx
   have h2':(loadVar t x).run V.P w=.ok u w:=by
     rw [show a.eval (.tmp b)=.pointer (some x) from hx] at h2
     simpa [Instr.loadAt,Instr.sureAddr] using h2
   simp [List.mapM_cons,resM,hx',asAddr,h2',h5]
theorem Ziw {fn:Func} {v:AV} (hr:R w0 ok nt ds σ a w mu) (h:(Zgj V fn.results.toList fun vs=>.ret (Zkt vs)).val σ=some v) :
   ∃ u,(results fn a.tmps).run V.P w=.ok u w/\Mill.V (cx w σ.ob mu ok) v u:=by
 obtain ⟨vs,us,h1,h2,h3⟩:=Zsf hr _ _ _ h
 have h1:=ZaK h1
 subst h1
 have e:results fn a.tmps=(List.toArray <$> fn.results.toList.mapM (resM a)) >>= fun vs=>pure (if h:vs.size=1 then vs[0] else .tuple vs):=by
   unfold results
   rw [Array.mapM_eq_mapM_toList]
   congr 2
   first
     | done
     | (congr 1;funext x;cases x <;> rfl)
     | (funext x;cases x <;> rfl)
 refine ⟨if h:us.toArray.size=1 then us.toArray[0] else .tuple us.toArray,?_,?_⟩
 . rw [e]
   simp [h2]
 . unfold Zkt
   split
   . rename_i v
     obtain ⟨u,us',rfl,hv,hn⟩:=Zbk h3
     rw [ZbO hn]
     exact hv
   . rename_i hne
     have hl:=h3.length
     rw [dif_neg]
     . exact ⟨us.toArray,rfl,h3⟩
     . intro h1
       have h1:us.length=1:=by simpa using h1
       rw [<- hl] at h1
       obtain ⟨x,hx⟩:=List.length_eq_one_iff.1 h1
       exact hne x hx
theorem Zoy:∀ (args:List AV) (i t:Nat),look (Zci i args) t=if i<=t then args.getD (t-i) .undef else .undef
 | [],i,t=>by simp [Zci,look]
 | v :: args, i, t => by
   show look ((i,v)::Zci (i+1) args) t=_
   by_cases e:i=t
   . subst e;rw [look_eq];simp
   . rw [Za1 _ _ e,Zoy args (i+1) t]
     by_cases h:i<=t
     . rw [if_pos (by omega),if_pos h]
       have:t-i=(t-(i+1))+1:=by omega
       rw [this]
       simp
     . rw [if_neg (by omega),if_neg h]
theorem Zgp {args:List AV} {vals:Array Value} {ob:List (Nat×AV)} (hm:Mem w0 (cx w ob mu ok)) (hv:VL (cx w ob mu ok) args vals.toList) (hl:args.length<=nt) :
   R w0 ok nt [] ⟨Zci 0 args,ob⟩ { tmps:=vals++Array.replicate (nt-vals.size) undef,defers:=[] } w mu:=by
 have hlen:args.length=vals.size:=by have:=hv.length;simpa using this
 refine ⟨hm,fun t ht=>?_,fun t ht=>?_,?_,rfl,Marks.nil _ _⟩
 . show Mill.V _ (look (Zci 0 args) t) ((vals++Array.replicate (nt-vals.size) undef).getD t undef)
   rw [Zoy,if_pos (Nat.zero_le _),Nat.sub_zero]
   by_cases h:t<args.length
   . obtain ⟨u,hu,huv⟩:=hv.get t args[t] (List.getElem?_eq_getElem h)
     have e1:args.getD t .undef=args[t]:=by simp [List.getD_eq_getElem?_getD,h]
     have e2:(vals++Array.replicate (nt-vals.size) undef).getD t undef=u:=by
       rw [Array.getD_eq_getD_getElem?,Array.getElem?_append_left (by omega)]
       have:vals[t]?=some u:=by simpa using hu
       rw [this];rfl
     rw [e1,e2]
     exact huv
   . rw [List.getD_eq_getElem?_getD,List.getElem?_eq_none (by omega)]
     trivial
 . show look (Zci 0 args) t=.undef
   rw [Zoy,if_pos (Nat.zero_le _),List.getD_eq_getElem?_getD,List.getElem?_eq_none (by omega)]
   rfl
 . simp;omega
theorem Zky {n:Nat} {fn:Func} {Rr:Ending->World->Prop}:∀ (ds:List Deferred) (a:Act) (w:World),R w0 ok nt ds σ a w mu ->
   (∀ (a1:Act) (w1:World),a1.tmps=a.tmps->R w0 ok nt [] σ a1 w1 mu->(ds=[]->w1=w)->∃ u,(results fn a.tmps).run V.P w1=.ok u w1/\Rr (.returned u) w1) ->
   LeavesInM (Zbf none) n V.P fn a.tmps Rr ds .returning w
 | [], a, w, hr, hfin => by
   obtain ⟨u,h1,h2⟩:=hfin a w rfl hr (fun _=>rfl)
   exact ⟨u,h1,h2⟩
 | d :: ds, a, w, hr, hfin => by
   obtain ⟨D,rfl,h0,h1,h2⟩:=hr.marks.2 d (by simp)
   have hnd:=List.nodup_cons.1 hr.marks.1
   have hr1:R w0 ok nt ds σ { a with defers:=ds } w mu:=⟨hr.mem,hr.tm,hr.far,hr.size,rfl,hnd.2,fun d hd=>hr.marks.2 d (List.mem_cons_of_mem _ hd)⟩
   have hr2:=hr1.turn (ZeQ w D (.deferred none)) h2 rfl h0 (fun d hd e=>hnd.1 (by rw [<- e];exact hd))
   exact ⟨by simp,.inl ⟨D,_,rfl,run_takeDeferred h2,Zky ds { a with defers:=ds } _ hr2 fun a1 w1 ht hr' _=>hfin a1 w1 ht hr' (fun h=>by cases h)⟩⟩
theorem ZwT {ρ:Type} {L:Nat->Option LSpec} {inl:Inl ρ} {f:FuncId} {args:List AV} {ob:List (Nat×AV)} {k:AV->List (Nat×AV)->Option ρ} {r:ρ} {vals:Array Value}
   (hG:Zaj V) (hI:Zgg V inl) (hJ:Stays J) (hLJ:∀ id s,L id=some s->∀ c,J c)
   (hL:∀ fn c,V.P.funcs[f]?=some fn->fn.body=some c->∀ c'∈Za9 c,∀ s,L (ZaP c')=some s->LoopOK V fn.ntmps s c')
   (hm:Mem w0 (cx w ob mu ok)) (hv:VL (cx w ob mu ok) args vals.toList) (hj:J (cx w ob mu ok)) (h:fnK V L inl rounds f fid args ob k=some r) :
   Calls V.P f vals w fun e w'=>∃ v u ob' mu',e=.returned u/\Mem w0 (cx w' ob' mu' ok)/\J (cx w' ob' mu' ok)/\Mill.V (cx w' ob' mu' ok) v u/\k v ob'=some r:=by
 unfold fnK at h
 split at h
 case h_2=>cases h
 rename_i fn hf
 split at h
 case h_2=>cases h
 rename_i c hc
 cases hle:Nat.ble args.length fn.ntmps with
 | false=>rw [hle] at h;cases h
 | true =>
   rw [hle] at h
   simp only [cond_true] at h
   have hle:=Nat.le_of_ble_eq_true hle
   let Δ:List Deferred->Prop:=fun ds=>ds=[]\/∀ c,J c
   refine (callsIn_wide (n:=0)).1 (callsIn_of_wp_marks (F:=Fence.wide) (n:=0) hf hc trivial (ZiZ (Δ:=Δ) (ro:=none) hG hI hJ hLJ (fun id s hs ds=>.inr (hLJ id s hs)) c (fun c' hc' s hs=>⟨hL fn c hf hc c' hc' s hs,fun _=>rfl⟩)
     ⟨[],.inl rfl,mu,Zgp hm hv hle,hj⟩ h fun e σ' a' w' hh' h'=>?_))
   obtain ⟨ds',hds,mu',hr',hj'⟩:=hh'
   have fin:(Zgj V fn.results.toList fun vs=>.ret (Zkt vs)).runK σ' [] (fun v _=>k v σ'.ob)=some r->LeavesInM (Zbf none) 0 V.P fn a'.tmps
       (fun e w'=>∃ v u ob' mu',e=.returned u/\Mem w0 (cx w' ob' mu' ok)/\J (cx w' ob' mu' ok)/\Mill.V (cx w' ob' mu' ok) v u/\k v ob'=some r) a'.defers .returning w':=by
     intro h
     obtain ⟨v,_,h1,h2⟩:=Rd.runK_val h
     rw [hr'.defers]
     refine Zky ds' a' w' hr' fun a1 w1 ht hr1 he=>?_
     obtain ⟨u,hu,huv⟩:=Ziw hr1 h1
     rw [ht] at hu
     refine ⟨u,hu,v,u,σ'.ob,mu',rfl,hr1.mem,?_,huv,h2⟩
     rcases hds with hds | hds
     . rw [he hds];exact hj'
     . exact hds _
   cases e with
   | normal=>exact fin h'
   | ret=>exact fin h'
   | exit id=>cases h'
   | goto l=>cases h'
theorem Zam {f:FuncId}:∀ fn c,V.P.funcs[f]?=some fn->fn.body=some c->∀ c'∈Za9 c,∀ s,(fun _=>none:Nat->Option LSpec) (ZaP c')=some s->LoopOK V fn.ntmps s c' :=
 fun _ _ _ _ _ _ _ h=>by cases h
theorem Zb8 {ρ:Type} (hG:Zaj V):∀ (d:Nat),Zgg V (inlK (ρ:=ρ) V rounds d)
 | 0=>fun _ _ _ _ _ _ h=>by cases h
 | d + 1 => fun f fid args ob k r h => by
   simp only [inlK] at h
   split at h
   . rename_i s hs
     split at h
     case h_2=>cases h
     rename_i c post hp
     split at h
     case h_2=>cases h
     rename_i y
     obtain ⟨hent,hx⟩:=hG.2.2.2.2 f s hs
     refine ⟨hent,fun w0 ok w mu vals hm hv=>(hx fid args ob y post hp w0 ok w mu vals hm hv).mono fun e w' he=>?_⟩
     obtain ⟨u,mu',rfl,h1,h2,h3⟩:=he
     exact ⟨_,u,_,mu',rfl,h1,h2,h3,h⟩
   cases he:V.ent f with
   | false=>rw [he] at h;cases h
   | true =>
     rw [he] at h
     simp only [cond_true] at h
     refine ⟨hG.2.2.1 f he,fun w0 ok w mu vals hm hv=>?_⟩
     exact ZwT (J:=fun c=>Mono (cx w ob mu ok) c) hG (Zb8 hG d) (fun c c' h1 h2=>h1.trans h2) (fun id s hs=>by cases hs) Zam hm hv (Mono.refl _) h
theorem Stays.triv:Stays T:=fun _ _ _ _=>trivial
theorem Zqb {κ:Kd} {v x:AV} {ob ob':List (Nat×AV)} (h:ZoR κ v ob=some (x,ob')) (id:Nat) :
   ∃ os,Moves [v] [(ZcP id x).1] ob ob' (ZcP id x).2.1 os:=by
 unfold ZoR at h
 split at h
 . split at h
   case h_2=>cases h
   split at h
   case h_2=>cases h
   rename_i xs ob1 hx
   simp only [Option.some.injEq,Prod.mk.injEq] at h
   obtain ⟨rfl,rfl⟩:=h
   obtain ⟨os,m⟩:=ZdO hx id
   exact ⟨os,m.agg⟩
 . obtain ⟨os,m⟩:=ZjB h id
   have hx:(ZcP id x).1=(ZbC id x).1/\(ZcP id x).2.1=(ZbC id x).2.1:=by
     unfold ZfI at h
     repeat' (split at h)
     all_goals first
       | (cases h;done)
       | (simp only [Option.some.injEq,Prod.mk.injEq] at h;obtain ⟨rfl,_⟩:=h;exact ⟨rfl,rfl⟩)
       | (generalize Nat.beq _ _=b at h
          cases b
          . cases h
          . simp only [cond_true,Option.some.injEq,Prod.mk.injEq] at h;obtain ⟨rfl,_⟩:=h;exact ⟨rfl,rfl⟩)
       | (generalize AV.frozens _=b at h
          cases b
          . cases h
          . simp only [cond_true,Option.some.injEq,Prod.mk.injEq] at h;obtain ⟨rfl,_⟩:=h;exact ⟨rfl,rfl⟩)
   rw [hx.1,hx.2]
   exact ⟨os,m⟩
theorem ZoD:∀ {ks:List Kd} {vs xs:List AV} {ob ob':List (Nat×AV)},Zik ks vs ob=some (xs,ob')->∀ id,∃ os,Moves vs (Zft id xs).1 ob ob' (Zft id xs).2.1 os
 | [], [], xs, ob, ob', h, id => by
   simp only [Zik,Option.some.injEq,Prod.mk.injEq] at h
   obtain ⟨rfl,rfl⟩:=h
   exact ⟨[],Moves.nil _⟩
 | κ :: ks, v :: vs, xs, ob, ob', h, id => by
   simp only [Zik] at h
   split at h
   case h_2=>cases h
   rename_i x ob1 h1
   split at h
   case h_2=>cases h
   rename_i xs' ob2 h2
   simp only [Option.some.injEq,Prod.mk.injEq] at h
   obtain ⟨rfl,rfl⟩:=h
   obtain ⟨os1,m1⟩:=Zqb h1 id
   obtain ⟨os2,m2⟩:=ZoD h2 (ZcP id x).2.2
   exact ⟨os1++os2,m1.append m2⟩
 | [],_::_,_,_,_,h,_=>by simp [Zik] at h
 | _::_,[],_,_,_,h,_=>by simp [Zik] at h
theorem ZhZ {ks:List Kd} {v r:AV} {ob:List (Nat×AV)} (h:ZlN ks v ob=some r) (id:Nat):∃ ob' os,Moves [v] [(Zcc id r).1] ob ob' (Zcc id r).2 os:=by
 unfold ZlN at h
 split at h
 . split at h
   case h_2=>cases h
   rename_i xs ob1 hx
   obtain rfl:=Option.some.inj h
   obtain ⟨os,m⟩:=ZoD hx id
   exact ⟨ob1,os,m.tup⟩
 . rename_i hnt
   split at h
   case h_2=>cases h
   rename_i κ
   split at h
   case h_2=>cases h
   rename_i x ob1 hx
   obtain rfl:=Option.some.inj h
   obtain ⟨os,m⟩:=Zqb hx id
   have hx':(Zcc id x).1=(ZcP id x).1/\(Zcc id x).2=(ZcP id x).2.1:=by
     have:∀ cs,x≠.tup cs:=by
       rintro cs rfl
       unfold ZoR ZfI at hx
       repeat' (split at hx)
       all_goals first
         | (cases hx;done)
         | (simp only [Option.some.injEq,Prod.mk.injEq] at hx;cases hx.1;done)
         | (simp only [Option.some.injEq,Prod.mk.injEq] at hx;exact hnt _ hx.1.symm)
         | (generalize Nat.beq _ _=b at hx
            cases b
            . cases hx
            . simp only [cond_true,Option.some.injEq,Prod.mk.injEq] at hx;cases hx.1)
         | (generalize AV.frozens _=b at hx
            cases b
            . cases hx
            . simp only [cond_true,Option.some.injEq,Prod.mk.injEq] at hx;cases hx.1)
     cases x <;> first | exact ⟨rfl,rfl⟩ | exact (this _ rfl).elim
   rw [hx'.1,hx'.2]
   exact ⟨ob1,os,m⟩
theorem ZvJ {ρ:Type} {L:Nat->Option LSpec} {f:FuncId} {depth:Nat} {rk:List Kd} {args:List AV} {k:AV->Option ρ} {r:ρ} {vals:Array Value} (hG:Zaj V)
   (hL:∀ fn c,V.P.funcs[f]?=some fn->fn.body=some c->∀ c'∈Za9 c,∀ s,L (ZaP c')=some s->LoopOK V fn.ntmps s c')
   (hv:VL (pcx w ok) args vals.toList) (h:ZnY V L rounds depth f rk args k=some r) :
   Calls V.P f vals w fun e w'=>∃ v u,e=.returned u/\Below w.heap.size w w'/\Res w ok w' v u/\k v=some r:=by
 unfold ZnY at h
 have hm:Mem w (cx w [] (fun _=>none) fun b=>ok b\/w.heap.size<=b) :=
   ⟨fun _=>rfl,fun _ _ _ h=>(by cases h),fun _ _ h=>(by cases h),Below.refl _ _,fun b hb=>.inl (.inr hb)⟩
 have hv':VL (cx w [] (fun _=>none) fun b=>ok b\/w.heap.size<=b) args vals.toList:=by
   have hmono:Mono (pcx w ok) (cx w [] (fun _=>none) fun b=>ok b\/w.heap.size<=b):=Zc0 (fun b hb=>⟨⟨.inl hb.1,hb.2.1,hb.2.2⟩,rfl⟩) (fun id=>.inl rfl) (fun _ _ h=>⟨h,rfl⟩)
   exact hmono.vl _ _ hv
 refine (ZwT (J:=T) hG (Zb8 hG depth) Stays.triv (fun _ _ _ _=>trivial) hL hm hv' trivial h).mono fun e w' he=>?_
 obtain ⟨v,u,ob',mu',rfl,hm',_,hv,hk⟩:=he
 split at hk
 case h_2=>cases hk
 rename_i r' hx
 refine ⟨r',u,rfl,hm'.ext,fun base=>?_,hk⟩
 obtain ⟨ob2,os,m⟩:=ZhZ hx base
 obtain ⟨n,hfr⟩:=ZeG base r'
 obtain ⟨mu2,hm2,hv2,_⟩:=Zkx hm' m hfr.2.2.2 (ob2:=ZaI (Zcc base r').2 []) (fun p hp=>ZcU _ _ p hfr.2.2.2 hp) (fun i hi=>by rw [Zcm _ _ _ hi];rfl)
 exact ⟨mu2,hm2,(hv2 [u] ⟨hv,trivial⟩).1⟩
end
end Go.Proofs.Mill
namespace Go.Proofs.Mill
variable {ds:List Deferred}
open Go.RowKit
inductive Loops {σ ρ:Type} (step:σ->Option (σ⊕ρ)):σ->ρ->Prop
  | done (x:σ) (y:ρ) (h:step x=some (.inr y)):Loops step x y
  | more (x x':σ) (y:ρ) (h:step x=some (.inl x')) (k:Loops step x' y):Loops step x y
def Zq6 {σ ρ:Type} (step:σ->Option (σ⊕ρ)):Nat->σ->Option ρ
 | 0,_=>none
 | n + 1, x => match step x with
  | some (.inl x')=>Zq6 step n x'
  | some (.inr y)=>some y
  | none=>none
theorem Zqy {σ ρ:Type} {step:σ->Option (σ⊕ρ)}:∀ (n:Nat) (x:σ) (y:ρ),Zq6 step n x=some y->Loops step x y
 | 0,_,_,h=>by cases h
 | n + 1, x, y, h => by
   unfold Zq6 at h
   split at h
   . rename_i x' hs
     exact .more x x' y hs (Zqy n x' y h)
   . rename_i z hs
     obtain rfl:=Option.some.inj h
     exact .done x z hs
   . cases h
open Classical in
def Zay {σ ρ:Type} (step:σ->Option (σ⊕ρ)) (x:σ):Option ρ := match Zq6 step 4096 x with
 | some y=>some y
 | none=>if h:∃ y,Loops step x y then some (Classical.choose h) else none
theorem Loops.det {σ ρ:Type} {step:σ->Option (σ⊕ρ)} {x:σ} {y z:ρ} (h:Loops step x y):Loops step x z->y=z:=by
 intro k
 induction h with
 | done x y h =>
   cases k with
   | done _ _ k=>rw [h] at k;cases k;rfl
   | more _ _ _ k _=>rw [h] at k;cases k
 | more x x' y h _ ih =>
   cases k with
   | done _ _ k=>rw [h] at k;cases k
   | more _ _ _ k k2=>rw [h] at k;cases k;exact ih k2
theorem whileM_some {σ ρ:Type} {step:σ->Option (σ⊕ρ)} {x:σ} {y:ρ}:Zay step x=some y↔Loops step x y:=by
 unfold Zay
 cases hw:Zq6 step 4096 x with
 | some z =>
   have hz:=Zqy _ _ _ hw
   exact ⟨fun h=>by obtain rfl:=Option.some.inj h;exact hz,fun h=>congrArg some (hz.det h)⟩
 | none =>
 simp only
 constructor
 . intro h
   split at h
   . rename_i hx
     obtain rfl:=Option.some.inj h
     exact Classical.choose_spec hx
   . cases h
 . intro h
   rw [dif_pos ⟨y,h⟩]
   exact congrArg some ((Classical.choose_spec (⟨y,h⟩:∃ y,Loops step x y)).det h)
theorem ZbJ {σ ρ:Type} (step:σ->Option (σ⊕ρ)) (x:σ):Zay step x=match step x with
   | some (.inl x')=>Zay step x'
   | some (.inr y)=>some y
   | none=>none:=by
 cases h:step x with
 | none =>
   simp only
   cases hw:Zay step x with
   | none=>rfl
   | some y =>
     cases whileM_some.1 hw with
     | done _ _ k=>rw [h] at k;cases k
     | more _ _ _ k _=>rw [h] at k;cases k
 | some z =>
   cases z with
   | inr y=>exact whileM_some.2 (.done x y h)
   | inl x' =>
     simp only
     cases hw:Zay step x' with
     | some y=>exact whileM_some.2 (.more x x' y h (whileM_some.1 hw))
     | none =>
       cases hx:Zay step x with
       | none=>rfl
       | some y =>
         cases whileM_some.1 hx with
         | done _ _ k=>rw [h] at k;cases k
         | more _ _ _ k k2 =>
           rw [h] at k
           cases k
           rw [whileM_some.2 k2] at hw
           cases hw
def ZgJ {σ ρ:Type} (keep:List (Nat×Kd)) (keepX:Ex->List (Nat×Kd)) (dec:List AV->Option σ) (dex:Ex->List AV->Option ρ) (e:Ex) (τ:St):Option (σ⊕ρ) := match e with
 | .normal => (match norm keep τ with
  | none=>none
  | some hd=>match dec hd with | some x=>some (.inl x) | none=>none)
 | e => (match norm (keepX e) τ with
  | none=>none
  | some hd=>match dex e hd with | some y=>some (.inr y) | none=>none)
def ZoE (c:Code):Bool:=!(ZdK c) && (Za9 c).all fun c'=>!(ZdK c')
theorem ZzR {c:Code} (h:ZoE c=true):ZdK c=false/\∀ c'∈Za9 c,ZdK c'=false:=by
 unfold ZoE at h
 simp only [Bool.and_eq_true,Bool.not_eq_true',List.all_eq_true] at h
 exact h
theorem ZvH {w0 w:World} {ok:Nat->Prop} {nt:Nat} {σ:St} {a:Act} {Δ:List Deferred->Prop} {J:Cx->Prop} {ks:List (Nat×Kd)} {hd:List AV} (hh:Zd7 Δ J w0 ok nt σ a w) (h:norm ks σ=some hd):Zd7 anyD T w0 ok nt (build ks hd) a w:=by
 obtain ⟨ds,_,hh⟩:=hh
 exact ⟨ds,trivial,ZtK hh h⟩
theorem Zx0 {V:Env} {L:Nat->Option LSpec} {nt fid rounds depth:Nat} {s:LSpec} {c:Code} {step:s.σ->Option (s.σ⊕s.ρ)} {hdOf:s.σ->List AV} {dex:Ex->List AV->Option s.ρ}
   (hG:Zaj V) (hdec:∀ hd x,s.dec hd=some x->hd=hdOf x) (hdex:∀ e hd y,dex e hd=some y->e≠.normal/\s.enc y=(e,hd)) (hrun:∀ x,s.run x=Zay step x)
   (hin:∀ c'∈Za9 c,∀ s,L (ZaP c')=some s->LoopOK V nt s c')
   (hstep:∀ x,evK V L (inlK V rounds depth) fid nt rounds c (build s.keep (hdOf x)) (ZgJ s.keep s.keepX s.dec dex)=step x) (hr:ZoE c=true):LoopOK V nt s c:=by
 obtain ⟨hr1,hr2⟩:=ZzR hr
 have hin:∀ (ro:Option Nat),∀ c'∈Za9 c,∀ s,L (ZaP c')=some s->LoopOK V nt s c'/\(ZdK c'=true->ro=none):=fun ro c' hc' s hs=>⟨hin c' hc' s hs,fun e=>by rw [hr2 c' hc'] at e;cases e⟩
 refine .of0 hr1 ?_
 intro ro w0 ok hd x y a w hd1 hy hh
 rw [hrun,whileM_some] at hy
 rw [hdec _ _ hd1] at hh
 clear hd1
 induction hy generalizing a w with
 | done x y h =>
   rw [<- hstep x] at h
   refine ZdA (ZiZ (J:=T) (Δ:=anyD) hG (Zb8 hG depth) Stays.triv (fun _ _ _ _=>trivial) (fun _ _ _ _=>trivial) c (hin ro) hh h fun e σ' a' w' hh' h'=>?_)
   have fin:∀ e hd' z,norm (s.keepX e) σ'=some hd'->dex e hd'=some z->some (Sum.inr z:s.σ⊕s.ρ)=some (.inr y)->e.to=(s.enc y).1.to/\Zd7 anyD T w0 ok nt (build (s.keepX (s.enc y).1) (s.enc y).2) a' w':=by
     intro e hd' z hn hz h'
     cases h'
     obtain ⟨_,h2⟩:=hdex _ _ _ hz
     rw [h2]
     exact ⟨rfl,ZvH hh' hn⟩
   unfold ZgJ at h'
   cases e with
   | normal=>simp only at h';(repeat' (split at h')) <;> cases h'
   | exit id=>simp only at h';split at h' <;> first | (cases h';done) | (rename_i hd' hn;split at h' <;> first | (rename_i z hz;exact fin _ _ z hn hz h') | cases h')
   | goto l=>simp only at h';split at h' <;> first | (cases h';done) | (rename_i hd' hn;split at h' <;> first | (rename_i z hz;exact fin _ _ z hn hz h') | cases h')
   | ret=>simp only at h';split at h' <;> first | (cases h';done) | (rename_i hd' hn;split at h' <;> first | (rename_i z hz;exact fin _ _ z hn hz h') | cases h')
 | more x x' y h k ih =>
   rw [<- hstep x] at h
   refine ZdA (ZiZ (J:=T) (Δ:=anyD) hG (Zb8 hG depth) Stays.triv (fun _ _ _ _=>trivial) (fun _ _ _ _=>trivial) c (hin ro) hh h fun e σ' a' w' hh' h'=>?_)
   unfold ZgJ at h'
   cases e with
   | normal =>
     simp only at h'
     split at h'
     . cases h'
     rename_i hd' hn
     split at h'
     . rename_i z hz
       cases h'
       have:=ZvH hh' hn
       rw [hdec _ _ hz] at this
       exact ih a' w' this
     . cases h'
   | exit id=>simp only at h';(repeat' (split at h')) <;> cases h'
   | goto l=>simp only at h';(repeat' (split at h')) <;> cases h'
   | ret=>simp only at h';(repeat' (split at h')) <;> cases h'
def ZaW (P:Program) (f:FuncId) (id:Nat):Code :=
 match (P.funcs[f]?).bind (·.body) with
 | some c=>((Za9 c).find? fun c'=>Nat.beq (ZaP c') id).getD .skip
 | none=>.skip
def Zq9:List Nat->Bool
 | []=>true
 | x::r=>bif r.all fun y=>!(Nat.beq x y) then Zq9 r else false
def ZlO (P:Program) (f:FuncId):Bool := match (P.funcs[f]?).bind (·.body) with
 | some c=>Zq9 ((Za9 c).map ZaP)
 | none=>true
theorem ZiM:∀ (l:List Code),Zq9 (l.map ZaP)=true->∀ c∈l,(l.find? fun c'=>Nat.beq (ZaP c') (ZaP c))=some c
 | [],_,_,h=>by cases h
 | x :: l, hn, c, h => by
   simp only [List.map_cons,Zq9] at hn
   cases hc:((l.map ZaP).all fun y=>!(Nat.beq (ZaP x) y)) with
   | false=>rw [hc] at hn;cases hn
   | true =>
     rw [hc] at hn
     rcases List.mem_cons.1 h with rfl | h
     . rw [List.find?_cons_of_pos (by simp)]
     . have hne:=List.all_eq_true.1 hc (ZaP c) (List.mem_map.2 ⟨c,h,rfl⟩)
       have hne':Nat.beq (ZaP x) (ZaP c)=false:=by simpa using hne
       rw [List.find?_cons_of_neg (by rw [hne'];simp)]
       exact ZiM l hn c h
theorem ZCr {V:Env} {L:Nat->Option LSpec} {f:FuncId} {nt:Nat} (ha:ZlO V.P f=true) (hnt:∀ fn,V.P.funcs[f]?=some fn->fn.ntmps=nt)
   (h:∀ id s,L id=some s->LoopOK V nt s (ZaW V.P f id)) :
   ∀ fn c,V.P.funcs[f]?=some fn->fn.body=some c->∀ c'∈Za9 c,∀ s,L (ZaP c')=some s->LoopOK V fn.ntmps s c':=by
 intro fn c hf hc c' hc' s hs
 have h1:=h _ s hs
 unfold ZaW at h1
 unfold ZlO at ha
 rw [hf] at h1 ha
 simp only [Option.bind_some,hc] at h1 ha
 rw [ZiM _ ha c' hc'] at h1
 rw [hnt fn hf]
 exact h1
theorem Zxs:∀ (c:Code) (c':Code),c'∈Za9 c->∀ d∈Za9 c',d∈Za9 c:=by
 intro c
 induction c with
 | seq a b iha ihb =>
   intro c' h d hd
   rcases List.mem_append.1 h with h | h
   . exact List.mem_append_left _ (iha c' h d hd)
   . exact List.mem_append_right _ (ihb c' h d hd)
 | cond x a b iha ihb =>
   intro c' h d hd
   rcases List.mem_append.1 h with h | h
   . exact List.mem_append_left _ (iha c' h d hd)
   . exact List.mem_append_right _ (ihb c' h d hd)
 | block id c ih=>intro c' h d hd;exact ih c' h d hd
 | loop c ih =>
   intro c' h d hd
   rcases List.mem_cons.1 h with rfl | h
   . exact List.mem_cons_of_mem _ hd
   . exact List.mem_cons_of_mem _ (ih c' h d hd)
 | scope c ih=>intro c' h d hd;exact ih c' h d hd
 | rangeFunc g ps x y _ _ =>
   intro c' h d hd
   obtain rfl:=List.mem_singleton.1 h
   exact hd
 | _=>intro c' h;cases h
theorem ZBL {V:Env} {L:Nat->Option LSpec} {f:FuncId} {nt id:Nat} (ha:ZlO V.P f=true)
   (h:∀ c'∈Za9 (ZaW V.P f id),∀ s,L (ZaP c')=some s->LoopOK V nt s (ZaW V.P f (ZaP c'))) :
   ∀ c'∈Za9 (ZaW V.P f id),∀ s,L (ZaP c')=some s->LoopOK V nt s c':=by
 intro c' hc' s hs
 have h1:=h c' hc' s hs
 have:ZaW V.P f (ZaP c')=c':=by
   unfold ZaW at hc' ⊢
   unfold ZlO at ha
   cases hb:(V.P.funcs[f]?).bind (·.body) with
   | none=>rw [hb] at hc';cases hc'
   | some c =>
     rw [hb] at hc' ha
     simp only at hc' ha ⊢
     have hm:c'∈Za9 c:=by
       cases hf:(Za9 c).find? fun c'=>Nat.beq (ZaP c') id with
       | none=>rw [hf] at hc';cases hc'
       | some d =>
         rw [hf] at hc'
         exact Zxs c d (List.mem_of_find?_eq_some hf) c' hc'
     rw [ZiM _ ha c' hm]
     rfl
 rw [this] at h1
 exact h1
theorem ZxN {V:Env} {L:Nat->Option LSpec} {f:FuncId} {rounds depth:Nat} {rk:List Kd} {s:Spec} {argsOf:s.α->List AV} {dres:AV->Option s.β} (hG:Zaj V)
   (hL:∀ fn c,V.P.funcs[f]?=some fn->fn.body=some c->∀ c'∈Za9 c,∀ s,L (ZaP c')=some s->LoopOK V fn.ntmps s c')
   (hdec:∀ avs a,s.dec avs=some a->avs=argsOf a) (hdres:∀ r b,dres r=some b->r=s.enc b)
   (heq:∀ a,ZnY V L rounds depth f rk (argsOf a) dres=s.fn a):Zar V.P f s:=by
 intro w0 ok avs args a b hd hb hv
 rw [hdec _ _ hd] at hv
 refine (ZvJ hG hL hv ((heq a).trans hb)).mono fun e w' he=>?_
 obtain ⟨v,u,rfl,h1,h2,h3⟩:=he
 rw [hdres _ _ h3] at h2
 exact ⟨u,rfl,h1,h2⟩
end Go.Proofs.Mill
namespace Go.Proofs.Mill
structure Cel where
  α:Type
  n:Nat
  kds:List Kd
  enc:α->List AV
  dec:List AV->Option α
  law:∀ cs a,dec cs=some a->cs=enc a
def AV.lstS (τ:Ty):AV->Option (List τ.den)
 | .lst σ xs => match Ty.eqTy σ τ with
  | some ⟨h⟩=>some (h ▸ xs)
  | none=>none
 | _=>none
theorem ZCK {τ:Ty} {v:AV} {xs:List τ.den} (h:v.lstS τ=some xs):v=.lst τ xs:=by
 unfold AV.lstS at h
 split at h
 . split at h
   . rename_i hh _
     subst hh
     obtain rfl:=Option.some.inj h
     rfl
   . cases h
 . cases h
def AV.ownS (e:TypeId) (τ:Ty):AV->Option (List τ.den)
 | .ownv e' σ xs => match Ty.eqTy σ τ with
  | some ⟨h⟩=>bif Nat.beq e' e then some (h ▸ xs) else none
  | none=>none
 | _=>none
theorem ZCh {e:TypeId} {τ:Ty} {v:AV} {xs:List τ.den} (h:v.ownS e τ=some xs):v=.ownv e τ xs:=by
 unfold AV.ownS at h
 split at h
 . rename_i e' σ ys
   split at h
   . rename_i hh _
     subst hh
     cases hb:Nat.beq e' e with
     | false=>rw [hb] at h;cases h
     | true =>
       rw [hb] at h
       have hb:=Nat.eq_of_beq_eq_true hb
       subst hb
       obtain rfl:=Option.some.inj h
       rfl
   . cases h
 . cases h
def Zao (k:IntKind):Cel where
 α:=Int
 n:=1
 kds:=[.any]
 enc x:=[.int k x]
 dec
   | [.int k' x]=>bif decide (k'=k) then some x else none
   | _=>none
 law:=by
   intro cs a h
   split at h
   . rename_i k' x
     cases hk:decide (k'=k) with
     | false=>rw [hk] at h;cases h
     | true =>
       rw [hk] at h
       obtain rfl:=of_decide_eq_true hk
       obtain rfl:=Option.some.inj h
       rfl
   . cases h
def celBool:Cel where
 α:=Bool
 n:=1
 kds:=[.any]
 enc x:=[.bool x]
 dec
   | [.bool x]=>some x
   | _=>none
 law:=by
   intro cs a h
   split at h
   . obtain rfl:=Option.some.inj h;rfl
   . cases h
def Zbb (τ:Ty):Cel where
 α:=List τ.den
 n:=1
 kds:=[.lst τ]
 enc x:=[.lst τ x]
 dec
   | [v]=>v.lstS τ
   | _=>none
 law:=by
   intro cs a h
   split at h
   . rw [ZCK h]
   . cases h
def ZaL (e:TypeId) (τ:Ty):Cel where
 α:=List τ.den
 n:=1
 kds:=[.own e τ]
 enc x:=[.ownv e τ x]
 dec
   | [v]=>v.ownS e τ
   | _=>none
 law:=by
   intro cs a h
   split at h
   . rw [ZCh h]
   . cases h
def Zae (a b:Cel):Cel where
 α:=a.α×b.α
 n:=a.n+b.n
 kds:=a.kds++b.kds
 enc x:=a.enc x.1++b.enc x.2
 dec cs:=match a.dec (cs.take a.n) with
   | some x => match b.dec (cs.drop a.n) with
     | some y=>some (x,y)
     | none=>none
   | none=>none
 law:=by
   intro cs p h
   split at h
   . rename_i x hx
     split at h
     . rename_i y hy
       obtain rfl:=Option.some.inj h
       rw [<- a.law _ _ hx,<- b.law _ _ hy,List.take_append_drop]
     . cases h
   . cases h
def Zbc (a:Cel) (X:Type) (f:a.α->X) (g:X->a.α) (h:∀ y,g (f y)=y):Cel where
 α:=X
 n:=a.n
 kds:=a.kds
 enc x:=a.enc (g x)
 dec cs:=match a.dec cs with
   | some y=>some (f y)
   | none=>none
 law:=by
   intro cs x hx
   split at hx
   . rename_i y hy
     obtain rfl:=Option.some.inj hx
     rw [h y]
     exact a.law _ _ hy
   . cases hx
structure Val where
  α:Type
  kd:Kd
  enc:α->AV
  dec:AV->Option α
  law:∀ v a,dec v=some a->v=enc a
def Zrc (c:Cel) (κ:Kd) (get:c.α->AV) (h:∀ x,c.enc x=[get x]):Val where
 α:=c.α
 kd:=κ
 enc:=get
 dec v:=c.dec [v]
 law:=by
   intro v a hv
   have:=c.law _ _ hv
   rw [h] at this
   exact (List.cons.inj this).1
def Zad (k:IntKind):Val:=Zrc (Zao k) .any (fun x=>.int k x) (fun _=>rfl)
def ZaF:Val:=Zrc celBool .any (fun x=>.bool x) (fun _=>rfl)
def Zax (τ:Ty):Val:=Zrc (Zbb τ) (.lst τ) (fun x=>.lst τ x) (fun _=>rfl)
def ZaN (e:TypeId) (τ:Ty):Val:=Zrc (ZaL e τ) (.own e τ) (fun x=>.ownv e τ x) (fun _=>rfl)
def ZA2:Val where
 α:=Unit
 kd:=.nil
 enc _:=.emp
 dec
   | .emp=>some ()
   | _=>none
 law:=by
   intro v a h
   split at h
   . rfl
   . cases h
def ZFc (c:Cel):Val where
 α:=c.α
 kd:=.any
 enc x:=.cptr (c.enc x) 0
 dec
   | .cptr cs 0=>c.dec cs
   | _=>none
 law:=by
   intro v a h
   split at h
   . rw [<- c.law _ _ h]
   . cases h
def Zaq (c:Cel):Val where
 α:=c.α
 kd:=.box c.kds
 enc x:=.agg (c.enc x)
 dec
   | .agg cs=>c.dec cs
   | _=>none
 law:=by
   intro v a h
   split at h
   . rw [<- c.law _ _ h]
   . cases h
structure Vals where
  α:Type
  kds:List Kd
  enc:α->List AV
  dec:List AV->Option α
  law:∀ cs a,dec cs=some a->cs=enc a
def ZbG:Vals where
 α:=Unit
 kds:=[]
 enc _:=[]
 dec
   | []=>some ()
   | _=>none
 law:=by
   intro cs a h
   split at h
   . rfl
   . cases h
def Zac (v:Val):Vals where
 α:=v.α
 kds:=[v.kd]
 enc x:=[v.enc x]
 dec
   | [x]=>v.dec x
   | _=>none
 law:=by
   intro cs a h
   split at h
   . rw [<- v.law _ _ h]
   . cases h
def Zaa (v:Val) (r:Vals):Vals where
 α:=v.α×r.α
 kds:=v.kd::r.kds
 enc x:=v.enc x.1::r.enc x.2
 dec
   | x :: cs => match v.dec x with
     | some a => match r.dec cs with
       | some b=>some (a,b)
       | none=>none
     | none=>none
   | _=>none
 law:=by
   intro cs p h
   split at h
   . split at h
     . rename_i a ha
       split at h
       . rename_i b hb
         obtain rfl:=Option.some.inj h
         rw [<- v.law _ _ ha,<- r.law _ _ hb]
       . cases h
     . cases h
   . cases h
structure ResV where
  α:Type
  kds:List Kd
  enc:α->AV
  dec:AV->Option α
  law:∀ v a,dec v=some a->v=enc a
def Zav (v:Val):ResV:=⟨v.α,[v.kd],v.enc,v.dec,v.law⟩
def Zbp (v:Vals):ResV where
 α:=v.α
 kds:=v.kds
 enc x:=.tup (v.enc x)
 dec
   | .tup cs=>v.dec cs
   | _=>none
 law:=by
   intro x a h
   split at h
   . rw [<- v.law _ _ h]
   . cases h
def Zas (a:Vals) (r:ResV) (fn:a.α->Option r.α):Spec:=⟨a.kds,a.α,r.α,a.dec,fn,r.enc,false⟩
def ZtL (a:Vals) (r:ResV) (fn:a.α->Option r.α):Spec:=⟨a.kds,a.α,r.α,a.dec,fn,r.enc,true⟩
theorem Zai {V:Env} {L:Nat->Option LSpec} {f:FuncId} {rounds depth:Nat} {a:Vals} {r:ResV} {fn:a.α->Option r.α} (hG:Zaj V)
   (hL:∀ fn c,V.P.funcs[f]?=some fn->fn.body=some c->∀ c'∈Za9 c,∀ s,L (ZaP c')=some s->LoopOK V fn.ntmps s c')
   (heq:∀ x,ZnY V L rounds depth f r.kds (a.enc x) r.dec=fn x):Zar V.P f (Zas a r fn) :=
 ZxN (s:=Zas a r fn) (argsOf:=a.enc) (dres:=r.dec) hG hL a.law r.law heq
theorem ZyM {V:Env} {L:Nat->Option LSpec} {f:FuncId} {rounds depth:Nat} {a:Vals} {r:ResV} {fn:a.α->Option r.α} (hG:Zaj V)
   (hL:∀ fn c,V.P.funcs[f]?=some fn->fn.body=some c->∀ c'∈Za9 c,∀ s,L (ZaP c')=some s->LoopOK V fn.ntmps s c')
   (heq:∀ x,ZnY V L rounds depth f r.kds (a.enc x) r.dec=fn x):Zar V.P f (ZtL a r fn) :=
 ZxN (s:=ZtL a r fn) (argsOf:=a.enc) (dres:=r.dec) hG hL a.law r.law heq
end Go.Proofs.Mill
namespace Go.Proofs.Mill
def Zea:Cel:=Zbc (Zae (Zao .i64) (Zao .i64)) Op (fun y=>⟨y.1,y.2⟩) (fun x=>(x.tag,x.v)) (fun _=>rfl)
def ZmD:Cel:=Zbc (Zae (Zao .i64) (Zae (Zao .i64) (Zae (Zao .i64) (Zae Zea (Zae (Zao .i64) (Zae celBool (Zao .i64))))))) Event (fun y=>⟨y.1,y.2.1,y.2.2.1,y.2.2.2.1,y.2.2.2.2.1,y.2.2.2.2.2.1,y.2.2.2.2.2.2⟩) (fun x=>(x.kind,(x.t,(x.item,(x.op,(x.prior,(x.did,x.step))))))) (fun _=>rfl)
def Za8:Cel:=Zbc (Zae (Zao .i64) (Zae (Zao .i64) (Zae Zea (Zae (Zbb .entry) (Zae (Zbb .kid) (Zae (Zbb .int) (Zae (Zao .i64) (Zae (Zao .i64) (Zae (Zao .i64) (Zae (Zao .i64) (Zae (Zao .i64) (Zae (Zao .i64) (Zae (Zao .i64) (Zae (Zao .i64) (Zae (Zao .i64) (Zao .i64)))))))))))))))) Thread (fun y=>⟨y.1,y.2.1,y.2.2.1,y.2.2.2.1,y.2.2.2.2.1,y.2.2.2.2.2.1,y.2.2.2.2.2.2.1,y.2.2.2.2.2.2.2.1,y.2.2.2.2.2.2.2.2.1,y.2.2.2.2.2.2.2.2.2.1,y.2.2.2.2.2.2.2.2.2.2.1,y.2.2.2.2.2.2.2.2.2.2.2.1,y.2.2.2.2.2.2.2.2.2.2.2.2.1,y.2.2.2.2.2.2.2.2.2.2.2.2.2.1,y.2.2.2.2.2.2.2.2.2.2.2.2.2.2.1,y.2.2.2.2.2.2.2.2.2.2.2.2.2.2.2⟩) (fun x=>(x.phase,(x.item,(x.op,(x.batch,(x.kids,(x.held,(x.stop,(x.node,(x.at_,(x.layer,(x.left,(x.width,(x.who,(x.x,(x.y,x.until_)))))))))))))))) (fun _=>rfl)
def ZnA:Cel:=Zbc (Zae (Zao .i64) (Zae (Zao .i64) (Zae (Zao .i64) Zea))) SEntry (fun y=>⟨y.1,y.2.1,y.2.2.1,y.2.2.2⟩) (fun x=>(x.kind,(x.t,(x.item,x.op)))) (fun _=>rfl)
structure Config where
  threads:Int
  items:Int
  backend:Int
  depth:Int
  layers:Int
  width:Int
  spin:Int
  wait:Int
  bounded:Bool
  lo:Int
  hi:Int
  init:Int
def celConfig:Cel:=Zbc (Zae (Zao .i64) (Zae (Zao .i64) (Zae (Zao .i64) (Zae (Zao .i64) (Zae (Zao .i64) (Zae (Zao .i64) (Zae (Zao .i64) (Zae (Zao .i64) (Zae celBool (Zae (Zao .i64) (Zae (Zao .i64) (Zao .i64)))))))))))) Config (fun y=>⟨y.1,y.2.1,y.2.2.1,y.2.2.2.1,y.2.2.2.2.1,y.2.2.2.2.2.1,y.2.2.2.2.2.2.1,y.2.2.2.2.2.2.2.1,y.2.2.2.2.2.2.2.2.1,y.2.2.2.2.2.2.2.2.2.1,y.2.2.2.2.2.2.2.2.2.2.1,y.2.2.2.2.2.2.2.2.2.2.2⟩) (fun x=>(x.threads,(x.items,(x.backend,(x.depth,(x.layers,(x.width,(x.spin,(x.wait,(x.bounded,(x.lo,(x.hi,x.init)))))))))))) (fun _=>rfl)
structure Memo where
  words:List Int
  boxes:List (List Entry)
def ZaD:Cel:=Zbc (Zae (Zbb .int) (Zbb (.lst .entry))) Memo (fun y=>⟨y.1,y.2⟩) (fun x=>(x.words,x.boxes)) (fun _=>rfl)
structure Tape where
  l:List Int
  at_:Int
def Zbo:Cel:=Zbc (Zae (Zbb .int) (Zao .i64)) Tape (fun y=>⟨y.1,y.2⟩) (fun x=>(x.l,x.at_)) (fun _=>rfl)
structure Turn where
  c:Config
  t:Int
  now:Int
  m:Memo
  th:Thread
  tape:Tape
  log:List Mark
  done:Bool
def Zau:Cel:=Zbc (Zae celConfig (Zae (Zao .i64) (Zae (Zao .i64) (Zae ZaD (Zae Za8 (Zae Zbo (Zae (Zbb .mark) celBool))))))) Turn (fun y=>⟨y.1,y.2.1,y.2.2.1,y.2.2.2.1,y.2.2.2.2.1,y.2.2.2.2.2.1,y.2.2.2.2.2.2.1,y.2.2.2.2.2.2.2⟩) (fun x=>(x.c,(x.t,(x.now,(x.m,(x.th,(x.tape,(x.log,x.done)))))))) (fun _=>rfl)
structure Said where
  kind:Int
  n:Int
def Zyl:Cel:=Zbc (Zae (Zao .i64) (Zao .i64)) Said (fun y=>⟨y.1,y.2⟩) (fun x=>(x.kind,x.n)) (fun _=>rfl)
structure Plan where
  nodes:Int
  slots:Int
  block:Int
  lines:Int
def ZEb:Cel:=Zbc (Zae (Zao .i64) (Zae (Zao .i64) (Zae (Zao .i64) (Zao .i64)))) Plan (fun y=>⟨y.1,y.2.1,y.2.2.1,y.2.2.2⟩) (fun x=>(x.nodes,(x.slots,(x.block,x.lines)))) (fun _=>rfl)
structure Asked where
  op:Op
  item:Int
structure Shut where
  who:Int
  so:Int
  no:Int
structure Wld where
  c:Config
  m:Memo
  t:List Thread
  now:Int
  steps:Int
  tape:Tape
  log:List Mark
  hist:List Event
def ZaO:Cel:=Zbc (Zae celConfig (Zae ZaD (Zae (Zbb .thread) (Zae (Zao .i64) (Zae (Zao .i64) (Zae Zbo (Zae (Zbb .mark) (Zbb .event)))))))) Wld (fun y=>⟨y.1,y.2.1,y.2.2.1,y.2.2.2.1,y.2.2.2.2.1,y.2.2.2.2.2.1,y.2.2.2.2.2.2.1,y.2.2.2.2.2.2.2⟩) (fun x=>(x.c,(x.m,(x.t,(x.now,(x.steps,(x.tape,(x.log,x.hist)))))))) (fun _=>rfl)
def Zce:Entry:=⟨0,⟨0,0⟩⟩
def dKid:Kid:=⟨0,0⟩
def Za4:Mark:=⟨0,0,⟨0,0⟩,0,0⟩
def Zbv:Event:=⟨0,0,0,⟨0,0⟩,0,false,0⟩
def Zaw:Thread:=⟨0,0,⟨0,0⟩,[],[],[],0,0,0,0,0,0,0,0,0,0⟩
def Za6:SEntry:=⟨0,0,0,⟨0,0⟩⟩
end Go.Proofs.Mill
namespace Go.Proofs.Mill
open Go.RowKit
def assoc:List (FuncId×Spec)->FuncId->Option Spec
 | [],_=>none
 | p::r,f=>bif Nat.beq p.1 f then some p.2 else assoc r f
def ZoQ (P:Program):List FuncId->Bool
 | []=>true
 | f::r=>bif (match P.funcs[f]? with | some fn=>!fn.body.isNone && !(fn.name == "runtime.NumGoroutine") | none=>false) then ZoQ P r else false
def squash:List (Nat×AV)->Wr
 | []=>[]
 | p::r=>p::(squash r).filter fun q=>!(Nat.beq q.1 p.1)
def Ztf (V:Env) (rounds depth:Nat) (f:FuncId) (fid:Nat) (args:List AV):Option (AV×Wr) :=
 bif V.ent f then (match fnK V (fun _=>none) (inlK V rounds depth) rounds f fid args [] (fun v ob=>some (v,squash ob)) with | some p=>(bif ZgN p.2 then some p else none) | none=>none) else none
def env0 (P:Program) (E:TypeId->Option Ty) (hi:Nat) (l:List (FuncId×Spec)):Env:=⟨P,E,assoc l,fun f=>Nat.ble 3 f && Nat.blt f hi,fun _ _ _=>none,fun _=>false,fun _=>none,fun _=>false⟩
def Zzf (P:Program) (E:TypeId->Option Ty) (hi:Nat) (l:List (FuncId×Spec)) (mv:FuncId->Bool:=fun _=>false):Env :=
 ⟨P,E,assoc l,fun f=>Nat.ble 3 f && Nat.blt f hi,Ztf (env0 P E hi l) 20 6,mv,fun _=>none,fun _=>false⟩
def ZAx:List (FuncId×XSpec)->FuncId->Option XSpec
 | [],_=>none
 | p::r,f=>bif Nat.beq p.1 f then some p.2 else ZAx r f
def envX (P:Program) (E:TypeId->Option Ty) (hi:Nat) (l:List (FuncId×Spec)) (xs:List (FuncId×XSpec)) (walk:FuncId->Bool:=fun _=>false):Env :=
 ⟨P,E,assoc l,fun f=>Nat.ble 3 f && Nat.blt f hi,Ztf (env0 P E hi l) 20 6,fun _=>false,ZAx xs,walk⟩
theorem ZsQ:∀ (ob:List (Nat×AV)) (p:Nat×AV),p∈squash ob->look ob p.1=p.2
 | [],_,h=>by cases h
 | q :: r, p, h => by
   rcases List.mem_cons.1 h with rfl | h
   . exact look_eq _ _ _
   . obtain ⟨h1,h2⟩:=List.mem_filter.1 h
     have hne:q.1≠p.1:=by
       intro e
       rw [e] at h2
       simp at h2
     rw [Za1 _ _ hne]
     exact ZsQ r p h1
theorem Zqu:∀ (ob:List (Nat×AV)),((squash ob).map (·.1)).Nodup
 | []=>by simp [squash]
 | q :: r => by
   show (q.1::((squash r).filter fun x=>!(Nat.beq x.1 q.1)).map (·.1)).Nodup
   rw [List.nodup_cons]
   refine ⟨fun hm=>?_,?_⟩
   . obtain ⟨p,hp,he⟩:=List.mem_map.1 hm
     have:=(List.mem_filter.1 hp).2
     rw [he] at this
     simp at this
   . exact (Zqu r).sublist (List.Sublist.map _ List.filter_sublist)
theorem Zs4:∀ (ob:List (Nat×AV)) (i:Nat),look ob i≠.undef->∃ p∈squash ob,p.1=i
 | [],i,h=>(h rfl).elim
 | q :: r, i, h => by
   by_cases e:q.1=i
   . exact ⟨q,by simp [squash],e⟩
   . obtain ⟨j,o⟩:=q
     rw [Za1 _ _ e] at h
     obtain ⟨p,hp,he⟩:=Zs4 r i h
     refine ⟨p,?_,he⟩
     refine List.mem_cons_of_mem _ (List.mem_filter.2 ⟨hp,?_⟩)
     have hf:Nat.beq p.1 j=false:=by
       cases hb:Nat.beq p.1 j with
       | false=>rfl
       | true=>exact (e ((Nat.eq_of_beq_eq_true hb).symm.trans he)).elim
     simp only [hf,Bool.not_false]
theorem ZrU (ob:List (Nat×AV)):look (ZaI (squash ob) [])=look ob:=by
 funext i
 by_cases h:∃ p∈squash ob,p.1=i
 . obtain ⟨p,hp,rfl⟩:=h
   rw [ZcU _ _ p (Zqu ob) hp,ZsQ ob p hp]
 . rw [Zcm _ _ _ (fun p hp e=>h ⟨p,hp,e⟩)]
   apply Classical.byContradiction
   intro hne
   exact h (Zs4 ob i (fun e=>hne (by rw [e];rfl)))
theorem ZAX {V:Env} {rounds depth:Nat} (hG:Zaj V):Zv2 V.P (Ztf V rounds depth):=by
 intro f fid args v ws h
 unfold Ztf at h
 cases he:V.ent f with
 | false=>rw [he] at h;cases h
 | true =>
   rw [he] at h
   simp only [cond_true] at h
   split at h
   case h_2=>cases h
   rename_i p hp
   cases hn:ZgN p.2 with
   | false=>rw [hn] at h;cases h
   | true =>
   rw [hn] at h
   simp only [cond_true,Option.some.injEq] at h
   subst h
   have h:=hp
   have hn:ZgN ws=true:=hn
   have key:∀ (w:World) (ok:Nat->Prop) (vals:Array Value),VL (pcx w ok) args vals.toList->Calls V.P f vals w fun e w'=>∃ v' u ob' mu',e=.returned u /\
       Mem w (cx w' ob' mu' fun b=>ok b\/w.heap.size<=b)/\T (cx w' ob' mu' fun b=>ok b\/w.heap.size<=b)/\Mill.V (cx w' ob' mu' fun b=>ok b\/w.heap.size<=b) v' u/\some (v',squash ob')=some (v,ws):=by
     intro w ok vals hv
     have hm:Mem w (cx w [] (fun _=>none) fun b=>ok b\/w.heap.size<=b) :=
       ⟨fun _=>rfl,fun _ _ _ h=>(by cases h),fun _ _ h=>(by cases h),Below.refl _ _,fun b hb=>.inl (.inr hb)⟩
     have hmono:Mono (pcx w ok) (cx w [] (fun _=>none) fun b=>ok b\/w.heap.size<=b):=Zc0 (fun b hb=>⟨⟨.inl hb.1,hb.2.1,hb.2.2⟩,rfl⟩) (fun id=>.inl rfl) (fun _ _ h=>⟨h,rfl⟩)
     exact ZwT (J:=T) hG (Zb8 hG depth) Stays.triv (fun _ _ _ _=>trivial) Zam hm (hmono.vl _ _ hv) trivial h
   refine ⟨hG.2.2.1 f he,ZiT _ hn,fun w ok vals hv=>(key w ok vals hv).mono fun e w' he=>?_⟩
   . obtain ⟨v',u,ob',mu',rfl,hm',_,hv',hk⟩:=he
     simp only [Option.some.injEq,Prod.mk.injEq] at hk
     obtain ⟨rfl,rfl⟩:=hk
     exact ⟨u,mu',rfl,by unfold cx at hm' ⊢;rw [ZrU];exact hm',by unfold cx at hv' ⊢;rw [ZrU];exact hv'⟩
def ZsU (P:Program) (hi:Nat) (l:List (FuncId×Spec)):Prop:=∀ p∈l,Zar P p.1 p.2/\(Nat.ble 3 p.1 && Nat.blt p.1 hi)=true
theorem Zag {P:Program} {hi:Nat}:ZsU P hi []:=fun _ h=>by cases h
theorem Zab {P:Program} {hi:Nat} {f:FuncId} {s:Spec} {l:List (FuncId×Spec)} (h:Zar P f s) (hf:(Nat.ble 3 f && Nat.blt f hi)=true) (k:ZsU P hi l):ZsU P hi ((f,s)::l):=by
 intro p hp
 rcases List.mem_cons.1 hp with rfl | hp
 . exact ⟨h,hf⟩
 . exact k p hp
theorem ZuB {P:Program}:∀ (l:List FuncId),ZoQ P l=true->∀ f∈l,Ze5 P f
 | [],_,_,h=>by cases h
 | g :: r, h, f, hf => by
   unfold ZoQ at h
   generalize hb:(match P.funcs[g]? with | some fn=>!fn.body.isNone && !(fn.name == "runtime.NumGoroutine") | none=>false)=b at h
   cases b with
   | false=>cases h
   | true =>
     rcases List.mem_cons.1 hf with rfl | hf
     . split at hb
       . rename_i fn hfn
         simp only [Bool.and_eq_true,Bool.not_eq_true'] at hb
         exact ⟨fn,hfn,hb.1,hb.2⟩
       . cases hb
     . exact ZuB r h f hf
theorem ZuC:∀ {l:List (FuncId×Spec)} {f:FuncId} {s:Spec},assoc l f=some s->(f,s)∈l
 | [],_,_,h=>by cases h
 | p :: r, f, s, h => by
   unfold assoc at h
   cases hb:Nat.beq p.1 f with
   | true =>
     rw [hb] at h
     have hb:=Nat.eq_of_beq_eq_true hb
     obtain rfl:=Option.some.inj h
     subst hb
     simp
   | false =>
     rw [hb] at h
     exact List.mem_cons_of_mem _ (ZuC h)
theorem Zan {P:Program} {E:TypeId->Option Ty} {hi:Nat} {l:List (FuncId×Spec)} {mv:FuncId->Bool} (hm:P.follows .mixedOrders=true) (he:ZoQ P (List.range' 3 (hi-3))=true) (h:ZsU P hi l) :
   Zaj (Zzf P E hi l mv):=by
 have hent:∀ f,(Nat.ble 3 f && Nat.blt f hi)=true->Ze5 P f:=by
   intro f hf
   simp only [Bool.and_eq_true] at hf
   have h1:=Nat.le_of_ble_eq_true hf.1
   have h2:=hf.2
   rw [Nat.blt_eq] at h2
   exact ZuB _ he f (by rw [List.mem_range'_1];omega)
 have hsp:∀ f s,assoc l f=some s->Zar P f s/\Ze5 P f:=by
   intro f s hs
   have:=h _ (ZuC hs)
   exact ⟨this.1,hent f this.2⟩
 have x0:XOK P (fun _=>none):=fun f s h=>by cases h
 have h0:Zaj (env0 P E hi l):=⟨hsp,hm,hent,(fun _ _ _ _ _ h=>by cases h),x0⟩
 exact ⟨hsp,hm,hent,ZAX h0,x0⟩
def ZDC (P:Program) (f:FuncId) (s:XSpec):Prop:=∀ fid args ob y post,s.pre fid args ob=some (some y,post) ->
 ∀ (w0 : World) (ok : Nat -> Prop) (w : World) (mu : Nat -> Option Nat) (vals : Array Value), Mem w0 (cx w ob mu ok) -> VL (cx w ob mu ok) args vals.toList ->
   Calls P f vals w fun e w'=>∃ u mu',e=.returned u/\Mem w0 (cx w' (post y).2 mu' ok)/\Mono (cx w ob mu ok) (cx w' (post y).2 mu' ok)/\V (cx w' (post y).2 mu' ok) (post y).1 u
theorem Zwy {P:Program} {E:TypeId->Option Ty} {hi:Nat} {l:List (FuncId×Spec)} {f:FuncId} {x:XSpec} {walk:FuncId->Bool} (hm:P.follows .mixedOrders=true) (he:ZoQ P (List.range' 3 (hi-3))=true) (h:ZsU P hi l)
   (hf:(Nat.ble 3 f && Nat.blt f hi)=true) (hx:ZDC P f x):Zaj (envX P E hi l [(f,x)] walk):=by
 obtain ⟨h1,h2,h3,h4,_⟩:=Zan (E:=E) (mv:=fun _=>false) hm he h
 refine ⟨h1,h2,h3,h4,fun g s hs=>?_⟩
 have hs:(bif Nat.beq f g then some x else none)=some s:=hs
 cases hb:Nat.beq f g with
 | false=>rw [hb] at hs;cases hs
 | true =>
   rw [hb] at hs
   obtain rfl:=Option.some.inj hs
   have hb:=Nat.eq_of_beq_eq_true hb
   subst hb
   exact ⟨h3 f hf,hx⟩
end Go.Proofs.Mill
namespace Go.Proofs.Mill
open Go.RowKit
def Zvr (j off:Nat):Val where
 α:=Unit
 kd:=.al j off
 enc _:=Zre j off
 dec
   | .ptr a o=>bif Nat.beq a ((1024+j)*64) && Nat.beq o off then some () else none
   | _=>none
 law:=by
   intro v a h
   split at h
   . rename_i b o
     cases hb:(Nat.beq b ((1024+j)*64) && Nat.beq o off) with
     | false=>rw [hb] at h;cases h
     | true =>
       simp only [Bool.and_eq_true] at hb
       have h1:=Nat.eq_of_beq_eq_true hb.1
       have h2:=Nat.eq_of_beq_eq_true hb.2
       subst h1 h2
       rfl
   . cases h
def Zak (c:Cel):Val where
 α:=c.α
 kd:=.box c.kds
 enc x:=.box (c.enc x)
 dec
   | .box cs=>c.dec cs
   | _=>none
 law:=by
   intro v a h
   split at h
   . rw [<- c.law _ _ h]
   . cases h
def Ex.same:Ex->Ex->Bool
 | .normal,.normal=>true
 | .exit a,.exit b=>Nat.beq a b
 | .goto a,.goto b=>Nat.beq a b
 | .ret,.ret=>true
 | _,_=>false
theorem Ex.same_eq {a b:Ex} (h:a.same b=true):a=b:=by
 cases a <;> cases b <;> first | rfl | (cases h;done) | (rw [Nat.eq_of_beq_eq_true h])
structure Way where
  e:Ex
  ts:List Nat
  v:Vals
def ZbY (ts:List Nat) (v:Vals) (a:Way) (run:v.α->Option a.v.α):LSpec where
 keep:=ts.zip v.kds
 σ:=v.α
 ρ:=a.v.α
 dec:=v.dec
 run:=run
 enc y:=(a.e,a.v.enc y)
 keepX _:=a.ts.zip a.v.kds
 out _ y k:=k a.e (a.v.enc y)
 law _ _ _:=rfl
def dex1 (a:Way) (e:Ex) (hd:List AV):Option a.v.α:=bif e.same a.e then a.v.dec hd else none
def Zds (ts:List Nat) (v:Vals) (a b:Way) (run:v.α->Option (a.v.α⊕b.v.α)):LSpec where
 keep:=ts.zip v.kds
 σ:=v.α
 ρ:=a.v.α⊕b.v.α
 dec:=v.dec
 run:=run
 enc
   | .inl y=>(a.e,a.v.enc y)
   | .inr y=>(b.e,b.v.enc y)
 keepX e:=bif e.same a.e then a.ts.zip a.v.kds else b.ts.zip b.v.kds
 out _ y k:=match y with
   | .inl y=>k a.e (a.v.enc y)
   | .inr y=>k b.e (b.v.enc y)
 law _ y _:=by cases y <;> rfl
def dex2 (a b:Way) (e:Ex) (hd:List AV):Option (a.v.α⊕b.v.α) := bif e.same a.e then (match a.v.dec hd with | some y=>some (.inl y) | none=>none) else bif e.same b.e then (match b.v.dec hd with | some y=>some (.inr y) | none=>none) else none
def Zzy (e:Ex):Bool:=match e with | .normal=>false | _=>true
theorem Zbe {V:Env} {L:Nat->Option LSpec} {nt rounds depth:Nat} {ts:List Nat} {v:Vals} {a:Way} {step:v.α->Option (v.α⊕a.v.α)} {c:Code}
   (hG:Zaj V) (ha:Zzy a.e=true) (hin:∀ c'∈Za9 c,∀ s,L (ZaP c')=some s->LoopOK V nt s c')
   (hstep:∀ x,evK V L (inlK V rounds depth) 1 nt rounds c (build (ts.zip v.kds) (v.enc x)) (ZgJ (ts.zip v.kds) (fun _=>a.ts.zip a.v.kds) v.dec (dex1 a))=step x) (hr:ZoE c=true:=by kernel_rfl) :
   LoopOK V nt (ZbY ts v a (Zay step)) c :=
 Zx0 (s:=ZbY ts v a (Zay step)) (fid:=1) (hdOf:=v.enc) (dex:=dex1 a) hG v.law (fun e hd y h=>by
   unfold dex1 at h
   cases he:e.same a.e with
   | false=>rw [he] at h;cases h
   | true =>
     rw [he] at h
     have h:a.v.dec hd=some y:=h
     have he:=Ex.same_eq he
     subst he
     refine ⟨fun hn=>(by rw [hn] at ha;cases ha),?_⟩
     show (a.e,a.v.enc y)=_
     rw [<- a.v.law _ _ h]) (fun _=>rfl) hin hstep hr
theorem Zcv {V:Env} {L:Nat->Option LSpec} {nt rounds depth:Nat} {ts:List Nat} {v:Vals} {a b:Way} {step:v.α->Option (v.α⊕(a.v.α⊕b.v.α))} {c:Code}
   (hG:Zaj V) (ha:Zzy a.e=true) (hb:Zzy b.e=true) (hin:∀ c'∈Za9 c,∀ s,L (ZaP c')=some s->LoopOK V nt s c')
   (hstep:∀ x,evK V L (inlK V rounds depth) 1 nt rounds c (build (ts.zip v.kds) (v.enc x))
     (ZgJ (ts.zip v.kds) (fun e=>bif e.same a.e then a.ts.zip a.v.kds else b.ts.zip b.v.kds) v.dec (dex2 a b))=step x) (hr:ZoE c=true:=by kernel_rfl) :
   LoopOK V nt (Zds ts v a b (Zay step)) c :=
 Zx0 (s:=Zds ts v a b (Zay step)) (fid:=1) (hdOf:=v.enc) (dex:=dex2 a b) hG v.law (fun e hd y h=>by
   unfold dex2 at h
   cases he:e.same a.e with
   | true =>
     rw [he] at h
     simp only [cond_true] at h
     have he:=Ex.same_eq he
     subst he
     split at h
     . rename_i z hz
       obtain rfl:=Option.some.inj h
       refine ⟨fun hn=>(by rw [hn] at ha;cases ha),?_⟩
       show (a.e,a.v.enc z)=_
       rw [<- a.v.law _ _ hz]
     . cases h
   | false =>
     rw [he] at h
     simp only [cond_false] at h
     cases he2:e.same b.e with
     | false=>rw [he2] at h;cases h
     | true =>
       rw [he2] at h
       simp only [cond_true] at h
       have he2:=Ex.same_eq he2
       subst he2
       split at h
       . rename_i z hz
         obtain rfl:=Option.some.inj h
         refine ⟨fun hn=>(by rw [hn] at hb;cases hb),?_⟩
         show (b.e,b.v.enc z)=_
         rw [<- b.v.law _ _ hz]
       . cases h) (fun _=>rfl) hin hstep hr
def ZaB:List (Nat×LSpec)->Nat->Option LSpec
 | [],_=>none
 | p::r,i=>bif Nat.beq p.1 i then some p.2 else ZaB r i
def ZoC (V:Env) (nt:Nat) (f:FuncId) (l:List (Nat×LSpec)):Prop:=∀ p∈l,LoopOK V nt p.2 (ZaW V.P f p.1)
theorem ZaH {V:Env} {nt:Nat} {f:FuncId}:ZoC V nt f []:=fun _ h=>by cases h
theorem Zaz {V:Env} {nt:Nat} {f:FuncId} {i:Nat} {s:LSpec} {l:List (Nat×LSpec)} (h:LoopOK V nt s (ZaW V.P f i)) (k:ZoC V nt f l):ZoC V nt f ((i,s)::l):=by
 intro p hp
 rcases List.mem_cons.1 hp with rfl | hp
 . exact h
 . exact k p hp
theorem Zpe:∀ {l:List (Nat×LSpec)} {i:Nat} {s:LSpec},ZaB l i=some s->(i,s)∈l
 | [],_,_,h=>by cases h
 | p :: r, i, s, h => by
   unfold ZaB at h
   cases hb:Nat.beq p.1 i with
   | true =>
     rw [hb] at h
     have hb:=Nat.eq_of_beq_eq_true hb
     obtain rfl:=Option.some.inj h
     subst hb
     simp
   | false =>
     rw [hb] at h
     exact List.mem_cons_of_mem _ (Zpe h)
theorem ZaZ {V:Env} {f:FuncId} {nt:Nat} {l:List (Nat×LSpec)} (ha:ZlO V.P f=true) (hnt:∀ fn,V.P.funcs[f]?=some fn->fn.ntmps=nt) (h:ZoC V nt f l) :
   ∀ fn c,V.P.funcs[f]?=some fn->fn.body=some c->∀ c'∈Za9 c,∀ s,ZaB l (ZaP c')=some s->LoopOK V fn.ntmps s c' :=
 ZCr ha hnt fun _ _ hs=>h _ (Zpe hs)
theorem Zsj {V:Env} {f:FuncId} {nt i:Nat} {l:List (Nat×LSpec)} (ha:ZlO V.P f=true) (h:ZoC V nt f l) :
   ∀ c'∈Za9 (ZaW V.P f i),∀ s,ZaB l (ZaP c')=some s->LoopOK V nt s c' :=
 ZBL ha fun _ _ _ hs=>h _ (Zpe hs)
theorem ZaE {V:Env} {nt:Nat} {c:Code}:∀ c'∈Za9 c,∀ s,ZaB [] (ZaP c')=some s->LoopOK V nt s c':=fun _ _ _ h=>by cases h
def ntB (P:Program) (f:FuncId) (nt:Nat):Bool:=match P.funcs[f]? with | some fn=>Nat.beq fn.ntmps nt | none=>true
theorem Zbh {P:Program} {f:FuncId} {nt:Nat} (h:ntB P f nt=true):∀ fn,P.funcs[f]?=some fn->fn.ntmps=nt:=by
 intro fn hf
 unfold ntB at h
 rw [hf] at h
 exact Nat.eq_of_beq_eq_true h
theorem Zr7 {V:Env} {L:Nat->Option LSpec} {f:FuncId} {rounds depth:Nat} {τ:Ty} {r:ResV} {fn:List τ.den->Option r.α} (hG:Zaj V)
   (hL:∀ fn c,V.P.funcs[f]?=some fn->fn.body=some c->∀ c'∈Za9 c,∀ s,L (ZaP c')=some s->LoopOK V fn.ntmps s c')
   (h1:ZnY V L rounds depth f r.kds [.emp] r.dec=fn []) (h2:∀ xs,ZnY V L rounds depth f r.kds [.lstn τ xs] r.dec=fn xs) :
   Zar V.P f (Zas (Zac (Zax τ)) r fn):=by
 intro w0 ok avs args a b hd hb hv
 have hd:=(Zac (Zax τ)).law _ _ hd
 subst hd
 obtain ⟨u,us,hu,h3,h4⟩:=Zbk (show VL (pcx w0 ok) [AV.lst τ a] args.toList from hv)
 have h4:=ZbO h4
 subst h4
 have fin:∀ {avs:List AV},VL (pcx w0 ok) avs args.toList->ZnY V L rounds depth f r.kds avs r.dec=some b ->
     Calls V.P f args w0 fun e w'=>∃ v,e=.returned v/\Below w0.heap.size w0 w'/\Res w0 ok w' (r.enc b) v:=by
   intro avs hv' hr
   refine (ZvJ hG hL hv' hr).mono fun e w' he=>?_
   obtain ⟨v,u,rfl,k1,k2,k3⟩:=he
   rw [r.law _ _ k3] at k2
   exact ⟨u,rfl,k1,k2⟩
 by_cases hn:u=.slice none 0 0
 . have ha:a=[]:=by
     have h3:(pcx w0 ok).DV (.lst τ.sz (a.map τ.enc)) u:=h3
     unfold Cx.DV at h3
     generalize he:D.lst τ.sz (a.map τ.enc)=d at h3
     rw [hn] at h3
     cases h3 with
     | nil sz A c hA =>
       injection he with _ he
       exact List.map_eq_nil_iff.1 he
   subst ha
   exact fin (avs:=[.emp]) (by rw [hu,hn];exact ⟨rfl,trivial⟩) (h1.trans hb)
 . exact fin (avs:=[.lstn τ a]) (by rw [hu];exact ⟨⟨h3,hn⟩,trivial⟩) ((h2 a).trans hb)
end Go.Proofs.Mill
