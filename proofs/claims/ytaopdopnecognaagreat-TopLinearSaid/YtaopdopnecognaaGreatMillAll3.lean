/- Parts of the proof: MillExpo, MillNorm, MillFreezeV, MillCode, MillTurn, MillFunc, MillSpec, MillCodec, MillTypes, MillEnv. -/
import Derived.Test.YtaopdopnecognaaGreatMillAll2
import Derived.Scope
import Derived.RangeFuncRecord
import Derived.RangeFuncOwn
import Derived.RangeFuncLeaves
set_option linter.all false
noncomputable section
namespace Go.Proofs.Mill
open Go.RowKit
def Zic (o:AV):Prop:=(∃ e τ,∃ xs:List τ.den,o=.row e τ xs)\/∃ cs,o=.box cs
def Ev (ob ob':List (Nat×AV)):Prop:=∀ i,look ob' i=look ob i\/(Zic (look ob i)/\look ob' i=.dead)\/∃ e τ,∃ xs:List τ.den,look ob i=.row e τ xs/\look ob' i=.frz τ xs
theorem Ev.refl (ob:List (Nat×AV)):Ev ob ob:=fun _=>.inl rfl
theorem Zfb:¬Zic .dead:=by rintro (⟨_,_,_,h⟩ | ⟨_,h⟩) <;> cases h
theorem ZjX {τ:Ty} {xs:List τ.den}:¬Zic (.frz τ xs):=by rintro (⟨_,_,_,h⟩ | ⟨_,h⟩) <;> cases h
theorem Ev.trans {a b c:List (Nat×AV)} (h:Ev a b) (k:Ev b c):Ev a c:=by
 intro i
 rcases h i with h1 | ⟨h1,h2⟩ | ⟨e,τ,xs,h1,h2⟩
 . rw [<- h1];exact k i
 . rcases k i with k1 | ⟨k1,_⟩ | ⟨_,_,_,k1,_⟩
   . exact .inr (.inl ⟨h1,k1.trans h2⟩)
   . rw [h2] at k1;exact (Zfb k1).elim
   . rw [h2] at k1;cases k1
 . rcases k i with k1 | ⟨k1,_⟩ | ⟨_,_,_,k1,_⟩
   . exact .inr (.inr ⟨e,τ,xs,h1,k1.trans h2⟩)
   . rw [h2] at k1;exact (ZjX k1).elim
   . rw [h2] at k1;cases k1
theorem Ev.dead {a b:List (Nat×AV)} (h:Ev a b) {i:Nat} (hd:look a i=.dead):look b i=.dead:=by
 rcases h i with h1 | ⟨h1,_⟩ | ⟨_,_,_,h1,_⟩
 . exact h1.trans hd
 . rw [hd] at h1;exact (Zfb h1).elim
 . rw [hd] at h1;cases h1
theorem Ev.frz {a b:List (Nat×AV)} (h:Ev a b) {i:Nat} {τ:Ty} {xs:List τ.den} (hd:look a i=.frz τ xs):look b i=.frz τ xs:=by
 rcases h i with h1 | ⟨h1,_⟩ | ⟨_,_,_,h1,_⟩
 . exact h1.trans hd
 . rw [hd] at h1;exact (ZjX h1).elim
 . rw [hd] at h1;cases h1
theorem Ev.alive {a b:List (Nat×AV)} (h:Ev a b) {i:Nat} (hd:Zic (look b i)):look b i=look a i:=by
 rcases h i with h1 | ⟨_,h2⟩ | ⟨_,_,_,_,h2⟩
 . exact h1
 . rw [h2] at hd;exact (Zfb hd).elim
 . rw [h2] at hd;exact (ZjX hd).elim
theorem Ev.kill {ob:List (Nat×AV)} {i:Nat} (h:Zic (look ob i)):Ev ob ((i,.dead)::ob):=by
 intro j
 by_cases e:i=j
 . subst e;exact .inr (.inl ⟨h,look_eq _ _ _⟩)
 . exact .inl (ZaQ _ _ e)
structure Cond (ob ob':List (Nat×AV)) (ws:Wr) (os:List (Option Nat)) (c1 c2:Cx):Prop where
  dv:∀ d v,c1.DV d v->c2.DV d v
  okb:∀ b,c1.okb b->c2.okb b
  world:c2.w=c1.w
  frz:∀ i τ (xs:List τ.den),look ob' i=.frz τ xs->c1.ob i=.frz τ xs
  old:∀ i,look ob' i=.dead->Zic (look ob i)->c1.ob i=look ob i
  new:∀ q∈ws.zip os,c2.ob q.1.1=q.1.2/\c2.mu q.1.1=q.2.bind c1.mu
structure Moves (cs ys:List AV) (ob ob':List (Nat×AV)) (ws:Wr) (os:List (Option Nat)):Prop where
  ev:Ev ob ob'
  len:os.length=ws.length
  alive:∀ i,some i∈os->Zic (look ob i)/\look ob' i=.dead
  nodup:(os.filterMap id).Nodup
  rows:∀ p∈ws,Zic p.2
  sends:∀ c1 c2,Cond ob ob' ws os c1 c2->(∀ us,VL c1 cs us->VL c2 ys us)/\((∀ i,ObjOK c1 i)->∀ p∈ws,ObjOK c2 p.1)
theorem Moves.nil (ob:List (Nat×AV)):Moves [] [] ob ob [] [] :=
 ⟨Ev.refl ob,rfl,fun _ h=>(by cases h),List.nodup_nil,fun _ h=>(by cases h),fun _ _ _=>⟨fun us h=>by rw [Zbo h];trivial,fun _ _ h=>(by cases h)⟩⟩
theorem Cond.left {ob ob1 ob':List (Nat×AV)} {ws1 ws2:Wr} {os1 os2:List (Option Nat)} {c1 c2:Cx} (h1:os1.length=ws1.length) (k:Ev ob1 ob')
   (h:Cond ob ob' (ws1++ws2) (os1++os2) c1 c2):Cond ob ob1 ws1 os1 c1 c2:=by
 refine ⟨h.dv,h.okb,h.world,fun i τ xs hi=>h.frz i τ xs (k.frz hi),fun i hd ha=>h.old i (k.dead hd) ha,fun q hq=>h.new q ?_⟩
 rw [List.zip_append h1.symm]
 exact List.mem_append_left _ hq
theorem Cond.right {ob ob1 ob':List (Nat×AV)} {ws1 ws2:Wr} {os1 os2:List (Option Nat)} {c1 c2:Cx} (h1:os1.length=ws1.length) (k:Ev ob ob1)
   (h:Cond ob ob' (ws1++ws2) (os1++os2) c1 c2):Cond ob1 ob' ws2 os2 c1 c2:=by
 refine ⟨h.dv,h.okb,h.world,h.frz,fun i hd ha=>?_,fun q hq=>h.new q ?_⟩
 . have e:=k.alive ha
   rw [e] at ha ⊢
   exact h.old i hd ha
 . rw [List.zip_append h1.symm]
   exact List.mem_append_right _ hq
theorem Moves.append {cs ys cs' ys':List AV} {ob ob1 ob':List (Nat×AV)} {ws1 ws2:Wr} {os1 os2:List (Option Nat)} (h:Moves cs ys ob ob1 ws1 os1) (k:Moves cs' ys' ob1 ob' ws2 os2) :
   Moves (cs++cs') (ys++ys') ob ob' (ws1++ws2) (os1++os2):=by
 refine ⟨h.ev.trans k.ev,by simp [h.len,k.len],fun i hi=>?_,?_,fun p hp=>?_,fun c1 c2 hc=>?_⟩
 . rcases List.mem_append.1 hi with hi | hi
   . obtain ⟨h1,h2⟩:=h.alive i hi
     exact ⟨h1,k.ev.dead h2⟩
   . obtain ⟨h1,h2⟩:=k.alive i hi
     exact ⟨by rw [<- h.ev.alive h1];exact h1,h2⟩
 . rw [List.filterMap_append,List.nodup_append]
   refine ⟨h.nodup,k.nodup,fun x hx y hy e=>?_⟩
   subst e
   have hx:some x∈os1:=by simpa using hx
   have hy:some x∈os2:=by simpa using hy
   have:=(k.alive x hy).1
   rw [(h.alive x hx).2] at this
   exact Zfb this
 . rcases List.mem_append.1 hp with hp | hp
   . exact h.rows p hp
   . exact k.rows p hp
 . obtain ⟨a1,b1⟩:=h.sends c1 c2 (hc.left h.len k.ev)
   obtain ⟨a2,b2⟩:=k.sends c1 c2 (hc.right h.len h.ev)
   refine ⟨fun us hu=>?_,fun ho p hp=>?_⟩
   . obtain ⟨u1,u2,rfl,h1,h2⟩:=hu.split
     exact (a1 _ h1).append (a2 _ h2)
   . rcases List.mem_append.1 hp with hp | hp
     . exact b1 ho p hp
     . exact b2 ho p hp
theorem Moves.plain {v x:AV} {ob:List (Nat×AV)} (h:∀ c1 c2:Cx,(∀ d v,c1.DV d v->c2.DV d v)->(∀ i τ (xs:List τ.den),look ob i=.frz τ xs->c1.ob i=.frz τ xs)->∀ u,V c1 v u->V c2 x u) :
   Moves [v] [x] ob ob [] [] :=
 ⟨Ev.refl ob,rfl,fun _ h=>(by cases h),List.nodup_nil,fun _ h=>(by cases h),fun c1 c2 hc=>⟨fun us hu=>by
   obtain ⟨u,us',rfl,h1,h2⟩:=Za6 hu
   rw [Zbo h2]
   exact ⟨h c1 c2 hc.dv hc.frz u h1,trivial⟩,fun _ _ h=>(by cases h)⟩⟩
theorem Moves.kept {v:AV} {ob:List (Nat×AV)} (h:∀ c1 c2:Cx,(∀ d v,c1.DV d v->c2.DV d v)->(∀ b,c1.okb b->c2.okb b)->c2.w=c1.w->∀ u,V c1 v u->V c2 v u):Moves [v] [v] ob ob [] [] :=
 ⟨Ev.refl ob,rfl,fun _ h=>(by cases h),List.nodup_nil,fun _ h=>(by cases h),fun c1 c2 hc=>⟨fun us hu=>by
   obtain ⟨u,us',rfl,h1,h2⟩:=Za6 hu
   rw [Zbo h2]
   exact ⟨h c1 c2 hc.dv hc.okb hc.world u h1,trivial⟩,fun _ _ h=>(by cases h)⟩⟩
mutual
theorem Zun {c1 c2:Cx} (hd:∀ d v,c1.DV d v->c2.DV d v) (hb:∀ b,c1.okb b->c2.okb b/\c2.w.heap[b]?=c1.w.heap[b]?):∀ (v:AV) (u:Value),v.frozen=true->V c1 v u->V c2 v u
 | .int _ _,_,_,h=>h
 | .bool _,_,_,h=>h
 | .str _,_,_,h=>h
 | .lst _ _,_,_,h=>hd _ _ h
 | .emp,_,_,h=>h
 | .cst _,_,_,h=>h
 | .fn _ cs,_,hf,⟨vs,e,h⟩=>⟨vs,e,ZnN hd hb cs vs.toList hf h⟩
 | .cptr cs _,_,hf,⟨b,cur,e,h1,h2,h3,h4⟩=>⟨b,cur,e,h1,(hb b h2).1,((hb b h2).2).trans h3,ZnN hd hb cs cur.toList hf h4⟩
 | .undef,_,hf,_ | .lstn _ _,_,hf,_ | .own _,_,hf,_ | .ownv _ _ _,_,hf,_ | .ptr _ _,_,hf,_ | .eptr _ _ _,_,hf,_ | .lptr _ _ _ _,_,hf,_ | .agg _,_,hf,_ | .tup _,_,hf,_ | .bfn _ _,_,hf,_
 | .ifc _ _,_,hf,_ | .box _,_,hf,_ | .row _ _ _,_,hf,_ | .frz _ _,_,hf,_ | .dead,_,hf,_ | .gone _,_,hf,_=>by cases hf
theorem ZnN {c1 c2:Cx} (hd:∀ d v,c1.DV d v->c2.DV d v) (hb:∀ b,c1.okb b->c2.okb b/\c2.w.heap[b]?=c1.w.heap[b]?):∀ (vs:List AV) (us:List Value),AV.frozens vs=true->VL c1 vs us->VL c2 vs us
 | [],[],_,h=>h
 | [],_::_,_,h=>h
 | _::_,[],_,h=>h
 | v :: vs, u :: us, hf, ⟨h1, h2⟩ => by
   simp only [AV.frozens] at hf
   cases hv:v.frozen with
   | false=>rw [hv] at hf;cases hf
   | true =>
     rw [hv] at hf
     exact ⟨Zun hd hb v u hv h1,ZnN hd hb vs us hf h2⟩
end
theorem Zud {c1 c2:Cx} (h:∀ d v,c1.DV d v->c2.DV d v):∀ {ds:List D} {vs:List Value},c1.DVs ds vs->c2.DVs ds vs
 | [],[],_=>trivial
 | _::_,_::_,⟨a,b⟩=>⟨h _ _ a,Zud h b⟩
theorem ZiT {κ:Kd} {v x:AV} {ob ob':List (Nat×AV)} (h:Zfu κ v ob=some (x,ob')) (id:Nat) :
   ∃ os,Moves [v] [(Zbm id x).1] ob ob' (Zbm id x).2.1 os:=by
 unfold Zfu at h
 split at h
 . rename_i e τ
   split at h
   . rename_i i
     split at h
     . rename_i e' ρ xs hl
       split at h
       case h_2=>cases h
       rename_i hh _
       cases hb:Nat.beq e' e with
       | false=>rw [hb] at h;cases h
       | true =>
       rw [hb] at h
       have hb:=Nat.eq_of_beq_eq_true hb
       subst hh hb
       simp only [cond_true,Option.some.injEq,Prod.mk.injEq] at h
       obtain ⟨rfl,rfl⟩:=h
       have ha:Zic (look ob i):=.inl ⟨_,_,_,hl⟩
       refine ⟨[some i],Ev.kill ha,rfl,fun j hj=>?_,by simp,fun p hp=>?_,fun c1 c2 hc=>?_⟩
       . simp only [List.mem_singleton,Option.some.injEq] at hj
         subst hj
         exact ⟨ha,look_eq _ _ _⟩
       . simp only [Zbm,List.mem_singleton] at hp
         subst hp;exact .inl ⟨_,_,_,rfl⟩
       . have ho:=hc.old i (look_eq _ _ _) ha
         rw [hl] at ho
         obtain ⟨hn1,hn2⟩:=hc.new ((id,.row e' ρ xs),some i) (by simp [Zbm])
         simp only [Option.bind_some] at hn1 hn2
         refine ⟨fun us hu=>?_,fun hob p hp=>?_⟩
         . obtain ⟨u,us',rfl,h1,h2⟩:=Za6 hu
           rw [Zbo h2]
           refine ⟨?_,trivial⟩
           have h1:OwnV c1 i u:=h1
           show OwnV c2 id u
           unfold OwnV at h1 ⊢
           rw [ho] at h1
           rw [hn1]
           simp only at h1 ⊢
           rw [hn2]
           unfold ZgP at h1 ⊢
           rw [hc.world]
           exact h1
         . simp only [Zbm,List.mem_singleton] at hp
           subst hp
           have h1:=hob i
           unfold ObjOK at h1 ⊢
           rw [ho] at h1
           rw [hn1]
           simp only at h1 ⊢
           rw [hn2]
           unfold ZgP at h1 ⊢
           rw [hc.world]
           rcases h1 with h1 | ⟨b,cap,cur,k1,k2,k3,k4,k5⟩
           . exact .inl h1
           . exact .inr ⟨b,cap,cur,k1,k2,k3,k4,Zud hc.dv k5⟩
     . cases h
   . simp only [Option.some.injEq,Prod.mk.injEq] at h
     obtain ⟨rfl,rfl⟩:=h
     refine ⟨[none],Ev.refl _,rfl,fun j hj=>?_,by simp,fun p hp=>?_,fun c1 c2 hc=>?_⟩
     . simp at hj
     . simp only [Zbm,List.mem_singleton] at hp
       subst hp;exact .inl ⟨_,_,_,rfl⟩
     . obtain ⟨hn1,hn2⟩:=hc.new ((id,.row e τ []),none) (by simp [Zbm])
       simp only [Option.bind_none] at hn1 hn2
       refine ⟨fun us hu=>?_,fun hob p hp=>?_⟩
       . obtain ⟨u,us',rfl,h1,h2⟩:=Za6 hu
         rw [Zbo h2]
         refine ⟨?_,trivial⟩
         simp only [V] at h1
         show OwnV c2 id u
         unfold OwnV
         rw [hn1]
         exact .inl ⟨hn2,rfl,none,h1⟩
       . simp only [Zbm,List.mem_singleton] at hp
         subst hp
         unfold ObjOK
         rw [hn1]
         exact .inl ⟨hn2,rfl⟩
   . cases h
 . rename_i τ
   split at h
   . rename_i i
     split at h
     . rename_i e' ρ xs hl
       split at h
       case h_2=>cases h
       rename_i hh _
       subst hh
       simp only [Option.some.injEq,Prod.mk.injEq] at h
       obtain ⟨rfl,rfl⟩:=h
       have hev:Ev ob ((i,.frz ρ xs)::ob):=by
         intro j
         by_cases e:i=j
         . subst e;exact .inr (.inr ⟨_,_,_,hl,look_eq _ _ _⟩)
         . exact .inl (ZaQ _ _ e)
       refine ⟨[],hev,rfl,fun _ h=>(by cases h),List.nodup_nil,fun _ h=>(by cases h),fun c1 c2 hc=>⟨fun us hu=>?_,fun _ _ h=>(by cases h)⟩⟩
       obtain ⟨u,us',rfl,h1,h2⟩:=Za6 hu
       rw [Zbo h2]
       refine ⟨hc.dv _ _ ?_,trivial⟩
       have h1:OwnV c1 i u:=h1
       unfold OwnV at h1
       rw [hc.frz i ρ xs (look_eq _ _ _)] at h1
       exact h1
     . rename_i ρ xs hl
       split at h
       case h_2=>cases h
       rename_i hh _
       subst hh
       simp only [Option.some.injEq,Prod.mk.injEq] at h
       obtain ⟨rfl,rfl⟩:=h
       refine ⟨[],Moves.plain fun c1 c2 hd hf u h1=>hd _ _ ?_⟩
       have h1:OwnV c1 i u:=h1
       unfold OwnV at h1
       rw [hf i ρ xs hl] at h1
       exact h1
     . cases h
   . split at h
     case h_2=>cases h
     rename_i hh _
     subst hh
     simp only [Option.some.injEq,Prod.mk.injEq] at h
     obtain ⟨rfl,rfl⟩:=h
     exact ⟨[],Moves.plain fun c1 c2 hd hf u h1=>hd _ _ h1⟩
   . simp only [Option.some.injEq,Prod.mk.injEq] at h
     obtain ⟨rfl,rfl⟩:=h
     refine ⟨[],Moves.plain fun c1 c2 hd hf u h1=>?_⟩
     simp only [V] at h1
     subst h1
     exact DV.nil _ _ _ (fun _=>rfl)
   . cases h
 . split at h <;> first
     | (cases h;done)
     | (simp only [Option.some.injEq,Prod.mk.injEq] at h
        obtain ⟨rfl,rfl⟩:=h
        exact ⟨[],Moves.plain fun c1 c2 hd hf u h1=>by simpa only [Zbm,V] using h1⟩)
     | (simp only [Option.some.injEq,Prod.mk.injEq] at h
        obtain ⟨rfl,rfl⟩:=h
        refine ⟨[],Moves.plain fun c1 c2 hd hf u h1=>?_⟩
        obtain ⟨vs,e,hv⟩:=h1
        exact ⟨vs,e,by rw [Zbo hv];trivial⟩)
 . rename_i f
   split at h
   . rename_i g
     cases hb:Nat.beq g f with
     | false=>rw [hb] at h;cases h
     | true =>
       rw [hb] at h
       have hb:=Nat.eq_of_beq_eq_true hb
       subst hb
       simp only [cond_true,Option.some.injEq,Prod.mk.injEq] at h
       obtain ⟨rfl,rfl⟩:=h
       refine ⟨[],Moves.plain fun c1 c2 hd hf u h1=>?_⟩
       obtain ⟨vs,e,hv⟩:=h1
       exact ⟨vs,e,by rw [Zbo hv];trivial⟩
   . cases h
 . cases h
 . split at h
   . rename_i f cs
     cases hb:AV.frozens cs with
     | false=>rw [hb] at h;cases h
     | true =>
       rw [hb] at h
       simp only [cond_true,Option.some.injEq,Prod.mk.injEq] at h
       obtain ⟨rfl,rfl⟩:=h
       exact ⟨[],Moves.kept fun c1 c2 hd ho hw u h1=>Zun hd (fun b h=>⟨ho b h,by rw [hw]⟩) (.fn f cs) u hb h1⟩
   . cases h
 . cases h
 . cases h
 . cases h
theorem ZcF:∀ {ks:List Kd} {vs xs:List AV} {ob ob':List (Nat×AV)},Zcb ks vs ob=some (xs,ob')->∀ id,∃ os,Moves vs (Zbj id xs).1 ob ob' (Zbj id xs).2.1 os
 | [], [], xs, ob, ob', h, id => by
   simp only [Zcb,Option.some.injEq,Prod.mk.injEq] at h
   obtain ⟨rfl,rfl⟩:=h
   exact ⟨[],Moves.nil _⟩
 | κ :: ks, v :: vs, xs, ob, ob', h, id => by
   simp only [Zcb] at h
   split at h
   case h_2=>cases h
   rename_i x ob1 h1
   split at h
   case h_2=>cases h
   rename_i xs' ob2 h2
   simp only [Option.some.injEq,Prod.mk.injEq] at h
   obtain ⟨rfl,rfl⟩:=h
   obtain ⟨os1,m1⟩:=ZiT h1 id
   obtain ⟨os2,m2⟩:=ZcF h2 (Zbm id x).2.2
   exact ⟨os1++os2,m1.append m2⟩
 | [],_::_,_,_,_,h,_=>by simp [Zcb] at h
 | _::_,[],_,_,_,h,_=>by simp [Zcb] at h
theorem Moves.agg {cs ys:List AV} {ob ob':List (Nat×AV)} {ws:Wr} {os:List (Option Nat)} (h:Moves cs ys ob ob' ws os):Moves [.agg cs] [.agg ys] ob ob' ws os :=
 ⟨h.ev,h.len,h.alive,h.nodup,h.rows,fun c1 c2 hc=>⟨fun us hu=>by
   obtain ⟨u,us',rfl,h1,h2⟩:=Za6 hu
   rw [Zbo h2]
   obtain ⟨vs,e,hv⟩:=h1
   exact ⟨⟨vs,e,(h.sends c1 c2 hc).1 _ hv⟩,trivial⟩,(h.sends c1 c2 hc).2⟩⟩
theorem Moves.tup {cs ys:List AV} {ob ob':List (Nat×AV)} {ws:Wr} {os:List (Option Nat)} (h:Moves cs ys ob ob' ws os):Moves [.tup cs] [.tup ys] ob ob' ws os :=
 ⟨h.ev,h.len,h.alive,h.nodup,h.rows,fun c1 c2 hc=>⟨fun us hu=>by
   obtain ⟨u,us',rfl,h1,h2⟩:=Za6 hu
   rw [Zbo h2]
   obtain ⟨vs,e,hv⟩:=h1
   exact ⟨⟨vs,e,(h.sends c1 c2 hc).1 _ hv⟩,trivial⟩,(h.sends c1 c2 hc).2⟩⟩
theorem Moves.box {i n:Nat} {cs ys:List AV} {ob ob':List (Nat×AV)} {ws:Wr} {os:List (Option Nat)} (hl:look ob i=.box cs) (h:Moves cs ys ((i,.dead)::ob) ob' ws os) :
   Moves [.ptr i 0] [.ptr n 0] ob ob' ((n,.box ys)::ws) (some i::os):=by
 have ha:Zic (look ob i):=.inr ⟨_,hl⟩
 have hk:=Ev.kill ha
 have hdead:look ob' i=.dead:=h.ev.dead (look_eq _ _ _)
 refine ⟨hk.trans h.ev,by simp [h.len],fun j hj=>?_,?_,fun p hp=>?_,fun c1 c2 hc=>?_⟩
 . rcases List.mem_cons.1 hj with hj | hj
   . obtain rfl:=Option.some.inj hj
     exact ⟨ha,hdead⟩
   . obtain ⟨h1,h2⟩:=h.alive j hj
     exact ⟨by rw [<- hk.alive h1];exact h1,h2⟩
 . rw [show (some i::os).filterMap id=i::os.filterMap id from rfl,List.nodup_cons]
   refine ⟨fun hm=>?_,h.nodup⟩
   have hm:some i∈os:=by simpa using hm
   have:=(h.alive i hm).1
   rw [look_eq] at this
   exact Zfb this
 . rcases List.mem_cons.1 hp with rfl | hp
   . exact .inr ⟨_,rfl⟩
   . exact h.rows p hp
 . have hc':Cond ((i,.dead)::ob) ob' ws os c1 c2:=hc.right (ws1:=[(n,.box ys)]) (os1:=[some i]) rfl hk
   obtain ⟨a1,b1⟩:=h.sends c1 c2 hc'
   have ho:=hc.old i hdead ha
   rw [hl] at ho
   obtain ⟨hn1,hn2⟩:=hc.new ((n,.box ys),some i) (by simp)
   simp only [Option.bind_some] at hn1 hn2
   refine ⟨fun us hu=>?_,fun hob p hp=>?_⟩
   . obtain ⟨u,us',rfl,h1,h2⟩:=Za6 hu
     rw [Zbo h2]
     refine ⟨?_,trivial⟩
     have h1:PtrV c1 i 0 u:=h1
     show PtrV c2 n 0 u
     unfold PtrV at h1 ⊢
     rw [ho] at h1
     rw [hn1]
     simp only at h1 ⊢
     rw [hn2]
     exact h1
   . rcases List.mem_cons.1 hp with rfl | hp
     . have h1:=hob i
       unfold ObjOK at h1 ⊢
       rw [ho] at h1
       rw [hn1]
       simp only at h1 ⊢
       rw [hn2,hc.world]
       obtain ⟨b,cur,e,k1,k2,k3⟩:=h1
       exact ⟨b,cur,e,k1,k2,a1 _ k3⟩
     . exact b1 hob p hp
end Go.Proofs.Mill
namespace Go.Proofs.Mill
open Go.RowKit
theorem Zgr:∀ (ob:List (Nat×AV)) (i:Nat),look ob i≠.undef->∃ p∈ob,p.1=i
 | [],i,h=>(h rfl).elim
 | (j, o) :: ob, i, h => by
   by_cases e:j=i
   . exact ⟨(j,o),by simp,e⟩
   . rw [ZaQ _ _ e] at h
     obtain ⟨p,hp,he⟩:=Zgr ob i h
     exact ⟨p,by simp [hp],he⟩
theorem ZxP {w0 w:World} {ob ob':List (Nat×AV)} {mu:Nat->Option Nat} {ok:Nat->Prop} (hm:Mem w0 (cx w ob mu ok)) (hev:Ev ob ob') :
   ∃ ob1 mu1, Mem w0 (cx w ob1 mu1 ok) /\ Mono (cx w ob mu ok) (cx w ob1 mu1 ok) /\ (∀ i τ (xs : List τ.den), look ob' i = .frz τ xs -> look ob1 i = .frz τ xs) /\
     (∀ i,look ob' i=.dead->look ob1 i=look ob i):=by
 let ws:Wr:=ob'.filterMap fun p=>match look ob p.1,look ob' p.1 with | .row _ _ _,.frz τ xs=>some (p.1,.frz τ xs) | _,_=>none
 have hmem:∀ p∈ws,∃ e τ,∃ xs:List τ.den,look ob p.1=.row e τ xs/\look ob' p.1=.frz τ xs/\p.2=.frz τ xs:=by
   intro p hp
   obtain ⟨q,hq,hqp⟩:=List.mem_filterMap.1 hp
   rcases hev q.1 with h1 | ⟨_,h2⟩ | ⟨e,τ,xs,h1,h2⟩
   . rw [h1] at hqp
     cases hl:look ob q.1 <;> rw [hl] at hqp <;> cases hqp
   . rw [h2] at hqp
     cases hl:look ob q.1 <;> rw [hl] at hqp <;> cases hqp
   . rw [h1,h2] at hqp
     simp only [Option.some.injEq] at hqp
     subst hqp
     exact ⟨e,τ,xs,h1,h2,rfl⟩
 have hfz:Fz ob ws:=fun p hp=>by
   obtain ⟨e,τ,xs,h1,_,h3⟩:=hmem p hp
   exact ⟨e,τ,xs,h1,h3⟩
 obtain ⟨mu1,hm1,hmono,hws,hothers⟩:=Zgy hfz hm
 refine ⟨Zay ws ob,mu1,hm1,hmono,fun i τ xs hi=>?_,fun i hi=>?_⟩
 . rcases hev i with h1 | ⟨_,h2⟩ | ⟨e,σ,ys,h1,h2⟩
   . by_cases hin:∃ p∈ws,p.1=i
     . obtain ⟨p,hp,rfl⟩:=hin
       obtain ⟨e,σ,ys,k1,k2,k3⟩:=hmem p hp
       rw [h1,k1] at k2
       cases k2
     . rw [(hothers i fun p hp e=>hin ⟨p,hp,e⟩).1,<- h1]
       exact hi
   . rw [hi] at h2;cases h2
   . rw [hi] at h2
     obtain ⟨p,hp,he⟩:=Zgr ob' i (by rw [hi];intro h;cases h)
     have:(i,AV.frz τ xs)∈ws:=by
       refine List.mem_filterMap.2 ⟨p,hp,?_⟩
       rw [he,h1,hi]
     exact hws _ this
 . refine (hothers i fun p hp e=>?_).1
   obtain ⟨_,_,_,_,k2,_⟩:=hmem p hp
   rw [e,hi] at k2
   cases k2
theorem Zul {ws:Wr} {os:List (Option Nat)} (hn:(ws.map (·.1)).Nodup) (hl:os.length=ws.length) (q:(Nat×AV)×Option Nat) (hq:q∈ws.zip os) :
   (ws.zip os).find? (fun x=>x.1.1 == q.1.1)=some q:=by
 induction ws generalizing os with
 | nil=>simp at hq
 | cons p ws ih =>
   cases os with
   | nil=>simp at hl
   | cons o os =>
     simp only [List.map_cons,List.nodup_cons] at hn
     rw [List.zip_cons_cons] at hq ⊢
     rcases List.mem_cons.1 hq with rfl | hq'
     . simp
     . have hne:p.1≠q.1.1:=by
         intro e
         apply hn.1
         rw [e]
         exact List.mem_map.2 ⟨q.1,(List.of_mem_zip hq').1,rfl⟩
       rw [List.find?_cons_of_neg (by simpa using hne)]
       exact ih hn.2 (by simpa using hl) hq'
theorem Zjq {w0 w:World} {ob ob' ob2:List (Nat×AV)} {mu:Nat->Option Nat} {ok:Nat->Prop} {cs ys:List AV} {ws:Wr} {os:List (Option Nat)}
   (hm:Mem w0 (cx w ob mu ok)) (h:Moves cs ys ob ob' ws os) (hn:(ws.map (·.1)).Nodup) (h2:∀ p∈ws,look ob2 p.1=p.2) (h3:∀ i,(∀ p∈ws,p.1≠i)->look ob2 i=.undef) :
   ∃ mu2,Mem w0 (cx w ob2 mu2 ok)/\(∀ us,VL (cx w ob mu ok) cs us->VL (cx w ob2 mu2 ok) ys us)/\∀ b,(cx w ob mu ok).okb b->(cx w ob2 mu2 ok).okb b:=by
 obtain ⟨ob1,mu1,hm1,hmono,hfrz,hdead⟩:=ZxP hm h.ev
 let mu2:Nat->Option Nat:=fun i=>match (ws.zip os).find? (fun x=>x.1.1 == i) with | some q=>q.2.bind mu1 | none=>none
 have hin:∀ q∈ws.zip os,mu2 q.1.1=q.2.bind mu1:=by
   intro q hq
   show (match (ws.zip os).find? (fun x=>x.1.1 == q.1.1) with | some q=>q.2.bind mu1 | none=>none)=_
   rw [Zul hn h.len q hq]
 have hof:∀ i b,mu2 i=some b->∃ q∈ws.zip os,q.1.1=i/\∃ j,q.2=some j/\mu1 j=some b:=by
   intro i b hb
   have hb:(match (ws.zip os).find? (fun x=>x.1.1 == i) with | some q=>q.2.bind mu1 | none=>none)=some b:=hb
   cases hf:(ws.zip os).find? (fun x=>x.1.1 == i) with
   | none=>rw [hf] at hb;cases hb
   | some q =>
     rw [hf] at hb
     have hq:=List.mem_of_find?_eq_some hf
     have he:=List.find?_some hf
     cases hq2:q.2 with
     | none=>simp only [hq2,Option.bind_none] at hb;cases hb
     | some j =>
       simp only [hq2,Option.bind_some] at hb
       exact ⟨q,hq,by simpa using he,j,hq2,hb⟩
 have hnone:∀ i,(∀ p∈ws,p.1≠i)->mu2 i=none:=by
   intro i hi
   cases hb:mu2 i with
   | none=>rfl
   | some b =>
     obtain ⟨q,hq,he,_⟩:=hof i b hb
     exact (hi q.1 (List.of_mem_zip hq).1 he).elim
 have hokb:∀ b,(cx w ob1 mu1 ok).okb b->(cx w ob2 mu2 ok).okb b:=by
   intro b hb
   refine ⟨hb.1,hb.2.1,fun i e=>?_⟩
   obtain ⟨_,_,_,j,_,hj⟩:=hof i b e
   exact hb.2.2 j hj
 have hc:Cond ob ob' ws os (cx w ob1 mu1 ok) (cx w ob2 mu2 ok):=by
   refine ⟨fun d v hd=>DV.mono hokb (fun _ _=>rfl) hd,hokb,rfl,fun i τ xs hi=>hfrz i τ xs hi,fun i hd _=>hdead i hd,fun q hq=>⟨h2 q.1 (List.of_mem_zip hq).1,hin q hq⟩⟩
 obtain ⟨s1,s2⟩:=h.sends _ _ hc
 refine ⟨mu2,⟨fun i=>?_,fun i j b hi hj=>?_,fun i b hi=>?_,hm1.ext,hm1.okn_of rfl (Nat.le_refl _) fun b _ h2 i e=>by
   obtain ⟨_,_,_,j,_,hj⟩:=hof i b e
   exact h2 j hj⟩,fun us hu=>s1 us (hmono.vl _ _ hu),fun b hb=>hokb b (hmono.blk b hb).1⟩
 . by_cases hi:∃ p∈ws,p.1=i
   . obtain ⟨p,hp,rfl⟩:=hi
     exact s2 hm1.obj p hp
   . have hi':∀ p∈ws,p.1≠i:=fun p hp e=>hi ⟨p,hp,e⟩
     unfold ObjOK
     rw [show (cx w ob2 mu2 ok).ob i=.undef from h3 i hi']
     exact hnone i hi'
 . obtain ⟨q,hq,rfl,a,ha,hma⟩:=hof i b hi
   obtain ⟨q',hq',rfl,a',ha',hma'⟩:=hof j b hj
   have haa:a=a':=hm1.inj a a' b hma hma'
   subst haa
   have key:∀ {ws:Wr} {os:List (Option Nat)},(os.filterMap id).Nodup->∀ {q q':(Nat×AV)×Option Nat},q∈ws.zip os->q'∈ws.zip os->q.2=some a->q'.2=some a->q.1.1=q'.1.1:=by
     intro ws
     induction ws with
     | nil=>intro os _ q q' hq;simp at hq
     | cons p ws ih =>
       intro os hnd q q' hq hq' h1 h2
       cases os with
       | nil=>simp at hq
       | cons o os =>
         rw [List.zip_cons_cons] at hq hq'
         have tail:(os.filterMap id).Nodup:=by
           cases o with
           | none=>simpa using hnd
           | some o=>simp only [List.filterMap_cons,id_eq,List.nodup_cons] at hnd;exact hnd.2
         have no:o=some a->∀ {x:(Nat×AV)×Option Nat},x∈ws.zip os->x.2=some a->False:=by
           intro ho x hx hxa
           subst ho
           simp only [List.filterMap_cons,id_eq,List.nodup_cons] at hnd
           apply hnd.1
           have:=(List.of_mem_zip hx).2
           rw [hxa] at this
           simpa using this
         rcases List.mem_cons.1 hq with rfl | hq
         . rcases List.mem_cons.1 hq' with rfl | hq'
           . rfl
           . exact (no h1 hq' h2).elim
         . rcases List.mem_cons.1 hq' with rfl | hq'
           . exact (no h2 hq h1).elim
           . exact ih tail hq hq' h1 h2
   exact key h.nodup hq hq' ha ha'
 . obtain ⟨_,_,_,j,_,hj⟩:=hof i b hi
   exact hm1.base j b hj
theorem Zh0:∀ (ob:List (Nat×AV)),Zgm ob=true->(ob.map (·.1)).Nodup
 | [],_=>by simp
 | p :: r, h => by
   unfold Zgm at h
   cases hc:(r.all fun q=>!(Nat.beq p.1 q.1)) with
   | false=>rw [hc] at h;cases h
   | true =>
     rw [hc] at h
     rw [List.map_cons,List.nodup_cons]
     refine ⟨fun hm=>?_,Zh0 r h⟩
     obtain ⟨q,hq,he⟩:=List.mem_map.1 hm
     have:=List.all_eq_true.1 hc q hq
     rw [he] at this
     simp at this
theorem Zcr:∀ (ob:List (Nat×AV)),(ob.map (·.1)).Nodup->∀ p∈ob,look ob p.1=p.2
 | [],_,_,h=>by cases h
 | q :: ob, hn, p, h => by
   simp only [List.map_cons,List.nodup_cons] at hn
   rcases List.mem_cons.1 h with rfl | h
   . exact look_eq _ _ _
   . rw [ZaQ _ _ (fun e=>hn.1 (by rw [e];exact List.mem_map.2 ⟨p,h,rfl⟩))]
     exact Zcr ob hn.2 p h
theorem ZcV (ob:List (Nat×AV)) (i:Nat) (h:∀ p∈ob,p.1≠i):look ob i=.undef:=by
 apply Classical.byContradiction
 intro hne
 obtain ⟨p,hp,he⟩:=Zgr ob i hne
 exact h p hp he
theorem ZsO {κ:Kd} {v x:AV} {ob ob':List (Nat×AV)} (h:Zfu κ v ob=some (x,ob')) (id:Nat) :
   (Zfe id x).1=(Zbm id x).1/\(Zfe id x).2=(Zbm id x).2.1:=by
 unfold Zfu at h
 repeat' (split at h)
 all_goals first
   | (cases h;done)
   | (simp only [Option.some.injEq,Prod.mk.injEq] at h;obtain ⟨rfl,_⟩:=h;exact ⟨rfl,rfl⟩)
   | (generalize Nat.beq _ _=b at h
      cases b
      . cases h
      . simp only [cond_true,Option.some.injEq,Prod.mk.injEq] at h;obtain ⟨rfl,_⟩:=h;exact ⟨rfl,rfl⟩)
   | (generalize AV.frozens _=b at h
      cases b
      . cases h
      . simp only [cond_true,Option.some.injEq,Prod.mk.injEq] at h;obtain ⟨rfl,_⟩:=h;exact ⟨rfl,rfl⟩)
theorem ZrI {κ:Kd} {v x:AV} {ob ob':List (Nat×AV)} (h:ZmL κ v ob=some (x,ob')) (id:Nat) :
   ∃ os,Moves [v] [(Zfe id x).1] ob ob' (Zfe id x).2 os:=by
 unfold ZmL at h
 split at h
 . rename_i ks
   split at h
   . rename_i i
     split at h
     case h_2=>cases h
     rename_i cs hl
     split at h
     case h_2=>cases h
     rename_i xs ob1 hx
     simp only [Option.some.injEq,Prod.mk.injEq] at h
     obtain ⟨rfl,rfl⟩:=h
     obtain ⟨os,m⟩:=ZcF hx (id+1)
     exact ⟨some i::os,m.box hl⟩
   . split at h
     case h_2=>cases h
     rename_i xs ob1 hx
     simp only [Option.some.injEq,Prod.mk.injEq] at h
     obtain ⟨rfl,rfl⟩:=h
     obtain ⟨os,m⟩:=ZcF hx (id+1)
     exact ⟨os,m.agg⟩
   . cases h
 . obtain ⟨os,m⟩:=ZiT h id
   have hx:=ZsO h id
   rw [hx.1,hx.2]
   exact ⟨os,m⟩
end Go.Proofs.Mill
namespace Go.Proofs.Mill
variable {ds:List Deferred}
open Go.RowKit
section
variable {V:Env} {J:Cx->Prop} {w0 w:World} {ok:Nat->Prop} {nt:Nat} {σ:St} {a:Act}
theorem ZzB {ob:List (Nat×AV)} {mu:Nat->Option Nat} {id:Nat} (h:Mem w0 (cx w ob mu ok)) :
   Mem w0 (cx w ((id,.dead)::ob) (upd mu id none) ok)/\Mono (cx w ob mu ok) (cx w ((id,.dead)::ob) (upd mu id none) ok):=by
 have hmu:∀ j b,upd mu id none j=some b->mu j=some b:=by
   intro j b hj
   unfold upd at hj
   split at hj
   . cases hj
   . exact hj
 have hmono:Mono (cx w ob mu ok) (cx w ((id,.dead)::ob) (upd mu id none) ok):=by
   refine Zdf (fun b hb=>⟨⟨hb.1,hb.2.1,fun j e=>hb.2.2 j (hmu j b e)⟩,rfl⟩) (fun j=>?_) (fun b _ h3=>⟨fun j e=>h3 j (hmu j b e),rfl⟩)
   by_cases e:id=j
   . subst e;exact .inr (.inl (look_eq _ _ _))
   . exact .inr (.inr (.inl ⟨ZaQ _ _ e,Zbp _ _ (Ne.symm e),fun _ _=>rfl⟩))
 refine ⟨⟨fun j=>?_,fun i j b hi hj=>h.inj i j b (hmu i b hi) (hmu j b hj),fun i b hi=>h.base i b (hmu i b hi),h.ext,h.okn_of rfl (Nat.le_refl _) fun b _ h2 j e=>h2 j (hmu j b e)⟩,hmono⟩
 by_cases e:id=j
 . subst e
   unfold ObjOK
   rw [show (cx w ((id,.dead)::ob) (upd mu id none) ok).ob id=.dead from look_eq _ _ _]
   exact Zbw _ _ _
 . exact (h.obj j).keep hmono (ZaQ _ _ e) (Zbp _ _ (Ne.symm e)) (fun _ _=>rfl)
def Frz (w0 w:World) (ok:Nat->Prop) (ob ob':List (Nat×AV)) (P Q:Cx->Prop):Prop :=
 ∀ mu,Mem w0 (cx w ob mu ok)->P (cx w ob mu ok)->∃ mu',Mem w0 (cx w ob' mu' ok)/\Mono (cx w ob mu ok) (cx w ob' mu' ok)/\Q (cx w ob' mu' ok)
theorem Zfl {g:AV->List (Nat×AV)->Option (AV×List (Nat×AV))}
   (hg:∀ v ob x ob' u,g v ob=some (x,ob')->x.frozen=true/\Frz w0 w ok ob ob' (fun c=>Mill.V c v u) (fun c=>Mill.V c x u)) :
   ∀ (vs:List AV) (ob:List (Nat×AV)) (xs:List AV) (ob':List (Nat×AV)) (us:List Value),Zi0 g vs ob=some (xs,ob')->AV.frozens xs=true/\Frz w0 w ok ob ob' (fun c=>VL c vs us) (fun c=>VL c xs us)
 | [], ob, xs, ob', us, h => by
   simp only [Zi0,Option.some.injEq,Prod.mk.injEq] at h
   obtain ⟨rfl,rfl⟩:=h
   exact ⟨rfl,fun mu hm hv=>⟨mu,hm,Mono.refl _,hv⟩⟩
 | v :: vs, ob, xs, ob', us, h => by
   simp only [Zi0] at h
   split at h
   case h_2=>cases h
   rename_i x ob1 h1
   split at h
   case h_2=>cases h
   rename_i ys ob2 h2
   simp only [Option.some.injEq,Prod.mk.injEq] at h
   obtain ⟨rfl,rfl⟩:=h
   cases us with
   | nil =>
     have hx:=(hg v ob x ob1 undef h1).1
     have hys:=(Zfl hg vs ob1 ys ob2 [] h2).1
     refine ⟨by simp only [AV.frozens,hx,cond_true];exact hys,fun mu hm hv=>hv.elim⟩
   | cons u us =>
     obtain ⟨hx,f1⟩:=hg v ob x ob1 u h1
     obtain ⟨hys,f2⟩:=Zfl hg vs ob1 ys ob2 us h2
     refine ⟨by simp only [AV.frozens,hx,cond_true];exact hys,fun mu hm hv=>?_⟩
     obtain ⟨mu1,m1,o1,v1⟩:=f1 mu hm hv.1
     obtain ⟨mu2,m2,o2,v2⟩:=f2 mu1 m1 (o1.vl _ _ hv.2)
     exact ⟨mu2,m2,o1.trans o2,o2.v _ _ v1,v2⟩
theorem ZgD:∀ (d:Nat) (v:AV) (ob:List (Nat×AV)) (x:AV) (ob':List (Nat×AV)) (u:Value),ZiJ d v ob=some (x,ob') ->
   x.frozen=true/\Frz w0 w ok ob ob' (fun c=>Mill.V c v u) (fun c=>Mill.V c x u)
 | 0,_,_,_,_,_,h=>by cases h
 | d + 1, v, ob, x, ob', u, h => by
   have same:∀ {y:AV},y.frozen=true->some (y,ob)=some (x,ob')->v=y->x.frozen=true/\Frz w0 w ok ob ob' (fun c=>Mill.V c v u) (fun c=>Mill.V c x u):=by
     intro y hy h e
     simp only [Option.some.injEq,Prod.mk.injEq] at h
     obtain ⟨rfl,rfl⟩:=h
     subst e
     exact ⟨hy,fun mu hm hv=>⟨mu,hm,Mono.refl _,hv⟩⟩
   unfold ZiJ at h
   split at h
   . rename_i id off
     split at h
     case h_2=>cases h
     rename_i cs hl
     split at h
     case h_2=>cases h
     rename_i xs ob1 hx
     simp only [Option.some.injEq,Prod.mk.injEq] at h
     obtain ⟨rfl,rfl⟩:=h
     refine ⟨(Zfl (w0:=w0) (w:=w) (ok:=ok) (ZgD d) cs _ xs ob1 [] hx).1,fun mu hm hv=>?_⟩
     have hob:=hm.obj id
     unfold ObjOK at hob
     have hv:PtrV (cx w ob mu ok) id off u:=hv
     unfold PtrV at hv
     rw [show (cx w ob mu ok).ob id=.box cs from hl] at hob hv
     obtain ⟨b,cur,e,h1,h2,h3⟩:=hob
     obtain ⟨b',h1',rfl⟩:=hv
     rw [h1] at h1'
     obtain rfl:=Option.some.inj h1'
     obtain ⟨m1,o1⟩:=ZzB (id:=id) hm
     obtain ⟨mu2,m2,o2,v2⟩:=(Zfl (w0:=w0) (w:=w) (ok:=ok) (ZgD d) cs _ xs ob1 cur.toList hx).2 _ m1 (o1.vl _ _ h3)
     have hob1:(cx w ((id,.dead)::ob) (upd mu id none) ok).okb b:=by
       refine ⟨hm.own_ok h1,hm.lt h1,fun j e=>?_⟩
       have e:upd mu id none j=some b:=e
       by_cases hj:j=id
       . subst hj
         rw [Zbw] at e
         cases e
       . rw [Zbp _ _ hj] at e
         exact hj (hm.inj j id b e h1)
     exact ⟨mu2,m2,o1.trans o2,b,cur,e,rfl,(o2.blk b hob1).1,h2,v2⟩
   . rename_i f cs
     split at h
     case h_2=>cases h
     rename_i xs ob1 hx
     simp only [Option.some.injEq,Prod.mk.injEq] at h
     obtain ⟨rfl,rfl⟩:=h
     refine ⟨(Zfl (w0:=w0) (w:=w) (ok:=ok) (ZgD d) cs _ xs ob1 [] hx).1,fun mu hm hv=>?_⟩
     obtain ⟨vs,rfl,hv⟩:=hv
     obtain ⟨mu2,m2,o2,v2⟩:=(Zfl (w0:=w0) (w:=w) (ok:=ok) (ZgD d) cs _ xs ob1 vs.toList hx).2 _ hm hv
     exact ⟨mu2,m2,o2,vs,rfl,v2⟩
   . rename_i id
     split at h
     . rename_i e τ xs hl
       simp only [Option.some.injEq,Prod.mk.injEq] at h
       obtain ⟨rfl,rfl⟩:=h
       refine ⟨rfl,fun mu hm hv=>?_⟩
       obtain ⟨mu1,m1,o1,hws,_⟩:=Zgy (ws:=[(id,.frz τ xs)]) (fun p hp=>by
         simp only [List.mem_singleton] at hp
         subst hp
         exact ⟨e,τ,xs,hl,rfl⟩) hm
       refine ⟨mu1,m1,o1,?_⟩
       have:=o1.own id u hv
       unfold OwnV at this
       rw [show (cx w (Zay [(id,AV.frz τ xs)] ob) mu1 ok).ob id=.frz τ xs from look_eq _ _ _] at this
       exact this
     . rename_i τ xs hl
       simp only [Option.some.injEq,Prod.mk.injEq] at h
       obtain ⟨rfl,rfl⟩:=h
       refine ⟨rfl,fun mu hm hv=>⟨mu,hm,Mono.refl _,?_⟩⟩
       have hv:OwnV (cx w ob mu ok) id u:=hv
       unfold OwnV at hv
       rw [show (cx w ob mu ok).ob id=.frz τ xs from hl] at hv
       exact hv
     . cases h
   . exact same rfl h rfl
   . exact same rfl h rfl
   . exact same rfl h rfl
   . exact same rfl h rfl
   . exact same rfl h rfl
   . rename_i cs off
     cases hf:AV.frozens cs with
     | false=>rw [hf] at h;cases h
     | true=>rw [hf] at h;exact same (y:=.cptr cs off) (by simp only [AV.frozen];exact hf) h rfl
   . cases h
theorem Zwp {gt d:Nat} {gv:AV} {ob':List (Nat×AV)} (hh:Holds J w0 ok nt ds σ a w) (h:ZiJ d (look σ.tm gt) σ.ob=some (gv,ob')):Holds T w0 ok nt ds ⟨(gt,gv)::σ.tm,ob'⟩ a w:=by
 obtain ⟨mu,hr,_⟩:=hh
 have hgt:gt<nt:=by
   apply Classical.byContradiction
   intro hn
   rw [hr.far gt (by omega)] at h
   cases d <;> cases h
 obtain ⟨mu',m',o',v'⟩:=(ZgD d _ _ _ _ (a.tmps.getD gt undef) h).2 mu hr.mem (hr.tm gt hgt)
 refine ⟨mu',⟨m',fun t ht=>?_,fun t ht=>?_,hr.size,hr.defers,o'.marks hr.marks⟩,trivial⟩
 . show Mill.V _ (look ((gt,gv)::σ.tm) t) _
   by_cases e:gt=t
   . subst e;rw [look_eq];exact v'
   . rw [ZaQ _ _ e];exact o'.v _ _ (hr.tm t ht)
 . show look ((gt,gv)::σ.tm) t=.undef
   rw [ZaQ _ _ (by omega)]
   exact hr.far t ht
end
end Go.Proofs.Mill
namespace Go.Proofs.Mill
variable {ds:List Deferred}
open Go.RowKit
def Ex.to:Ex->Exit
 | .normal=>.normal
 | .exit id=>.exit id
 | .goto l=>.goto l
 | .ret=>.ret
section
variable {P:Program} {Q:Exit->Act->World->Prop} {a:Act} {w:World} {ro:Option Nat}
theorem Zc3 {b:Frame} {k:List Item} {cs:List Frame} {c:Code}:step P (lone (b.atR a (.code (.scope c)::k)) cs w)=.next (lone (b.atR a (.code c::.inScope c::k)) cs w) :=
 step_lone_go (by simp [stepG,stepG.exec,Frame.atR])
theorem Znc {b:Frame} {k:List Item} {cs:List Frame} {c:Code}:step P (lone (b.atR a (.inScope c::k)) cs w)=.next (lone (b.atR a k) cs w) :=
 step_lone_go (by simp [stepG,stepG.exec,Frame.atR])
theorem Zqs {c:Code} (h:c.wpIn (Za4 ro) 0 P (fun e a w=>match e with | .goto l=>∃ rest,findLabel c l=some rest/\rest.wpIn (Za4 ro) 0 P (Exit.noGoto Q) a w | e=>Q e a w) a w):(Code.scope c).wpIn (Za4 ro) 0 P Q a w:=by
 intro b k cs hro hb hr
 have h0:(lone (b.atR a (.code (.scope c)::k)) cs w).fenced P (Za4 ro):=fenced_calm hb hr rfl
 obtain ⟨e,a₁,w₁,hq,harr⟩:=h b (.inScope c::k) cs hro hb hr
 cases e with
 | normal=>exact ⟨.normal,a₁,w₁,hq,.head h0 Zc3 (StepsIn.trans harr (.one (fenced_calm hb hr rfl) Znc))⟩
 | exit id=>exact ⟨.exit id,a₁,w₁,hq,.of_steps (.one h0 Zc3) ⟨fun k' hk=>harr.1 k' (by simp [exitTo,hk]),fun hr hk=>harr.2 hr (by simp [exitTo,hk])⟩⟩
 | goto l =>
   obtain ⟨rest,hf,hrest⟩:=hq
   have hg:gotoIn l (.inScope c::k)=some (.code rest::.inScope c::k):=by simp [gotoIn,hf]
   have hto:=harr.1 _ hg
   obtain ⟨e₂,a₂,w₂,hq₂,harr₂⟩:=hrest b (.inScope c::k) cs hro hb hr
   cases e₂ with
   | normal=>exact ⟨.normal,a₂,w₂,hq₂,.head h0 Zc3 (StepsIn.trans hto (StepsIn.trans harr₂ (.one (fenced_calm hb hr rfl) Znc)))⟩
   | exit id=>exact ⟨.exit id,a₂,w₂,hq₂,.of_steps (.head h0 Zc3 hto) ⟨fun k' hk=>harr₂.1 k' (by simp [exitTo,hk]),fun hr hk=>harr₂.2 hr (by simp [exitTo,hk])⟩⟩
   | goto l=>exact hq₂.elim
   | ret=>exact ⟨_,a₂,w₂,hq₂,.of_steps (.head h0 Zc3 hto) harr₂⟩
   | panic ch=>exact ⟨_,a₂,w₂,hq₂,.of_steps (.head h0 Zc3 hto) harr₂⟩
   | outgrown=>exact ⟨_,a₂,w₂,hq₂,.of_steps (.head h0 Zc3 hto) harr₂⟩
 | ret=>exact ⟨_,a₁,w₁,hq,.of_steps (.one h0 Zc3) harr⟩
 | panic ch=>exact ⟨_,a₁,w₁,hq,.of_steps (.one h0 Zc3) harr⟩
 | outgrown=>exact ⟨_,a₁,w₁,hq,.of_steps (.one h0 Zc3) harr⟩
def Zd6 (ro:Option Nat) (P:Program) (c:Code) (Q:Exit->Act->World->Prop) (a:Act) (w:World):Prop :=
 ∀ (b:Frame) (k:List Item) (cs:List Frame),b.roundOf=ro->∃ e a' w',Q e a' w'/\ArrivesIn (Machine.fenced P (Za4 ro)) P (lone (b.atR a (.code c::.inLoop c::k)) cs w) b k cs e a' w'
theorem Zxo {n:Nat}:(Za4 ro).room n:=fun _ h=>by simp [Fence.wide] at h
theorem Zgv {c:Code} (h:Zd6 ro P c Q a w):(Code.loop c).wpIn (Za4 ro) 0 P Q a w :=
 fun b k cs hro hb hr=>let ⟨e,a',w',hq,harr⟩:=h b k cs hro;⟨e,a',w',hq,.of_steps (.one (fenced_calm hb hr rfl) stepR_loop) harr⟩
theorem Zc6 {c:Code} (h:c.wpIn (Za4 ro) 0 P (Exit.then (Zd6 ro P c Q) Q) a w):Zd6 ro P c Q a w:=by
 intro b k cs hro
 have hb:(Za4 ro).fn b.fn:=trivial
 have hr:(Za4 ro).room (cs.length+1+0):=Zxo
 obtain ⟨e,a₁,w₁,hq,harr⟩:=h b (.inLoop c::k) cs hro hb hr
 cases e with
 | normal =>
   obtain ⟨e₂,a₂,w₂,hq₂,harr₂⟩:=hq b k cs hro
   exact ⟨e₂,a₂,w₂,hq₂,.of_steps (StepsIn.trans harr (.one (fenced_calm hb hr rfl) stepR_inLoop)) harr₂⟩
 | exit id=>exact ⟨_,a₁,w₁,hq,.pass (x:=.inLoop c) rfl (fun _ _=>.inl (by simp)) harr⟩
 | goto l=>exact ⟨_,a₁,w₁,hq,.pass (x:=.inLoop c) rfl (fun _ _=>.inl (by simp)) harr⟩
 | ret=>exact ⟨_,a₁,w₁,hq,.pass (x:=.inLoop c) rfl (fun _ _=>.inl (by simp)) harr⟩
 | panic ch=>exact ⟨_,a₁,w₁,hq,.pass (x:=.inLoop c) rfl (fun _ _=>.inl (by simp)) harr⟩
 | outgrown=>exact ⟨_,a₁,w₁,hq,.pass (x:=.inLoop c) rfl (fun _ _=>.inl (by simp)) harr⟩
theorem ZlX {c:Code} {Q':Exit->Act->World->Prop} (h:Zd6 ro P c Q a w) (hq:∀ e a w,Q e a w->Q' e a w):Zd6 ro P c Q' a w :=
 fun b k cs hro=>let ⟨e,a',w',q,r⟩:=h b k cs hro;⟨e,a',w',hq _ _ _ q,r⟩
end
def ZaZ:Code->List Code
 | .seq a b=>ZaZ a++ZaZ b
 | .cond _ a b=>ZaZ a++ZaZ b
 | .block _ c=>ZaZ c
 | .loop c=>c::ZaZ c
 | .scope c=>ZaZ c
 | .rangeFunc g ps x y=>[.rangeFunc g ps x y]
 | _=>[]
def Zdc (Δ:List Deferred->Prop) (J:Cx->Prop) (w0:World) (ok:Nat->Prop) (nt:Nat) (σ:St) (a:Act) (w:World):Prop:=∃ ds,Δ ds/\Holds J w0 ok nt ds σ a w
def anyD:List Deferred->Prop:=fun _=>True
def Zrq (V:Env) (nt:Nat) (s:LSpec) (c:Code):Prop :=
 ∀ (ro : Option Nat) (w0 : World) (ok : Nat -> Prop) (hd : List AV) (x : s.σ) (y : s.ρ) (a : Act) (w : World), s.dec hd = some x -> s.run x = some y -> Zdc anyD T w0 ok nt (build s.keep hd) a w ->
   Zd6 ro V.P c (fun e a' w'=>e=(s.enc y).1.to/\Zdc anyD T w0 ok nt (build (s.keepX (s.enc y).1) (s.enc y).2) a' w') a w
def Zl4 (V:Env) (nt:Nat) (s:LSpec) (c:Code):Prop :=
 ∀ (w0 : World) (ok : Nat -> Prop) (hd : List AV) (x : s.σ) (y : s.ρ) (a : Act) (w : World), s.dec hd = some x -> s.run x = some y -> Zdc anyD T w0 ok nt (build s.keep hd) a w ->
   c.wpIn (Za4 none) 0 V.P (fun e a' w'=>e=(s.enc y).1.to/\Zdc anyD T w0 ok nt (build (s.keepX (s.enc y).1) (s.enc y).2) a' w') a w
def LoopOK (V:Env) (nt:Nat) (s:LSpec) (c:Code):Prop:=match Zdu c with | true=>Zl4 V nt s c | false=>Zrq V nt s c
theorem LoopOK.loop {V:Env} {nt:Nat} {s:LSpec} {c:Code} (h:LoopOK V nt s c) (hr:Zdu c=false):Zrq V nt s c:=by
 unfold LoopOK at h;rw [hr] at h;exact h
theorem LoopOK.of0 {V:Env} {nt:Nat} {s:LSpec} {c:Code} (hr:Zdu c=false) (h:Zrq V nt s c):LoopOK V nt s c:=by
 unfold LoopOK;rw [hr];exact h
theorem ZpE {c:Cx} (f:Nat->Value):∀ (L:List (Nat×AV)),VL c (L.map (·.2)) ((L.map (·.1)).map f)->∀ t,V c (look L t) (f t)
 | [],_,_=>trivial
 | (i, x) :: L, h, t => by
   by_cases e:i=t
   . subst e;rw [look_eq];exact h.1
   . rw [ZaQ _ _ e];exact ZpE f L h.2 t
theorem Zrw (κ:Kd) (ob:List (Nat×AV)):ZmL κ .undef ob=none:=by
 cases κ <;> rfl
theorem Zif:∀ {ks:List (Nat×Kd)} {tm:List (Nat×AV)} {ob ob':List (Nat×AV)} {xs:List AV},ZeM ks tm ob=some (xs,ob') ->
   ∃ os,Moves (ks.map fun p=>look tm p.1) ((build ks xs).tm.map (·.2)) ob ob' (build ks xs).ob os/\(build ks xs).tm.map (·.1)=ks.map (·.1)/\∀ p∈ks,look tm p.1≠.undef
 | [], tm, ob, ob', xs, h => by
   simp only [ZeM,Option.some.injEq,Prod.mk.injEq] at h
   obtain ⟨rfl,rfl⟩:=h
   exact ⟨[],Moves.nil _,rfl,fun _ h=>(by cases h)⟩
 | (t, κ) :: ks, tm, ob, ob', xs, h => by
   simp only [ZeM] at h
   split at h
   case h_2=>cases h
   rename_i x ob1 h1
   split at h
   case h_2=>cases h
   rename_i xs' ob2 h2
   simp only [Option.some.injEq,Prod.mk.injEq] at h
   obtain ⟨rfl,rfl⟩:=h
   obtain ⟨os1,m1⟩:=ZrI h1 ((1024+t)*64)
   obtain ⟨os2,m2,e2,n2⟩:=Zif h2
   refine ⟨os1++os2,m1.append m2,?_,fun p hp=>?_⟩
   . show t::(build ks xs').tm.map (·.1)=t::ks.map (·.1)
     rw [e2]
   . rcases List.mem_cons.1 hp with rfl | hp
     . intro hu
       simp only at hu
       rw [hu,Zrw] at h1
       cases h1
     . exact n2 p hp
section
variable {V:Env} {J:Cx->Prop} {w0 w:World} {ok:Nat->Prop} {nt fid rounds:Nat} {σ τ:St} {a:Act}
def ZgO (ks:List (Nat×Kd)) (σ:St):Option (List AV) := match ZeM ks σ.tm σ.ob with
 | some (xs,_)=>bif Zgm (build ks xs).ob then some xs else none
 | none=>none
theorem Znf:∀ {ks:List (Nat×Kd)} {tm ob:List (Nat×AV)} {xs:List AV} {ob':List (Nat×AV)},ZeM ks tm ob=some (xs,ob')->xs.length=ks.length
 | [],_,_,_,_,h=>by simp [ZeM] at h;simp [h.1]
 | (t, κ) :: ks, tm, ob, xs, ob', h => by
   unfold ZeM at h
   split at h
   case h_2=>cases h
   rename_i x ob1 hx
   split at h
   case h_2=>cases h
   rename_i xs' ob2 hxs
   simp only [Option.some.injEq,Prod.mk.injEq] at h
   obtain ⟨rfl,rfl⟩:=h
   simp [Znf hxs]
theorem ZlV:∀ (ks:List (Nat×Kd)) (xs:List AV),xs.length=(noAl ks).length ->
   (build ks (Zee ks xs)).ob=(build (noAl ks) xs).ob /\
   ∀ t,look (build ks (Zee ks xs)).tm t=look (build (noAl ks) xs).tm t\/(∃ j off,(t,Kd.al j off)∈ks/\look (build ks (Zee ks xs)).tm t=Zlw j off)\/∃ f j off,(t,Kd.bal f j off)∈ks/\look (build ks (Zee ks xs)).tm t=.bfn f [Zlw j off]
 | [],xs,_=>by simp [Zee,noAl,build]
 | (s, κ) :: ks, xs, hl => by
   cases hκ:κ.isAl with
   | true =>
     have e:noAl ((s,κ)::ks)=noAl ks:=by simp [noAl,hκ]
     rw [e] at hl ⊢
     obtain ⟨h1,h2⟩:=ZlV ks xs hl
     obtain ⟨p,hb,hp⟩:∃ p,build ((s,κ)::ks) (Zee ((s,κ)::ks) xs)=⟨(s,p)::(build ks (Zee ks xs)).tm,(build ks (Zee ks xs)).ob⟩ /\
         ((∃ j off,κ=.al j off/\p=Zlw j off)\/∃ f j off,κ=.bal f j off/\p=.bfn f [Zlw j off]):=by
       cases κ <;> try (cases hκ;done)
       . rename_i j off
         exact ⟨_,rfl,.inl ⟨j,off,rfl,rfl⟩⟩
       . rename_i f j off
         exact ⟨_,rfl,.inr ⟨f,j,off,rfl,rfl⟩⟩
     rw [hb]
     refine ⟨h1,fun t=>?_⟩
     by_cases est:s=t
     . subst est
       rcases hp with ⟨j,off,rfl,rfl⟩ | ⟨f,j,off,rfl,rfl⟩
       . exact .inr (.inl ⟨j,off,by simp,look_eq _ _ _⟩)
       . exact .inr (.inr ⟨f,j,off,by simp,look_eq _ _ _⟩)
     . have hl2:look ((s,p)::(build ks (Zee ks xs)).tm) t=look (build ks (Zee ks xs)).tm t:=ZaQ _ _ est
       rcases h2 t with h | ⟨j',off',hm,h⟩ | ⟨f',j',off',hm,h⟩
       . exact .inl (hl2.trans h)
       . exact .inr (.inl ⟨j',off',List.mem_cons_of_mem _ hm,hl2.trans h⟩)
       . exact .inr (.inr ⟨f',j',off',List.mem_cons_of_mem _ hm,hl2.trans h⟩)
   | false =>
     have e:noAl ((s,κ)::ks)=(s,κ)::noAl ks:=by simp [noAl,hκ]
     rw [e] at hl ⊢
     cases xs with
     | nil=>simp at hl
     | cons x xs =>
       obtain ⟨h1,h2⟩:=ZlV ks xs (by simpa using hl)
       have hw:Zee ((s,κ)::ks) (x::xs)=x::Zee ks xs:=by cases κ <;> first | rfl | cases hκ
       rw [hw]
       have hb1:build ((s,κ)::ks) (x::Zee ks xs)=⟨(s,(Zfe ((1024+s)*64) x).1)::(build ks (Zee ks xs)).tm,(Zfe ((1024+s)*64) x).2++(build ks (Zee ks xs)).ob⟩:=rfl
       have hb2:build ((s,κ)::noAl ks) (x::xs)=⟨(s,(Zfe ((1024+s)*64) x).1)::(build (noAl ks) xs).tm,(Zfe ((1024+s)*64) x).2++(build (noAl ks) xs).ob⟩:=rfl
       rw [hb1,hb2]
       refine ⟨by simp only [h1],fun t=>?_⟩
       by_cases est:s=t
       . subst est
         exact .inl (by simp only [look_eq])
       . simp only
         rw [ZaQ _ _ est,ZaQ _ _ est]
         rcases h2 t with h | ⟨j',off',hm,h⟩ | ⟨f',j',off',hm,h⟩
         . exact .inl h
         . exact .inr (.inl ⟨j',off',List.mem_cons_of_mem _ hm,h⟩)
         . exact .inr (.inr ⟨f',j',off',List.mem_cons_of_mem _ hm,h⟩)
theorem ZkJ {v:AV} (h:ZoD v=true):∃ cs,v=.box cs:=by
 cases v <;> first | exact ⟨_,rfl⟩ | cases h
theorem ZCg {σ τ:St} {t j off:Nat} (h:alOk σ τ t j off=true) :
   ∃ id cs cs',look σ.tm t=.ptr id off/\look σ.tm j=.ptr id 0/\look τ.tm j=.ptr ((1024+j)*64) 0/\look σ.ob id=.box cs/\look τ.ob ((1024+j)*64)=.box cs':=by
 unfold alOk at h
 split at h
 . rename_i a o b c e1 e2 e3
   simp only [Bool.and_eq_true] at h
   obtain ⟨⟨⟨q1,q2⟩,q3⟩,o1,o2⟩:=h
   have q1:=Nat.eq_of_beq_eq_true q1
   have q2:=Nat.eq_of_beq_eq_true q2
   have q3:=Nat.eq_of_beq_eq_true q3
   subst q1 q2 q3
   obtain ⟨cs,o1⟩:=ZkJ o1
   obtain ⟨cs',o2⟩:=ZkJ o2
   exact ⟨a,cs,cs',e1,e2,e3,o1,o2⟩
 . cases h
theorem ZzA {σ τ:St} {t:Nat} {f:FuncId} {j off:Nat} (h:ZoZ σ τ t f j off=true) :
   ∃ id cs cs',look σ.tm t=.bfn f [.ptr id off]/\look σ.tm j=.ptr id 0/\look τ.tm j=.ptr ((1024+j)*64) 0/\look σ.ob id=.box cs/\look τ.ob ((1024+j)*64)=.box cs':=by
 unfold ZoZ at h
 split at h
 . rename_i g a o b c e1 e2 e3
   simp only [Bool.and_eq_true] at h
   obtain ⟨q0,⟨⟨q1,q2⟩,q3⟩,o1,o2⟩:=h
   have q0:=Nat.eq_of_beq_eq_true q0
   have q1:=Nat.eq_of_beq_eq_true q1
   have q2:=Nat.eq_of_beq_eq_true q2
   have q3:=Nat.eq_of_beq_eq_true q3
   subst q0 q1 q2 q3
   obtain ⟨cs,o1⟩:=ZkJ o1
   obtain ⟨cs',o2⟩:=ZkJ o2
   exact ⟨a,cs,cs',e1,e2,e3,o1,o2⟩
 . cases h
theorem Zqr {σ τ:St} {s:Nat} {κ:Kd} {ks:List (Nat×Kd)} (h:ZeW σ τ ((s,κ)::ks)=true):ZeW σ τ ks=true:=by
 cases κ <;> try exact h
 . rename_i j' off'
   cases hb:alOk σ τ s j' off' with
   | true=>simpa only [ZeW,hb,cond_true] using h
   | false=>simp only [ZeW,hb,cond_false] at h;cases h
 . rename_i f' j' off'
   cases hb:ZoZ σ τ s f' j' off' with
   | true=>simpa only [ZeW,hb,cond_true] using h
   | false=>simp only [ZeW,hb,cond_false] at h;cases h
theorem ZsF {σ τ:St}:∀ {ks:List (Nat×Kd)},ZeW σ τ ks=true->∀ t f j off,(t,Kd.bal f j off)∈ks->ZoZ σ τ t f j off=true
 | [],_,_,_,_,_,h=>by cases h
 | (s, κ) :: ks, h, t, f, j, off, hm => by
   rcases List.mem_cons.1 hm with e | hm
   . simp only [Prod.mk.injEq] at e
     obtain ⟨rfl,rfl⟩:=e
     cases hb:ZoZ σ τ t f j off with
     | true=>rfl
     | false=>simp only [ZeW,hb,cond_false] at h;cases h
   . exact ZsF (Zqr h) t f j off hm
theorem Zt0 {σ τ:St}:∀ {ks:List (Nat×Kd)},ZeW σ τ ks=true->∀ t j off,(t,Kd.al j off)∈ks->alOk σ τ t j off=true
 | [],_,_,_,_,h=>by cases h
 | (s, κ) :: ks, h, t, j, off, hm => by
   have tail:ZeW σ τ ks=true:=Zqr h
   rcases List.mem_cons.1 hm with e | hm
   . simp only [Prod.mk.injEq] at e
     obtain ⟨rfl,rfl⟩:=e
     cases hb:alOk σ τ t j off with
     | true=>rfl
     | false=>simp only [ZeW,hb,cond_false] at h;cases h
   . exact Zt0 tail t j off hm
theorem ZpK {ks:List (Nat×Kd)} {hd:List AV} (hJB:∀ c c':Cx,(∀ b,c.okb b->c'.okb b)->c'.w=c.w->J c->J c') (hh:Holds J w0 ok nt ds σ a w) (h:ZgO ks σ=some hd):Holds J w0 ok nt ds (build ks hd) a w:=by
 obtain ⟨mu,hr,hj⟩:=hh
 unfold ZgO at h
 split at h
 case h_2=>cases h
 rename_i xs ob' hx
 cases hn:Zgm (build ks xs).ob with
 | false=>rw [hn] at h;cases h
 | true =>
   rw [hn] at h
   obtain rfl:=Option.some.inj h
   obtain ⟨os,m,hk,hu⟩:=Zif hx
   have hnd:=Zh0 _ hn
   obtain ⟨mu2,hm2,hv,hokb⟩:=Zjq hr.mem m hnd (Zcr _ hnd) (fun i hi=>ZcV _ i hi)
   have hv':=hv (ks.map fun p=>a.tmps.getD p.1 undef) (by
     have:∀ (l:List (Nat×Kd)),VL (cx w σ.ob mu ok) (l.map fun p=>look σ.tm p.1) (l.map fun p=>a.tmps.getD p.1 undef):=by
       intro l
       induction l with
       | nil=>trivial
       | cons p l ih=>exact ⟨ZaJ hr (.tmp p.1),ih⟩
     exact this ks)
   have hsl:=ZpE (fun t=>a.tmps.getD t undef) (build ks xs).tm (by rw [hk,List.map_map];exact hv')
   refine ⟨mu2,⟨hm2,fun t _=>hsl t,fun t ht=>?_,hr.size,hr.defers,⟨hr.marks.1,fun d hd=>by obtain ⟨D,e,h0,h1,h2⟩:=hr.marks.2 d hd;exact ⟨D,e,h0,hokb D h1,h2⟩⟩⟩,hJB _ _ hokb rfl hj⟩
   refine ZcV _ t fun p hp e=>?_
   have hp1:p.1∈ks.map (·.1):=by rw [<- hk];exact List.mem_map.2 ⟨p,hp,rfl⟩
   obtain ⟨q,hq,he⟩:=List.mem_map.1 hp1
   apply hu q hq
   rw [he,e]
   exact hr.far t ht
theorem ZmM {ks:List (Nat×Kd)} {hd:List AV} (hJB:∀ c c':Cx,(∀ b,c.okb b->c'.okb b)->c'.w=c.w->J c->J c') (hh:Holds J w0 ok nt ds σ a w) (h:norm ks σ=some hd):Holds J w0 ok nt ds (build ks hd) a w:=by
 unfold norm at h
 split at h
 case h_2=>cases h
 rename_i xs ob' hx
 cases hn:(Zgm (build (noAl ks) xs).ob && ZeW σ (build (noAl ks) xs) ks) with
 | false=>rw [hn] at h;cases h
 | true =>
   rw [hn] at h
   obtain rfl:=Option.some.inj h
   rw [Bool.and_eq_true] at hn
   have hB:ZgO (noAl ks) σ=some xs:=by
     unfold ZgO
     rw [hx]
     simp only [hn.1,cond_true]
   obtain ⟨mu,hr,hj⟩:=hh
   obtain ⟨mu2,hr2,hj2⟩:=ZpK hJB ⟨mu,hr,hj⟩ hB
   obtain ⟨hob,htm⟩:=ZlV ks xs (Znf hx)
   rw [<- hob] at hj2
   have hal:=fun t j off hm=>ZCg (Zt0 hn.2 t j off hm)
   have hbal:=fun t f j off hm=>ZzA (ZsF hn.2 t f j off hm)
   have key:∀ (id j off:Nat) (cs cs':List AV) (pv:Value),look σ.tm j=.ptr id 0->look (build (noAl ks) xs).tm j=.ptr ((1024+j)*64) 0->look σ.ob id=.box cs->look (build (noAl ks) xs).ob ((1024+j)*64)=.box cs' ->
       PtrV (cx w σ.ob mu ok) id off pv->PtrV (cx w (build (noAl ks) xs).ob mu2 ok) ((1024+j)*64) off pv:=by
     intro id j off cs cs' pv e2 e3 o1 o2 v1
     have v2:=ZaJ hr (.tmp j)
     have v3:=ZaJ hr2 (.tmp j)
     rw [show valOf σ (.tmp j)=look σ.tm j from rfl,e2] at v2
     rw [show valOf (build (noAl ks) xs) (.tmp j)=look (build (noAl ks) xs).tm j from rfl,e3] at v3
     have v2:PtrV (cx w σ.ob mu ok) id 0 (a.tmps.getD j undef):=v2
     have v3:PtrV (cx w (build (noAl ks) xs).ob mu2 ok) ((1024+j)*64) 0 (a.tmps.getD j undef):=v3
     unfold PtrV at v1 v2 v3 ⊢
     rw [show (cx w σ.ob mu ok).ob id=.box cs from o1] at v1 v2
     rw [show (cx w (build (noAl ks) xs).ob mu2 ok).ob ((1024+j)*64)=.box cs' from o2] at v3 ⊢
     obtain ⟨b,k1,k2⟩:=v1
     obtain ⟨b',k1',k2'⟩:=v2
     obtain ⟨b'',k1'',k2''⟩:=v3
     rw [k1] at k1'
     obtain rfl:=Option.some.inj k1'
     rw [k2'] at k2''
     have:b=b'':=by simpa using k2''
     subst this
     exact ⟨b,k1'',k2⟩
   refine ⟨mu2,⟨by rw [hob];exact hr2.mem,fun t ht=>?_,fun t ht=>?_,hr2.size,hr2.defers,by rw [hob];exact hr2.marks⟩,hj2⟩
   . rw [hob]
     rcases htm t with e | ⟨j,off,hm,e⟩ | ⟨f,j,off,hm,e⟩
     . rw [e];exact hr2.tm t ht
     . obtain ⟨id,cs,cs',e1,e2,e3,o1,o2⟩:=hal t j off hm
       have v1:=ZaJ hr (.tmp t)
       rw [show valOf σ (.tmp t)=look σ.tm t from rfl,e1] at v1
       rw [e]
       exact key id j off cs cs' _ e2 e3 o1 o2 v1
     . obtain ⟨id,cs,cs',e1,e2,e3,o1,o2⟩:=hbal t f j off hm
       have v1:=ZaJ hr (.tmp t)
       rw [show valOf σ (.tmp t)=look σ.tm t from rfl,e1] at v1
       rw [e]
       obtain ⟨vs,hv,hvl⟩:=v1
       refine ⟨vs,hv,?_⟩
       generalize vs.toList=us at hvl ⊢
       match us,hvl with
       | [pv],hvl=>exact ⟨key id j off cs cs' pv e2 e3 o1 o2 hvl.1,trivial⟩
       | [],hvl=>exact hvl.elim
       | _::_::_,hvl=>exact hvl.2.elim
   . rcases htm t with e | ⟨j,off,hm,e⟩ | ⟨f,j,off,hm,e⟩
     . rw [e];exact hr2.far t ht
     . obtain ⟨id,cs,cs',e1,_⟩:=hal t j off hm
       rw [hr.far t ht] at e1
       cases e1
     . obtain ⟨id,cs,cs',e1,_⟩:=hbal t f j off hm
       rw [hr.far t ht] at e1
       cases e1
theorem ZrL {ks:List (Nat×Kd)} {hd:List AV} (hh:Holds J w0 ok nt ds σ a w) (h:norm ks σ=some hd):Holds T w0 ok nt ds (build ks hd) a w :=
 ZmM (J:=T) (fun _ _ _ _ _=>trivial) (by obtain ⟨mu,hr,_⟩:=hh;exact ⟨mu,hr,trivial⟩) h
theorem ZBu {ρ:Type} {L:Nat->Option LSpec} {inl:Inl ρ} (hG:Zai V) (hI:Zgb V inl) (hJ:Stays J) (hLJ:∀ id s,L id=some s->∀ c,J c) {ro:Option Nat} {Δ:List Deferred->Prop} (hΔ:∀ id s,L id=some s->∀ ds,Δ ds) :
   ∀ (c : Code), (∀ {σ : St} {a : Act} {w : World} {k : Ex -> St -> Option ρ} {r : ρ} {Q : Exit -> Act -> World -> Prop}, (∀ c' ∈ ZaZ c, ∀ s, L (ZaH c') = some s -> LoopOK V nt s c' /\ (Zdu c' = true -> ro = none)) ->
     Zdc Δ J w0 ok nt σ a w->evK V L inl fid nt rounds c σ k=some r->(∀ e σ' a' w',Zdc Δ J w0 ok nt σ' a' w'->k e σ'=some r->Q e.to a' w')->c.wpIn (Za4 ro) 0 V.P Q a w) /\
     ∀ (l:Nat) (rest:Code),findLabel c l=some rest->∀ {σ:St} {a:Act} {w:World} {k:Ex->St->Option ρ} {r:ρ} {Q:Exit->Act->World->Prop},(∀ c'∈ZaZ c,∀ s,L (ZaH c')=some s->LoopOK V nt s c'/\(Zdu c'=true->ro=none)) ->
     Zdc Δ J w0 ok nt σ a w->evT V L inl fid nt rounds l c σ k=some r->(∀ e σ' a' w',Zdc Δ J w0 ok nt σ' a' w'->k e σ'=some r->Q e.to a' w')->rest.wpIn (Za4 ro) 0 V.P Q a w:=by
 intro c
 induction c with
 | skip =>
   refine ⟨?_,fun l rest hf=>by simp [findLabel] at hf⟩
   intro σ a w k r Q _ hh h hn
   exact wpIn_skip (hn _ _ _ _ hh h)
 | label l0 =>
   refine ⟨?_,fun l rest hf=>?_⟩
   . intro σ a w k r Q _ hh h hn
     exact wpIn_label (hn _ _ _ _ hh h)
   . intro σ a w k r Q _ hh h hn
     simp only [findLabel] at hf
     split at hf
     . rename_i hb
       obtain rfl:=Option.some.inj hf
       simp only [evT] at h
       have hb:l0=l:=by simpa using hb
       subst hb
       rw [show Nat.beq l0 l0=true by simp] at h
       exact wpIn_skip (hn .normal _ _ _ hh h)
     . cases hf
 | region id ops draw =>
   refine ⟨?_,fun l rest hf=>by simp [findLabel] at hf⟩
   intro σ a w k r Q _ hh h hn
   obtain ⟨ds,hd,hh⟩:=hh
   exact ZCj hG hI hJ hh h fun σ' a' w' hh' h'=>hn .normal σ' a' w' ⟨ds,hd,hh'⟩ h'
 | seq x y ihx ihy =>
   refine ⟨?_,fun l rest hf=>?_⟩
   rotate_left
   . intro σ a w k r Q hl hh h hn
     cases hx:findLabel x l with
     | some r1 =>
       simp only [findLabel,hx] at hf
       obtain rfl:=Option.some.inj hf
       simp only [evT,hx] at h
       refine wpIn_seq (ihx.2 l r1 hx (fun c' hc=>hl c' (List.mem_append_left _ hc)) hh h fun e σ' a' w' hh' h'=>?_)
       cases e with
       | normal=>exact ihy.1 (fun c' hc=>hl c' (List.mem_append_right _ hc)) hh' h' hn
       | exit id=>exact hn _ _ _ _ hh' h'
       | goto l=>exact hn _ _ _ _ hh' h'
       | ret=>exact hn _ _ _ _ hh' h'
     | none =>
       simp only [findLabel,hx] at hf
       simp only [evT,hx] at h
       exact ihy.2 l rest hf (fun c' hc=>hl c' (List.mem_append_right _ hc)) hh h hn
   intro σ a w k r Q hl hh h hn
   refine wpIn_seq (ihx.1 (fun c' hc=>hl c' (List.mem_append_left _ hc)) hh h fun e σ' a' w' hh' h'=>?_)
   cases e with
   | normal=>exact ihy.1 (fun c' hc=>hl c' (List.mem_append_right _ hc)) hh' h' hn
   | exit id=>exact hn _ _ _ _ hh' h'
   | goto l=>exact hn _ _ _ _ hh' h'
   | ret=>exact hn _ _ _ _ hh' h'
 | cond c x y ihx ihy =>
   refine ⟨?_,fun l rest hf=>by simp [findLabel] at hf⟩
   intro σ a w k r Q hl hh h hn
   simp only [evK] at h
   split at h
   case h_2=>cases h
   rename_i t ht
   obtain ⟨ds,hds,mu,hr,hj⟩:=hh
   have hc:=ZaJ hr c
   rw [ht] at hc
   simp only [Mill.V] at hc
   refine wpIn_cond hc ?_
   cases t with
   | true=>exact ihx.1 (fun c' hc=>hl c' (List.mem_append_left _ hc)) ⟨ds,hds,mu,hr,hj⟩ h hn
   | false=>exact ihy.1 (fun c' hc=>hl c' (List.mem_append_right _ hc)) ⟨ds,hds,mu,hr,hj⟩ h hn
 | block id c ih =>
   refine ⟨?_,fun l rest hf=>by simp [findLabel] at hf⟩
   intro σ a w k r Q hl hh h hn
   refine wpIn_block (ih.1 hl hh h fun e σ' a' w' hh' h'=>?_)
   cases e with
   | normal=>exact hn _ _ _ _ hh' h'
   | exit id' =>
     show if id'=id then Q .normal a' w' else Q (.exit id') a' w'
     simp only at h'
     by_cases he:id'=id
     . subst he
       rw [if_pos rfl]
       rw [show Nat.beq id' id'=true by simp] at h'
       exact hn _ _ _ _ hh' h'
     . rw [if_neg he]
       have hf:Nat.beq id' id=false:=by
         cases hb:Nat.beq id' id with
         | false=>rfl
         | true=>exact (he (Nat.eq_of_beq_eq_true hb)).elim
       rw [hf] at h'
       exact hn _ _ _ _ hh' h'
   | goto l=>exact hn _ _ _ _ hh' h'
   | ret=>exact hn _ _ _ _ hh' h'
 | loop c ih =>
   refine ⟨?_,fun l rest hf=>by simp [findLabel] at hf⟩
   intro σ a w k r Q hl hh h hn
   refine Zgv ?_
   simp only [evK] at h
   split at h
   . have hl':∀ c'∈ZaZ c,∀ s,L (ZaH c')=some s->LoopOK V nt s c'/\(Zdu c'=true->ro=none):=fun c' hc=>hl c' (List.mem_cons_of_mem _ hc)
     have key:∀ (n:Nat) (σ:St) (a:Act) (w:World),Zdc Δ J w0 ok nt σ a w->Zw5 (fun σ k=>evK V L inl fid nt rounds c σ k) k n σ=some r->Zd6 ro V.P c Q a w:=by
       intro n
       induction n with
       | zero=>intro σ a w _ h;cases h
       | succ n ihn =>
         intro σ a w hh h
         refine Zc6 (ih.1 hl' hh h fun e σ' a' w' hh' h'=>?_)
         cases e with
         | normal=>exact ihn σ' a' w' hh' h'
         | exit id=>exact hn _ _ _ _ hh' h'
         | goto l=>exact hn _ _ _ _ hh' h'
         | ret=>exact hn _ _ _ _ hh' h'
     exact key rounds σ a w hh h
   . rename_i s hs
     cases hir:Zdu c with
     | true=>rw [hir] at hs;cases hs
     | false =>
     rw [hir] at hs
     have hs:L (ZaH c)=some s:=hs
     split at h
     case h_1=>cases h
     rename_i hd hnorm
     split at h
     case h_1=>cases h
     rename_i x hdec
     split at h
     case h_1=>cases h
     rename_i y hrun
     rw [s.law] at h
     obtain ⟨ds,_,hh⟩:=hh
     refine ZlX ((hl c (by simp [ZaZ]) s hs).1.loop hir ro w0 ok hd x y a w hdec hrun ⟨ds,trivial,ZrL hh hnorm⟩) fun e a' w' he=>?_
     obtain ⟨rfl,ds',_,mu,hr,_⟩:=he
     exact hn _ _ _ _ ⟨ds',hΔ _ _ hs ds',mu,hr,hLJ _ _ hs _⟩ h
 | exit id =>
   refine ⟨?_,fun l rest hf=>by simp [findLabel] at hf⟩
   intro σ a w k r Q _ hh h hn
   exact wpIn_exit (hn (.exit id) _ _ _ hh h)
 | goto l =>
   refine ⟨?_,fun l rest hf=>by simp [findLabel] at hf⟩
   intro σ a w k r Q _ hh h hn
   exact wpIn_goto (hn (.goto l) _ _ _ hh h)
 | ret =>
   refine ⟨?_,fun l rest hf=>by simp [findLabel] at hf⟩
   intro σ a w k r Q _ hh h hn
   exact wpIn_ret (hn .ret _ _ _ hh h)
 | rangeFunc g ps x y _ _ =>
   refine ⟨?_,fun l rest hf=>by simp [findLabel] at hf⟩
   intro σ a w k r Q hl hh h hn
   cases g with
   | tmp gt =>
     simp only [evK] at h
     split at h
     case h_1=>cases h
     rename_i gv ob' hfz
     split at h
     case h_1=>cases h
     rename_i s hs
     split at h
     case h_1=>cases h
     rename_i hd hnorm
     split at h
     case h_1=>cases h
     rename_i z hdec
     split at h
     case h_1=>cases h
     rename_i y' hrun
     rw [s.law] at h
     obtain ⟨ds,_,hh⟩:=hh
     obtain ⟨hrg,hro⟩:=hl (.rangeFunc (.tmp gt) ps x y) (by simp [ZaZ]) s hs
     obtain rfl:=hro rfl
     have hrg:Zl4 V nt s (.rangeFunc (.tmp gt) ps x y):=hrg
     refine wpIn_mono (hrg w0 ok hd z y' a w hdec hrun ⟨ds,trivial,ZrL (Zwp hh hfz) hnorm⟩) fun e a' w' he=>?_
     obtain ⟨rfl,ds',_,mu,hr,_⟩:=he
     exact hn _ _ _ _ ⟨ds',hΔ _ _ hs ds',mu,hr,hLJ _ _ hs _⟩ h
   | const v=>simp [evK] at h
   | func f=>simp [evK] at h
   | global g=>simp [evK] at h
 | scope c ih =>
   refine ⟨?_,fun l rest hf=>by simp [findLabel] at hf⟩
   intro σ a w k r Q hl hh h hn
   refine Zqs (ih.1 hl hh h fun e σ' a' w' hh' h'=>?_)
   cases e with
   | normal=>exact hn _ _ _ _ hh' h'
   | exit id'=>exact hn _ _ _ _ hh' h'
   | goto l =>
     simp only at h'
     split at h'
     . cases h'
     . rename_i rest hf
       refine ⟨rest,hf,ih.2 l rest hf hl hh' h' fun e2 σ2 a2 w2 hh2 h2=>?_⟩
       cases e2 with
       | normal=>exact hn _ _ _ _ hh2 h2
       | exit id'=>exact hn _ _ _ _ hh2 h2
       | goto l=>cases h2
       | ret=>exact hn _ _ _ _ hh2 h2
   | ret=>exact hn _ _ _ _ hh' h'
 | refuse why =>
   refine ⟨?_,fun l rest hf=>by simp [findLabel] at hf⟩
   intro σ a w k r Q _ hh h hn
   simp [evK] at h
theorem ZfF {ρ:Type} {L:Nat->Option LSpec} {inl:Inl ρ} (hG:Zai V) (hI:Zgb V inl) (hJ:Stays J) (hLJ:∀ id s,L id=some s->∀ c,J c) {ro:Option Nat} {Δ:List Deferred->Prop} (hΔ:∀ id s,L id=some s->∀ ds,Δ ds) :
   ∀ (c : Code) {σ : St} {a : Act} {w : World} {k : Ex -> St -> Option ρ} {r : ρ} {Q : Exit -> Act -> World -> Prop}, (∀ c' ∈ ZaZ c, ∀ s, L (ZaH c') = some s -> LoopOK V nt s c' /\ (Zdu c' = true -> ro = none)) ->
     Zdc Δ J w0 ok nt σ a w->evK V L inl fid nt rounds c σ k=some r->(∀ e σ' a' w',Zdc Δ J w0 ok nt σ' a' w'->k e σ'=some r->Q e.to a' w')->c.wpIn (Za4 ro) 0 V.P Q a w:=fun c=>(ZBu hG hI hJ hLJ hΔ c).1
end
end Go.Proofs.Mill
namespace Go.Proofs.Mill
variable {ds:List Deferred}
open Go.RowKit
structure MonoC (c c':Cx):Prop extends Mono5 c c' where
  blkc:∀ b cur e m,c.okb b->c.w.heap[b]?=some (.cells cur e m)->c'.okb b/\c'.w.heap[b]?=c.w.heap[b]?
mutual
theorem MonoC.v {c c':Cx} (h:MonoC c c'):∀ (x:AV) (v:Value),V c x v->V c' x v
 | .undef,_,_=>trivial
 | .int _ _,_,hv=>hv
 | .bool _,_,hv=>hv
 | .str _,_,hv=>hv
 | .lst _ _,_,hv=>h.dv _ _ hv
 | .lstn _ _,_,hv=>⟨h.dv _ _ hv.1,hv.2⟩
 | .emp,_,hv=>hv
 | .own _,_,hv=>h.own _ _ hv
 | .ownv _ _ _,_,hv=>hv
 | .ptr _ _,_,hv=>h.ptr _ _ _ hv
 | .eptr _ _ _,_,hv=>h.eptr _ _ _ _ hv
 | .lptr _ _ _ _,_,hv=>h.lptr _ _ _ _ _ hv
 | .cptr cs _,_,⟨b,cur,e,h1,h2,h3,h4⟩=>⟨b,cur,e,h1,(h.blkc b _ _ _ h2 h3).1,((h.blkc b _ _ _ h2 h3).2).trans h3,h.vl cs cur.toList h4⟩
 | .agg cs,_,⟨vs,e,hv⟩=>⟨vs,e,h.vl cs vs.toList hv⟩
 | .tup cs,_,⟨vs,e,hv⟩=>⟨vs,e,h.vl cs vs.toList hv⟩
 | .fn _ caps,_,⟨vs,e,hv⟩=>⟨vs,e,h.vl caps vs.toList hv⟩
 | .bfn _ first,_,⟨vs,e,hv⟩=>⟨vs,e,h.vl first vs.toList hv⟩
 | .cst _,_,hv=>hv
 | .ifc _ x,_,⟨u,e,hv⟩=>⟨u,e,h.v x u hv⟩
 | .box _,_,hv=>hv
 | .row _ _ _,_,hv=>hv
 | .frz _ _,_,hv=>hv
 | .dead,_,hv=>hv
theorem MonoC.vl {c c':Cx} (h:MonoC c c'):∀ (xs:List AV) (vs:List Value),VL c xs vs->VL c' xs vs
 | [],[],hv=>hv
 | x::xs,v::vs,⟨a,b⟩=>⟨h.v x v a,h.vl xs vs b⟩
end
section
variable {w0 w w':World} {ok:Nat->Prop} {nt:Nat} {σ:St} {a:Act} {mu:Nat->Option Nat} {ob:List (Nat×AV)} {r:Nat} {o:Obj}
theorem Zsw (ht:Turned w w' fun k=>k=r) (ho:w.heap[r]?=some o) (hc:o.isCells=false) {b n:Nat} {u:Value} (h:w.cell? ⟨b,n,none⟩=some u):w'.cell? ⟨b,n,none⟩=some u:=by
 have hb:∃ o',w.heap[b]?=some o':=by
   cases hb:w.heap[b]? with
   | some o'=>exact ⟨o',rfl⟩
   | none=>simp [World.cell?,hb] at h
 obtain ⟨o',hb⟩:=hb
 have hne:b≠r:=by
   rintro rfl
   rw [ho] at hb
   obtain rfl:=Option.some.inj hb
   cases o <;> first | (cases hc;done) | simp [World.cell?,ho] at h
 rw [cell?_heap (ht.block b (Array.getElem?_eq_some_iff.1 hb).1 hne)]
 exact h
theorem Zlt (ht:Turned w w' fun k=>k=r) (ho:w.heap[r]?=some o) (hc:o.isCells=false) {b:Nat} {cur:Array Value} {e:TypeId} {m:Nat×Nat} (h:w.heap[b]?=some (.cells cur e m)):w'.heap[b]?=some (.cells cur e m):=by
 have hne:b≠r:=by
   rintro rfl
   rw [ho] at h
   obtain rfl:=Option.some.inj h
   cases hc
 rw [ht.block b (Array.getElem?_eq_some_iff.1 h).1 hne]
 exact h
theorem ZhI (ht:Turned w w' fun k=>k=r) (ho:w.heap[r]?=some o) (hc:o.isCells=false):MonoC (cx w ob mu ok) (cx w' ob mu ok):=by
 have hokb:∀ b,(cx w ob mu ok).okb b->(cx w' ob mu ok).okb b:=fun b h=>⟨h.1,Nat.lt_of_lt_of_le h.2.1 ht.size,h.2.2⟩
 have hdv:∀ d v,(cx w ob mu ok).DV d v->(cx w' ob mu ok).DV d v:=by
   intro d v h
   induction h with
   | int k n=>exact .int k n
   | bool b=>exact .bool b
   | str s=>exact .str s
   | fn f=>exact .fn f
   | nil sz A c hA=>exact .nil sz A c hA
   | lst sz rows b off c u hc' hsz hcell hdv hb ih =>
     exact .lst sz rows b off c u hc' hsz (fun j d hj=>Zsw ht ho hc (hcell j d hj)) (fun j d hj=>ih j d hj) (hokb b hb)
 have hlp:∀ τ xs i off v,LptrV (cx w ob mu ok) τ xs i off v->LptrV (cx w' ob mu ok) τ xs i off v:=by
   rintro τ xs i off v ⟨hi,b,o',u,rfl,hb,hcl,hd⟩
   exact ⟨hi,b,o',u,rfl,hokb b hb,fun j d hj=>Zsw ht ho hc (hcl j d hj),fun j d hj=>hdv _ _ (hd j d hj)⟩
 refine ⟨⟨hdv,fun id v h=>?_,fun id off v h=>?_,fun id i off v h=>?_,hlp⟩,fun b cur e m hb h=>⟨hokb b hb,?_⟩⟩
 . unfold OwnV at h ⊢
   change (match look ob id with | .row e τ xs=>_ | .frz τ xs=>_ | .dead=>_ | .gone _=>_ | _=>_) at h
   show (match look ob id with | .row e τ xs=>_ | .frz τ xs=>_ | .dead=>_ | .gone _=>_ | _=>_)
   cases hob:look ob id <;> rw [hob] at h <;> try exact h
   case row e τ xs =>
     rcases h with h | ⟨b,cap,cur,h1,h2,h3,h4⟩
     . exact .inl h
     . exact .inr ⟨b,cap,cur,h1,⟨Zlt ht ho hc h2.1,h2.2⟩,h3,h4⟩
   case frz τ xs=>exact hdv _ _ h
 . exact h
 . unfold EptrV at h ⊢
   change (match look ob id with | .row e τ xs=>_ | .frz τ xs=>_ | .dead=>_ | .gone _=>_ | _=>_) at h
   show (match look ob id with | .row e τ xs=>_ | .frz τ xs=>_ | .dead=>_ | .gone _=>_ | _=>_)
   cases hob:look ob id <;> rw [hob] at h <;> try exact h
   case frz τ xs=>exact hlp _ _ _ _ _ h
 . exact (Zlt ht ho hc h).trans h.symm
theorem ZAn (hm:Mem w0 (cx w ob mu ok)) (ht:Turned w w' fun k=>k=r) (ho:w.heap[r]?=some o) (hc:o.isCells=false) (hr:w0.heap.size<=r):Mem w0 (cx w' ob mu ok):=by
 have hmono:MonoC (cx w ob mu ok) (cx w' ob mu ok):=ZhI ht ho hc
 refine ⟨fun id=>?_,hm.inj,hm.base,ht.ext hm.ext (fun k e=>by subst e;exact hr),hm.okn_of rfl ht.size fun _ _ h2=>h2⟩
 have h:=hm.obj id
 unfold ObjOK at h ⊢
 change (match look ob id with | .box cs=>_ | .row e τ xs=>_ | .undef=>_ | .dead=>_ | .gone _=>_ | .frz _ _=>_ | _=>_) at h
 show (match look ob id with | .box cs=>_ | .row e τ xs=>_ | .undef=>_ | .dead=>_ | .gone _=>_ | .frz _ _=>_ | _=>_)
 cases hob:look ob id <;> rw [hob] at h <;> try exact h
 case box cs =>
   obtain ⟨b,cur,e,h1,h2,h3⟩:=h
   exact ⟨b,cur,e,h1,Zlt ht ho hc h2,hmono.vl _ _ h3⟩
 case row e τ xs =>
   rcases h with h | ⟨b,cap,cur,h1,h2,h3,h4,h5⟩
   . exact .inl h
   . exact .inr ⟨b,cap,cur,h1,⟨Zlt ht ho hc h2.1,h2.2⟩,h3,h4,Zud hmono.dv h5⟩
theorem R.turn (hr:R w0 ok nt ds σ a w mu) (ht:Turned w w' fun k=>k=r) (ho:w.heap[r]?=some o) (hc:o.isCells=false) (hb:w0.heap.size<=r) (hd:∀ d∈ds,d≠{ target:=.collected r,args:=#[] }):R w0 ok nt ds σ a w' mu:=by
 have hmono:MonoC (cx w σ.ob mu ok) (cx w' σ.ob mu ok):=ZhI ht ho hc
 refine ⟨ZAn hr.mem ht ho hc hb,fun t h=>hmono.v _ _ (hr.tm t h),hr.far,hr.size,hr.defers,hr.marks.1,fun d hdd=>?_⟩
 obtain ⟨D,e,h0,h1,h2⟩:=hr.marks.2 d hdd
 have hne:D≠r:=by
   rintro rfl
   exact hd d hdd e
 exact ⟨D,e,h0,⟨h1.1,Nat.lt_of_lt_of_le h1.2.1 ht.size,h1.2.2⟩,(ht.block D h1.2.1 hne).trans h2⟩
theorem Zsh (ht:Turned w w' fun _=>False) (hm:Mem w0 (cx w ob mu ok)):Mono (cx w ob mu ok) (cx w' ob mu ok) :=
 Zdf (fun b hb=>⟨⟨hb.1,Nat.lt_of_lt_of_le hb.2.1 ht.size,hb.2.2⟩,ht.block b hb.2.1 (fun x=>x)⟩) (fun id=>.inr (.inr (.inl ⟨rfl,rfl,fun b hb=>ht.block b (hm.lt hb) (fun x=>x)⟩))) (fun b hb h=>⟨h,ht.block b hb (fun x=>x)⟩)
theorem mem_grow (ht:Turned w w' fun _=>False) (hm:Mem w0 (cx w ob mu ok)):Mem w0 (cx w' ob mu ok) :=
 ⟨fun id=>(hm.obj id).keep (Zsh ht hm) rfl rfl (fun b hb=>ht.block b (hm.lt hb) (fun x=>x)),hm.inj,hm.base,ht.ext hm.ext (fun _ h=>h.elim),hm.okn_of rfl ht.size fun _ _ h2=>h2⟩
theorem R.grow (hr:R w0 ok nt ds σ a w mu) (ht:Turned w w' fun _=>False):R w0 ok nt ds σ a w' mu :=
 hr.go (mem_grow ht hr.mem) (Zsh ht hr.mem)
theorem ZcT (w:World) (r:Nat) (o:Obj):Turned w (w.putObj r o) fun k=>k=r :=
 ⟨rfl,rfl,rfl,by simp,fun k _ h=>World.putObj_heap_other h⟩
end
end Go.Proofs.Mill
namespace Go.Proofs.Mill
variable {ds:List Deferred}
open Go.RowKit
section
variable {V:Env} {J:Cx->Prop} {w0 w:World} {ok:Nat->Prop} {nt fid rounds:Nat} {σ τ:St} {a:Act} {mu:Nat->Option Nat}
def resM (a:Act):ResultVar->Sem Value
 | .tmp t=>pure (a.tmps.getD t undef)
 | .cell b t=>do loadVar t (<- asAddr (a.tmps.getD b undef))
theorem ZAa {α:Type} {k:AV->Rd α} {r:α} {t:TypeId} {p:AV} {pv:Value} {c:Cx} (h:(rdAt V t p k).val σ=some r) (hp:Mill.V c p pv):∃ x,pv=.pointer (some x):=by
 cases p <;> try (simp [rdAt,Rd.val] at h;done)
 case ptr=>exact PtrV.some hp
 case eptr=>exact EptrV.some hp
 case lptr=>obtain ⟨_,b,o,_,rfl,_⟩:=hp;exact ⟨_,rfl⟩
 case cptr=>obtain ⟨_,_,_,rfl,_⟩:=hp;exact ⟨_,rfl⟩
theorem ZpN {α:Type} (hr:R w0 ok nt ds σ a w mu):∀ (l:List ResultVar) (k:List AV->Rd α) (r:α),(Zf5 V l k).val σ=some r ->
   ∃ vs us,(k vs).val σ=some r/\(l.mapM (resM a)).run V.P w=.ok us w/\VL (cx w σ.ob mu ok) vs us
 | [],k,r,h=>⟨[],[],h,by simp,trivial⟩
 | .tmp t :: l, k, r, h => by
   obtain ⟨vs,us,h1,h2,h3⟩:=ZpN hr l _ r (show (Zf5 V l fun vs=>k (look σ.tm t::vs)).val σ=some r from h)
   refine ⟨_::vs,a.tmps.getD t undef::us,h1,?_,ZaJ hr (.tmp t),h3⟩
   simp [List.mapM_cons,resM,h2]
 | .cell b t :: l, k, r, h => by
   have h:(rdAt V t (look σ.tm b) fun v=>Zf5 V l fun vs=>k (v::vs)).val σ=some r:=h
   obtain ⟨x,hx⟩:=ZAa h (ZaJ hr (.tmp b))
   obtain ⟨v,u,h1,h2,h3⟩:=ZvT h hr.mem (ZaJ hr (.tmp b))
   obtain ⟨vs,us,h4,h5,h6⟩:=ZpN hr l _ r h1
   refine ⟨v::vs,u::us,h4,?_,h3,h6⟩
   have hx':a.tmps.getD b undef=.pointer (some x):=hx
   have h2':(loadVar t x).run V.P w=.ok u w:=by
     rw [show a.eval (.tmp b)=.pointer (some x) from hx] at h2
     simpa [Instr.loadAt,Instr.sureAddr] using h2
   simp [List.mapM_cons,resM,hx',asAddr,h2',h5]
theorem Zh6 {fn:Func} {v:AV} (hr:R w0 ok nt ds σ a w mu) (h:(Zf5 V fn.results.toList fun vs=>.ret (Zjd vs)).val σ=some v) :
   ∃ u,(results fn a.tmps).run V.P w=.ok u w/\Mill.V (cx w σ.ob mu ok) v u:=by
 obtain ⟨vs,us,h1,h2,h3⟩:=ZpN hr _ _ _ h
 have h1:=ZaB h1
 subst h1
 have e:results fn a.tmps=(List.toArray <$> fn.results.toList.mapM (resM a)) >>= fun vs=>pure (if h:vs.size=1 then vs[0] else .tuple vs):=by
   unfold results
   rw [Array.mapM_eq_mapM_toList]
   congr 2
   first
     | done
     | (congr 1;funext x;cases x <;> rfl)
     | (funext x;cases x <;> rfl)
 refine ⟨if h:us.toArray.size=1 then us.toArray[0] else .tuple us.toArray,?_,?_⟩
 . rw [e]
   simp [h2]
 . unfold Zjd
   split
   . rename_i v
     obtain ⟨u,us',rfl,hv,hn⟩:=Za6 h3
     rw [Zbo hn]
     exact hv
   . rename_i hne
     have hl:=h3.length
     rw [dif_neg]
     . exact ⟨us.toArray,rfl,h3⟩
     . intro h1
       have h1:us.length=1:=by simpa using h1
       rw [<- hl] at h1
       obtain ⟨x,hx⟩:=List.length_eq_one_iff.1 h1
       exact hne x hx
theorem ZlS:∀ (args:List AV) (i t:Nat),look (ZbU i args) t=if i<=t then args.getD (t-i) .undef else .undef
 | [],i,t=>by simp [ZbU,look]
 | v :: args, i, t => by
   show look ((i,v)::ZbU (i+1) args) t=_
   by_cases e:i=t
   . subst e;rw [look_eq];simp
   . rw [ZaQ _ _ e,ZlS args (i+1) t]
     by_cases h:i<=t
     . rw [if_pos (by omega),if_pos h]
       have:t-i=(t-(i+1))+1:=by omega
       rw [this]
       simp
     . rw [if_neg (by omega),if_neg h]
theorem Zfn {args:List AV} {vals:Array Value} {ob:List (Nat×AV)} (hm:Mem w0 (cx w ob mu ok)) (hv:VL (cx w ob mu ok) args vals.toList) (hl:args.length<=nt) :
   R w0 ok nt [] ⟨ZbU 0 args,ob⟩ { tmps:=vals++Array.replicate (nt-vals.size) undef,defers:=[] } w mu:=by
 have hlen:args.length=vals.size:=by have:=hv.length;simpa using this
 refine ⟨hm,fun t ht=>?_,fun t ht=>?_,?_,rfl,Marks.nil _ _⟩
 . show Mill.V _ (look (ZbU 0 args) t) ((vals++Array.replicate (nt-vals.size) undef).getD t undef)
   rw [ZlS,if_pos (Nat.zero_le _),Nat.sub_zero]
   by_cases h:t<args.length
   . obtain ⟨u,hu,huv⟩:=hv.get t args[t] (List.getElem?_eq_getElem h)
     have e1:args.getD t .undef=args[t]:=by simp [List.getD_eq_getElem?_getD,h]
     have e2:(vals++Array.replicate (nt-vals.size) undef).getD t undef=u:=by
       rw [Array.getD_eq_getD_getElem?,Array.getElem?_append_left (by omega)]
       have:vals[t]?=some u:=by simpa using hu
       rw [this];rfl
     rw [e1,e2]
     exact huv
   . rw [List.getD_eq_getElem?_getD,List.getElem?_eq_none (by omega)]
     trivial
 . show look (ZbU 0 args) t=.undef
   rw [ZlS,if_pos (Nat.zero_le _),List.getD_eq_getElem?_getD,List.getElem?_eq_none (by omega)]
   rfl
 . simp;omega
theorem Zjj {n:Nat} {fn:Func} {Rr:Ending->World->Prop}:∀ (ds:List Deferred) (a:Act) (w:World),R w0 ok nt ds σ a w mu ->
   (∀ (a1:Act) (w1:World),a1.tmps=a.tmps->R w0 ok nt [] σ a1 w1 mu->(ds=[]->w1=w)->∃ u,(results fn a.tmps).run V.P w1=.ok u w1/\Rr (.returned u) w1) ->
   LeavesInM (Za4 none) n V.P fn a.tmps Rr ds .returning w
 | [], a, w, hr, hfin => by
   obtain ⟨u,h1,h2⟩:=hfin a w rfl hr (fun _=>rfl)
   exact ⟨u,h1,h2⟩
 | d :: ds, a, w, hr, hfin => by
   obtain ⟨D,rfl,h0,h1,h2⟩:=hr.marks.2 d (by simp)
   have hnd:=List.nodup_cons.1 hr.marks.1
   have hr1:R w0 ok nt ds σ { a with defers:=ds } w mu:=⟨hr.mem,hr.tm,hr.far,hr.size,rfl,hnd.2,fun d hd=>hr.marks.2 d (List.mem_cons_of_mem _ hd)⟩
   have hr2:=hr1.turn (ZcT w D (.deferred none)) h2 rfl h0 (fun d hd e=>hnd.1 (by rw [<- e];exact hd))
   exact ⟨by simp,.inl ⟨D,_,rfl,run_takeDeferred h2,Zjj ds { a with defers:=ds } _ hr2 fun a1 w1 ht hr' _=>hfin a1 w1 ht hr' (fun h=>by cases h)⟩⟩
theorem Zqf {ρ:Type} {L:Nat->Option LSpec} {inl:Inl ρ} {f:FuncId} {args:List AV} {ob:List (Nat×AV)} {k:AV->List (Nat×AV)->Option ρ} {r:ρ} {vals:Array Value}
   (hG:Zai V) (hI:Zgb V inl) (hJ:Stays J) (hLJ:∀ id s,L id=some s->∀ c,J c)
   (hL:∀ fn c,V.P.funcs[f]?=some fn->fn.body=some c->∀ c'∈ZaZ c,∀ s,L (ZaH c')=some s->LoopOK V fn.ntmps s c')
   (hm:Mem w0 (cx w ob mu ok)) (hv:VL (cx w ob mu ok) args vals.toList) (hj:J (cx w ob mu ok)) (h:fnK V L inl rounds f fid args ob k=some r) :
   Calls V.P f vals w fun e w'=>∃ v u ob' mu',e=.returned u/\Mem w0 (cx w' ob' mu' ok)/\J (cx w' ob' mu' ok)/\Mill.V (cx w' ob' mu' ok) v u/\k v ob'=some r:=by
 unfold fnK at h
 split at h
 case h_2=>cases h
 rename_i fn hf
 split at h
 case h_2=>cases h
 rename_i c hc
 cases hle:Nat.ble args.length fn.ntmps with
 | false=>rw [hle] at h;cases h
 | true =>
   rw [hle] at h
   simp only [cond_true] at h
   have hle:=Nat.le_of_ble_eq_true hle
   let Δ:List Deferred->Prop:=fun ds=>ds=[]\/∀ c,J c
   refine (callsIn_wide (n:=0)).1 (callsIn_of_wp_marks (F:=Fence.wide) (n:=0) hf hc trivial (ZfF (Δ:=Δ) (ro:=none) hG hI hJ hLJ (fun id s hs ds=>.inr (hLJ id s hs)) c (fun c' hc' s hs=>⟨hL fn c hf hc c' hc' s hs,fun _=>rfl⟩)
     ⟨[],.inl rfl,mu,Zfn hm hv hle,hj⟩ h fun e σ' a' w' hh' h'=>?_))
   obtain ⟨ds',hds,mu',hr',hj'⟩:=hh'
   have fin:(Zf5 V fn.results.toList fun vs=>.ret (Zjd vs)).runK σ' [] (fun v _=>k v σ'.ob)=some r->LeavesInM (Za4 none) 0 V.P fn a'.tmps
       (fun e w'=>∃ v u ob' mu',e=.returned u/\Mem w0 (cx w' ob' mu' ok)/\J (cx w' ob' mu' ok)/\Mill.V (cx w' ob' mu' ok) v u/\k v ob'=some r) a'.defers .returning w':=by
     intro h
     obtain ⟨v,_,h1,h2⟩:=Rd.runK_val h
     rw [hr'.defers]
     refine Zjj ds' a' w' hr' fun a1 w1 ht hr1 he=>?_
     obtain ⟨u,hu,huv⟩:=Zh6 hr1 h1
     rw [ht] at hu
     refine ⟨u,hu,v,u,σ'.ob,mu',rfl,hr1.mem,?_,huv,h2⟩
     rcases hds with hds | hds
     . rw [he hds];exact hj'
     . exact hds _
   cases e with
   | normal=>exact fin h'
   | ret=>exact fin h'
   | exit id=>cases h'
   | goto l=>cases h'
theorem Zak {f:FuncId}:∀ fn c,V.P.funcs[f]?=some fn->fn.body=some c->∀ c'∈ZaZ c,∀ s,(fun _=>none:Nat->Option LSpec) (ZaH c')=some s->LoopOK V fn.ntmps s c' :=
 fun _ _ _ _ _ _ _ h=>by cases h
theorem Zba {ρ:Type} (hG:Zai V):∀ (d:Nat),Zgb V (inlK (ρ:=ρ) V rounds d)
 | 0=>fun _ _ _ _ _ _ h=>by cases h
 | d + 1 => fun f fid args ob k r h => by
   simp only [inlK] at h
   split at h
   . rename_i s hs
     split at h
     case h_2=>cases h
     rename_i c post hp
     split at h
     case h_2=>cases h
     rename_i y
     obtain ⟨hent,hx⟩:=hG.2.2.2.2.1 f s hs
     refine ⟨hent,fun w0 ok w mu vals hm hv=>(hx fid args ob y post hp w0 ok w mu vals hm hv).mono fun e w' he=>?_⟩
     obtain ⟨u,mu',rfl,h1,h2,h3⟩:=he
     exact ⟨_,u,_,mu',rfl,h1,h2,h3,h⟩
   cases he:V.ent f with
   | false=>rw [he] at h;cases h
   | true =>
     rw [he] at h
     simp only [cond_true] at h
     refine ⟨hG.2.2.1 f he,fun w0 ok w mu vals hm hv=>?_⟩
     exact Zqf (J:=fun c=>Mono (cx w ob mu ok) c) hG (Zba hG d) (fun c c' h1 h2=>h1.trans h2) (fun id s hs=>by cases hs) Zak hm hv (Mono.refl _) h
theorem Stays.triv:Stays T:=fun _ _ _ _=>trivial
theorem Znb {κ:Kd} {v x:AV} {ob ob':List (Nat×AV)} (h:ZlZ κ v ob=some (x,ob')) (id:Nat) :
   ∃ os,Moves [v] [(ZcN id x).1] ob ob' (ZcN id x).2.1 os:=by
 unfold ZlZ at h
 split at h
 . split at h
   case h_2=>cases h
   split at h
   case h_2=>cases h
   rename_i xs ob1 hx
   simp only [Option.some.injEq,Prod.mk.injEq] at h
   obtain ⟨rfl,rfl⟩:=h
   obtain ⟨os,m⟩:=ZcF hx id
   exact ⟨os,m.agg⟩
 . obtain ⟨os,m⟩:=ZiT h id
   have hx:(ZcN id x).1=(Zbm id x).1/\(ZcN id x).2.1=(Zbm id x).2.1:=by
     unfold Zfu at h
     repeat' (split at h)
     all_goals first
       | (cases h;done)
       | (simp only [Option.some.injEq,Prod.mk.injEq] at h;obtain ⟨rfl,_⟩:=h;exact ⟨rfl,rfl⟩)
       | (generalize Nat.beq _ _=b at h
          cases b
          . cases h
          . simp only [cond_true,Option.some.injEq,Prod.mk.injEq] at h;obtain ⟨rfl,_⟩:=h;exact ⟨rfl,rfl⟩)
       | (generalize AV.frozens _=b at h
          cases b
          . cases h
          . simp only [cond_true,Option.some.injEq,Prod.mk.injEq] at h;obtain ⟨rfl,_⟩:=h;exact ⟨rfl,rfl⟩)
   rw [hx.1,hx.2]
   exact ⟨os,m⟩
theorem Zl5:∀ {ks:List Kd} {vs xs:List AV} {ob ob':List (Nat×AV)},ZhC ks vs ob=some (xs,ob')->∀ id,∃ os,Moves vs (Zfc id xs).1 ob ob' (Zfc id xs).2.1 os
 | [], [], xs, ob, ob', h, id => by
   simp only [ZhC,Option.some.injEq,Prod.mk.injEq] at h
   obtain ⟨rfl,rfl⟩:=h
   exact ⟨[],Moves.nil _⟩
 | κ :: ks, v :: vs, xs, ob, ob', h, id => by
   simp only [ZhC] at h
   split at h
   case h_2=>cases h
   rename_i x ob1 h1
   split at h
   case h_2=>cases h
   rename_i xs' ob2 h2
   simp only [Option.some.injEq,Prod.mk.injEq] at h
   obtain ⟨rfl,rfl⟩:=h
   obtain ⟨os1,m1⟩:=Znb h1 id
   obtain ⟨os2,m2⟩:=Zl5 h2 (ZcN id x).2.2
   exact ⟨os1++os2,m1.append m2⟩
 | [],_::_,_,_,_,h,_=>by simp [ZhC] at h
 | _::_,[],_,_,_,h,_=>by simp [ZhC] at h
theorem Zhj {ks:List Kd} {v r:AV} {ob:List (Nat×AV)} (h:Zko ks v ob=some r) (id:Nat):∃ ob' os,Moves [v] [(ZbZ id r).1] ob ob' (ZbZ id r).2 os:=by
 unfold Zko at h
 split at h
 . split at h
   case h_2=>cases h
   rename_i xs ob1 hx
   obtain rfl:=Option.some.inj h
   obtain ⟨os,m⟩:=Zl5 hx id
   exact ⟨ob1,os,m.tup⟩
 . rename_i hnt
   split at h
   case h_2=>cases h
   rename_i κ
   split at h
   case h_2=>cases h
   rename_i x ob1 hx
   obtain rfl:=Option.some.inj h
   obtain ⟨os,m⟩:=Znb hx id
   have hx':(ZbZ id x).1=(ZcN id x).1/\(ZbZ id x).2=(ZcN id x).2.1:=by
     have:∀ cs,x≠.tup cs:=by
       rintro cs rfl
       unfold ZlZ Zfu at hx
       repeat' (split at hx)
       all_goals first
         | (cases hx;done)
         | (simp only [Option.some.injEq,Prod.mk.injEq] at hx;cases hx.1;done)
         | (simp only [Option.some.injEq,Prod.mk.injEq] at hx;exact hnt _ hx.1.symm)
         | (generalize Nat.beq _ _=b at hx
            cases b
            . cases hx
            . simp only [cond_true,Option.some.injEq,Prod.mk.injEq] at hx;cases hx.1)
         | (generalize AV.frozens _=b at hx
            cases b
            . cases hx
            . simp only [cond_true,Option.some.injEq,Prod.mk.injEq] at hx;cases hx.1)
     cases x <;> first | exact ⟨rfl,rfl⟩ | exact (this _ rfl).elim
   rw [hx'.1,hx'.2]
   exact ⟨ob1,os,m⟩
theorem Ztu {ρ:Type} {L:Nat->Option LSpec} {f:FuncId} {depth:Nat} {rk:List Kd} {args:List AV} {k:AV->Option ρ} {r:ρ} {vals:Array Value} (hG:Zai V)
   (hL:∀ fn c,V.P.funcs[f]?=some fn->fn.body=some c->∀ c'∈ZaZ c,∀ s,L (ZaH c')=some s->LoopOK V fn.ntmps s c')
   (hv:VL (pcx w ok) args vals.toList) (h:Zi4 V L rounds depth f rk args k=some r) :
   Calls V.P f vals w fun e w'=>∃ v u,e=.returned u/\Below w.heap.size w w'/\Res w ok w' v u/\k v=some r:=by
 unfold Zi4 at h
 have hm:Mem w (cx w [] (fun _=>none) fun b=>ok b\/w.heap.size<=b) :=
   ⟨fun _=>rfl,fun _ _ _ h=>(by cases h),fun _ _ h=>(by cases h),Below.refl _ _,fun b hb=>.inl (.inr hb)⟩
 have hv':VL (cx w [] (fun _=>none) fun b=>ok b\/w.heap.size<=b) args vals.toList:=by
   have hmono:Mono (pcx w ok) (cx w [] (fun _=>none) fun b=>ok b\/w.heap.size<=b):=Zdf (fun b hb=>⟨⟨.inl hb.1,hb.2.1,hb.2.2⟩,rfl⟩) (fun id=>.inl rfl) (fun _ _ h=>⟨h,rfl⟩)
   exact hmono.vl _ _ hv
 refine (Zqf (J:=T) hG (Zba hG depth) Stays.triv (fun _ _ _ _=>trivial) hL hm hv' trivial h).mono fun e w' he=>?_
 obtain ⟨v,u,ob',mu',rfl,hm',_,hv,hk⟩:=he
 split at hk
 case h_2=>cases hk
 rename_i r' hx
 refine ⟨r',u,rfl,hm'.ext,fun base=>?_,hk⟩
 obtain ⟨ob2,os,m⟩:=Zhj hx base
 obtain ⟨n,hfr⟩:=Zet base r'
 obtain ⟨mu2,hm2,hv2,_⟩:=Zjq hm' m hfr.2.2.2 (ob2:=Zay (ZbZ base r').2 []) (fun p hp=>ZcX _ _ p hfr.2.2.2 hp) (fun i hi=>by rw [Zb3 _ _ _ hi];rfl)
 exact ⟨mu2,hm2,(hv2 [u] ⟨hv,trivial⟩).1⟩
end
end Go.Proofs.Mill
namespace Go.Proofs.Mill
variable {ds:List Deferred}
open Go.RowKit
inductive Loops {σ ρ:Type} (step:σ->Option (σ⊕ρ)):σ->ρ->Prop
  | done (x:σ) (y:ρ) (h:step x=some (.inr y)):Loops step x y
  | more (x x':σ) (y:ρ) (h:step x=some (.inl x')) (k:Loops step x' y):Loops step x y
def Zn6 {σ ρ:Type} (step:σ->Option (σ⊕ρ)):Nat->σ->Option ρ
 | 0,_=>none
 | n + 1, x => match step x with
  | some (.inl x')=>Zn6 step n x'
  | some (.inr y)=>some y
  | none=>none
theorem Zn8 {σ ρ:Type} {step:σ->Option (σ⊕ρ)}:∀ (n:Nat) (x:σ) (y:ρ),Zn6 step n x=some y->Loops step x y
 | 0,_,_,h=>by cases h
 | n + 1, x, y, h => by
   unfold Zn6 at h
   split at h
   . rename_i x' hs
     exact .more x x' y hs (Zn8 n x' y h)
   . rename_i z hs
     obtain rfl:=Option.some.inj h
     exact .done x z hs
   . cases h
open Classical in
def ZaA {σ ρ:Type} (step:σ->Option (σ⊕ρ)) (x:σ):Option ρ := match Zn6 step 4096 x with
 | some y=>some y
 | none=>if h:∃ y,Loops step x y then some (Classical.choose h) else none
theorem Loops.det {σ ρ:Type} {step:σ->Option (σ⊕ρ)} {x:σ} {y z:ρ} (h:Loops step x y):Loops step x z->y=z:=by
 intro k
 induction h with
 | done x y h =>
   cases k with
   | done _ _ k=>rw [h] at k;cases k;rfl
   | more _ _ _ k _=>rw [h] at k;cases k
 | more x x' y h _ ih =>
   cases k with
   | done _ _ k=>rw [h] at k;cases k
   | more _ _ _ k k2=>rw [h] at k;cases k;exact ih k2
theorem whileM_some {σ ρ:Type} {step:σ->Option (σ⊕ρ)} {x:σ} {y:ρ}:ZaA step x=some y↔Loops step x y:=by
 unfold ZaA
 cases hw:Zn6 step 4096 x with
 | some z =>
   have hz:=Zn8 _ _ _ hw
   exact ⟨fun h=>by obtain rfl:=Option.some.inj h;exact hz,fun h=>congrArg some (hz.det h)⟩
 | none =>
 simp only
 constructor
 . intro h
   split at h
   . rename_i hx
     obtain rfl:=Option.some.inj h
     exact Classical.choose_spec hx
   . cases h
 . intro h
   rw [dif_pos ⟨y,h⟩]
   exact congrArg some ((Classical.choose_spec (⟨y,h⟩:∃ y,Loops step x y)).det h)
theorem Zb2 {σ ρ:Type} (step:σ->Option (σ⊕ρ)) (x:σ):ZaA step x=match step x with
   | some (.inl x')=>ZaA step x'
   | some (.inr y)=>some y
   | none=>none:=by
 cases h:step x with
 | none =>
   simp only
   cases hw:ZaA step x with
   | none=>rfl
   | some y =>
     cases whileM_some.1 hw with
     | done _ _ k=>rw [h] at k;cases k
     | more _ _ _ k _=>rw [h] at k;cases k
 | some z =>
   cases z with
   | inr y=>exact whileM_some.2 (.done x y h)
   | inl x' =>
     simp only
     cases hw:ZaA step x' with
     | some y=>exact whileM_some.2 (.more x x' y h (whileM_some.1 hw))
     | none =>
       cases hx:ZaA step x with
       | none=>rfl
       | some y =>
         cases whileM_some.1 hx with
         | done _ _ k=>rw [h] at k;cases k
         | more _ _ _ k k2 =>
           rw [h] at k
           cases k
           rw [whileM_some.2 k2] at hw
           cases hw
def Zdn {σ ρ:Type} (keep:List (Nat×Kd)) (keepX:Ex->List (Nat×Kd)) (dec:List AV->Option σ) (dex:Ex->List AV->Option ρ) (e:Ex) (τ:St):Option (σ⊕ρ) := match e with
 | .normal => (match norm keep τ with
  | none=>none
  | some hd=>match dec hd with | some x=>some (.inl x) | none=>none)
 | e => (match norm (keepX e) τ with
  | none=>none
  | some hd=>match dex e hd with | some y=>some (.inr y) | none=>none)
def Zl7 (c:Code):Bool:=!(Zdu c) && (ZaZ c).all fun c'=>!(Zdu c')
theorem Zwv {c:Code} (h:Zl7 c=true):Zdu c=false/\∀ c'∈ZaZ c,Zdu c'=false:=by
 unfold Zl7 at h
 simp only [Bool.and_eq_true,Bool.not_eq_true',List.all_eq_true] at h
 exact h
theorem ZtD {w0 w:World} {ok:Nat->Prop} {nt:Nat} {σ:St} {a:Act} {Δ:List Deferred->Prop} {J:Cx->Prop} {ks:List (Nat×Kd)} {hd:List AV} (hh:Zdc Δ J w0 ok nt σ a w) (h:norm ks σ=some hd):Zdc anyD T w0 ok nt (build ks hd) a w:=by
 obtain ⟨ds,_,hh⟩:=hh
 exact ⟨ds,trivial,ZrL hh h⟩
theorem ZvN {V:Env} {L:Nat->Option LSpec} {nt fid rounds depth:Nat} {s:LSpec} {c:Code} {step:s.σ->Option (s.σ⊕s.ρ)} {hdOf:s.σ->List AV} {dex:Ex->List AV->Option s.ρ}
   (hG:Zai V) (hdec:∀ hd x,s.dec hd=some x->hd=hdOf x) (hdex:∀ e hd y,dex e hd=some y->e≠.normal/\s.enc y=(e,hd)) (hrun:∀ x,s.run x=ZaA step x)
   (hin:∀ c'∈ZaZ c,∀ s,L (ZaH c')=some s->LoopOK V nt s c')
   (hstep:∀ x,evK V L (inlK V rounds depth) fid nt rounds c (build s.keep (hdOf x)) (Zdn s.keep s.keepX s.dec dex)=step x) (hr:Zl7 c=true):LoopOK V nt s c:=by
 obtain ⟨hr1,hr2⟩:=Zwv hr
 have hin:∀ (ro:Option Nat),∀ c'∈ZaZ c,∀ s,L (ZaH c')=some s->LoopOK V nt s c'/\(Zdu c'=true->ro=none):=fun ro c' hc' s hs=>⟨hin c' hc' s hs,fun e=>by rw [hr2 c' hc'] at e;cases e⟩
 refine .of0 hr1 ?_
 intro ro w0 ok hd x y a w hd1 hy hh
 rw [hrun,whileM_some] at hy
 rw [hdec _ _ hd1] at hh
 clear hd1
 induction hy generalizing a w with
 | done x y h =>
   rw [<- hstep x] at h
   refine Zc6 (ZfF (J:=T) (Δ:=anyD) hG (Zba hG depth) Stays.triv (fun _ _ _ _=>trivial) (fun _ _ _ _=>trivial) c (hin ro) hh h fun e σ' a' w' hh' h'=>?_)
   have fin:∀ e hd' z,norm (s.keepX e) σ'=some hd'->dex e hd'=some z->some (Sum.inr z:s.σ⊕s.ρ)=some (.inr y)->e.to=(s.enc y).1.to/\Zdc anyD T w0 ok nt (build (s.keepX (s.enc y).1) (s.enc y).2) a' w':=by
     intro e hd' z hn hz h'
     cases h'
     obtain ⟨_,h2⟩:=hdex _ _ _ hz
     rw [h2]
     exact ⟨rfl,ZtD hh' hn⟩
   unfold Zdn at h'
   cases e with
   | normal=>simp only at h';(repeat' (split at h')) <;> cases h'
   | exit id=>simp only at h';split at h' <;> first | (cases h';done) | (rename_i hd' hn;split at h' <;> first | (rename_i z hz;exact fin _ _ z hn hz h') | cases h')
   | goto l=>simp only at h';split at h' <;> first | (cases h';done) | (rename_i hd' hn;split at h' <;> first | (rename_i z hz;exact fin _ _ z hn hz h') | cases h')
   | ret=>simp only at h';split at h' <;> first | (cases h';done) | (rename_i hd' hn;split at h' <;> first | (rename_i z hz;exact fin _ _ z hn hz h') | cases h')
 | more x x' y h k ih =>
   rw [<- hstep x] at h
   refine Zc6 (ZfF (J:=T) (Δ:=anyD) hG (Zba hG depth) Stays.triv (fun _ _ _ _=>trivial) (fun _ _ _ _=>trivial) c (hin ro) hh h fun e σ' a' w' hh' h'=>?_)
   unfold Zdn at h'
   cases e with
   | normal =>
     simp only at h'
     split at h'
     . cases h'
     rename_i hd' hn
     split at h'
     . rename_i z hz
       cases h'
       have:=ZtD hh' hn
       rw [hdec _ _ hz] at this
       exact ih a' w' this
     . cases h'
   | exit id=>simp only at h';(repeat' (split at h')) <;> cases h'
   | goto l=>simp only at h';(repeat' (split at h')) <;> cases h'
   | ret=>simp only at h';(repeat' (split at h')) <;> cases h'
def Za5 (P:Program) (f:FuncId) (id:Nat):Code :=
 match (P.funcs[f]?).bind (·.body) with
 | some c=>((ZaZ c).find? fun c'=>Nat.beq (ZaH c') id).getD .skip
 | none=>.skip
def ZoE:List Nat->Bool
 | []=>true
 | x::r=>bif r.all fun y=>!(Nat.beq x y) then ZoE r else false
def Zkp (P:Program) (f:FuncId):Bool := match (P.funcs[f]?).bind (·.body) with
 | some c=>ZoE ((ZaZ c).map ZaH)
 | none=>true
theorem Zie:∀ (l:List Code),ZoE (l.map ZaH)=true->∀ c∈l,(l.find? fun c'=>Nat.beq (ZaH c') (ZaH c))=some c
 | [],_,_,h=>by cases h
 | x :: l, hn, c, h => by
   simp only [List.map_cons,ZoE] at hn
   cases hc:((l.map ZaH).all fun y=>!(Nat.beq (ZaH x) y)) with
   | false=>rw [hc] at hn;cases hn
   | true =>
     rw [hc] at hn
     rcases List.mem_cons.1 h with rfl | h
     . rw [List.find?_cons_of_pos (by simp)]
     . have hne:=List.all_eq_true.1 hc (ZaH c) (List.mem_map.2 ⟨c,h,rfl⟩)
       have hne':Nat.beq (ZaH x) (ZaH c)=false:=by simpa using hne
       rw [List.find?_cons_of_neg (by rw [hne'];simp)]
       exact Zie l hn c h
theorem Zzm {V:Env} {L:Nat->Option LSpec} {f:FuncId} {nt:Nat} (ha:Zkp V.P f=true) (hnt:∀ fn,V.P.funcs[f]?=some fn->fn.ntmps=nt)
   (h:∀ id s,L id=some s->LoopOK V nt s (Za5 V.P f id)) :
   ∀ fn c,V.P.funcs[f]?=some fn->fn.body=some c->∀ c'∈ZaZ c,∀ s,L (ZaH c')=some s->LoopOK V fn.ntmps s c':=by
 intro fn c hf hc c' hc' s hs
 have h1:=h _ s hs
 unfold Za5 at h1
 unfold Zkp at ha
 rw [hf] at h1 ha
 simp only [Option.bind_some,hc] at h1 ha
 rw [Zie _ ha c' hc'] at h1
 rw [hnt fn hf]
 exact h1
theorem Zu8:∀ (c:Code) (c':Code),c'∈ZaZ c->∀ d∈ZaZ c',d∈ZaZ c:=by
 intro c
 induction c with
 | seq a b iha ihb =>
   intro c' h d hd
   rcases List.mem_append.1 h with h | h
   . exact List.mem_append_left _ (iha c' h d hd)
   . exact List.mem_append_right _ (ihb c' h d hd)
 | cond x a b iha ihb =>
   intro c' h d hd
   rcases List.mem_append.1 h with h | h
   . exact List.mem_append_left _ (iha c' h d hd)
   . exact List.mem_append_right _ (ihb c' h d hd)
 | block id c ih=>intro c' h d hd;exact ih c' h d hd
 | loop c ih =>
   intro c' h d hd
   rcases List.mem_cons.1 h with rfl | h
   . exact List.mem_cons_of_mem _ hd
   . exact List.mem_cons_of_mem _ (ih c' h d hd)
 | scope c ih=>intro c' h d hd;exact ih c' h d hd
 | rangeFunc g ps x y _ _ =>
   intro c' h d hd
   obtain rfl:=List.mem_singleton.1 h
   exact hd
 | _=>intro c' h;cases h
theorem ZzD {V:Env} {L:Nat->Option LSpec} {f:FuncId} {nt id:Nat} (ha:Zkp V.P f=true)
   (h:∀ c'∈ZaZ (Za5 V.P f id),∀ s,L (ZaH c')=some s->LoopOK V nt s (Za5 V.P f (ZaH c'))) :
   ∀ c'∈ZaZ (Za5 V.P f id),∀ s,L (ZaH c')=some s->LoopOK V nt s c':=by
 intro c' hc' s hs
 have h1:=h c' hc' s hs
 have:Za5 V.P f (ZaH c')=c':=by
   unfold Za5 at hc' ⊢
   unfold Zkp at ha
   cases hb:(V.P.funcs[f]?).bind (·.body) with
   | none=>rw [hb] at hc';cases hc'
   | some c =>
     rw [hb] at hc' ha
     simp only at hc' ha ⊢
     have hm:c'∈ZaZ c:=by
       cases hf:(ZaZ c).find? fun c'=>Nat.beq (ZaH c') id with
       | none=>rw [hf] at hc';cases hc'
       | some d =>
         rw [hf] at hc'
         exact Zu8 c d (List.mem_of_find?_eq_some hf) c' hc'
     rw [Zie _ ha c' hm]
     rfl
 rw [this] at h1
 exact h1
theorem Zwm {V:Env} {L:Nat->Option LSpec} {f:FuncId} {rounds depth:Nat} {rk:List Kd} {s:Spec} {argsOf:s.α->List AV} {dres:AV->Option s.β} (hG:Zai V)
   (hL:∀ fn c,V.P.funcs[f]?=some fn->fn.body=some c->∀ c'∈ZaZ c,∀ s,L (ZaH c')=some s->LoopOK V fn.ntmps s c')
   (hdec:∀ avs a,s.dec avs=some a->avs=argsOf a) (hdres:∀ r b,dres r=some b->r=s.enc b)
   (heq:∀ a,Zi4 V L rounds depth f rk (argsOf a) dres=s.fn a):Zan V.P f s:=by
 intro w0 ok avs args a b hd hb hv
 rw [hdec _ _ hd] at hv
 refine (Ztu hG hL hv ((heq a).trans hb)).mono fun e w' he=>?_
 obtain ⟨v,u,rfl,h1,h2,h3⟩:=he
 rw [hdres _ _ h3] at h2
 exact ⟨u,rfl,h1,h2⟩
end Go.Proofs.Mill
namespace Go.Proofs.Mill
structure Cel where
  α:Type
  n:Nat
  kds:List Kd
  enc:α->List AV
  dec:List AV->Option α
  law:∀ cs a,dec cs=some a->cs=enc a
def AV.lstS (τ:Ty):AV->Option (List τ.den)
 | .lst σ xs => match Ty.eqTy σ τ with
  | some ⟨h⟩=>some (h ▸ xs)
  | none=>none
 | _=>none
theorem ZAl {τ:Ty} {v:AV} {xs:List τ.den} (h:v.lstS τ=some xs):v=.lst τ xs:=by
 unfold AV.lstS at h
 split at h
 . split at h
   . rename_i hh _
     subst hh
     obtain rfl:=Option.some.inj h
     rfl
   . cases h
 . cases h
def AV.ownS (e:TypeId) (τ:Ty):AV->Option (List τ.den)
 | .ownv e' σ xs => match Ty.eqTy σ τ with
  | some ⟨h⟩=>bif Nat.beq e' e then some (h ▸ xs) else none
  | none=>none
 | _=>none
theorem Zzw {e:TypeId} {τ:Ty} {v:AV} {xs:List τ.den} (h:v.ownS e τ=some xs):v=.ownv e τ xs:=by
 unfold AV.ownS at h
 split at h
 . rename_i e' σ ys
   split at h
   . rename_i hh _
     subst hh
     cases hb:Nat.beq e' e with
     | false=>rw [hb] at h;cases h
     | true =>
       rw [hb] at h
       have hb:=Nat.eq_of_beq_eq_true hb
       subst hb
       obtain rfl:=Option.some.inj h
       rfl
   . cases h
 . cases h
def Zau (k:IntKind):Cel where
 α:=Int
 n:=1
 kds:=[.any]
 enc x:=[.int k x]
 dec
   | [.int k' x]=>bif decide (k'=k) then some x else none
   | _=>none
 law:=by
   intro cs a h
   split at h
   . rename_i k' x
     cases hk:decide (k'=k) with
     | false=>rw [hk] at h;cases h
     | true =>
       rw [hk] at h
       obtain rfl:=of_decide_eq_true hk
       obtain rfl:=Option.some.inj h
       rfl
   . cases h
def celBool:Cel where
 α:=Bool
 n:=1
 kds:=[.any]
 enc x:=[.bool x]
 dec
   | [.bool x]=>some x
   | _=>none
 law:=by
   intro cs a h
   split at h
   . obtain rfl:=Option.some.inj h;rfl
   . cases h
def celStr:Cel where
 α:=ByteArray
 n:=1
 kds:=[.any]
 enc x:=[.str x]
 dec
   | [.str x]=>some x
   | _=>none
 law:=by
   intro cs a h
   split at h
   . obtain rfl:=Option.some.inj h;rfl
   . cases h
def Ze5 (τ:Ty):Cel where
 α:=List τ.den
 n:=1
 kds:=[.lst τ]
 enc x:=[.lst τ x]
 dec
   | [v]=>v.lstS τ
   | _=>none
 law:=by
   intro cs a h
   split at h
   . rw [ZAl h]
   . cases h
def ZbA (e:TypeId) (τ:Ty):Cel where
 α:=List τ.den
 n:=1
 kds:=[.own e τ]
 enc x:=[.ownv e τ x]
 dec
   | [v]=>v.ownS e τ
   | _=>none
 law:=by
   intro cs a h
   split at h
   . rw [Zzw h]
   . cases h
def Zam (a b:Cel):Cel where
 α:=a.α×b.α
 n:=a.n+b.n
 kds:=a.kds++b.kds
 enc x:=a.enc x.1++b.enc x.2
 dec cs:=match a.dec (cs.take a.n) with
   | some x => match b.dec (cs.drop a.n) with
     | some y=>some (x,y)
     | none=>none
   | none=>none
 law:=by
   intro cs p h
   split at h
   . rename_i x hx
     split at h
     . rename_i y hy
       obtain rfl:=Option.some.inj h
       rw [<- a.law _ _ hx,<- b.law _ _ hy,List.take_append_drop]
     . cases h
   . cases h
def Zcx (a:Cel) (X:Type) (f:a.α->X) (g:X->a.α) (h:∀ y,g (f y)=y):Cel where
 α:=X
 n:=a.n
 kds:=a.kds
 enc x:=a.enc (g x)
 dec cs:=match a.dec cs with
   | some y=>some (f y)
   | none=>none
 law:=by
   intro cs x hx
   split at hx
   . rename_i y hy
     obtain rfl:=Option.some.inj hx
     rw [h y]
     exact a.law _ _ hy
   . cases hx
structure Val where
  α:Type
  kd:Kd
  enc:α->AV
  dec:AV->Option α
  law:∀ v a,dec v=some a->v=enc a
def Zme (c:Cel) (κ:Kd) (get:c.α->AV) (h:∀ x,c.enc x=[get x]):Val where
 α:=c.α
 kd:=κ
 enc:=get
 dec v:=c.dec [v]
 law:=by
   intro v a hv
   have:=c.law _ _ hv
   rw [h] at this
   exact (List.cons.inj this).1
def Zae (k:IntKind):Val:=Zme (Zau k) .any (fun x=>.int k x) (fun _=>rfl)
def ZaN:Val:=Zme celBool .any (fun x=>.bool x) (fun _=>rfl)
def valStr:Val:=Zme celStr .any (fun x=>.str x) (fun _=>rfl)
def Zap (τ:Ty):Val:=Zme (Ze5 τ) (.lst τ) (fun x=>.lst τ x) (fun _=>rfl)
def ZaF (e:TypeId) (τ:Ty):Val:=Zme (ZbA e τ) (.own e τ) (fun x=>.ownv e τ x) (fun _=>rfl)
def Zub:Val where
 α:=Unit
 kd:=.nil
 enc _:=.emp
 dec
   | .emp=>some ()
   | _=>none
 law:=by
   intro v a h
   split at h
   . rfl
   . cases h
def ZwL (f:FuncId):Val where
 α:=Unit
 kd:=.fnc f
 enc _:=.fn f []
 dec
   | .fn g []=>bif Nat.beq g f then some () else none
   | _=>none
 law:=by
   intro v a h
   split at h
   . rename_i g
     cases hg:Nat.beq g f with
     | true=>rw [Nat.eq_of_beq_eq_true hg]
     | false=>rw [hg] at h;cases h
   . cases h
def ZqQ (c:Cel):Val where
 α:=c.α
 kd:=.any
 enc x:=.cptr (c.enc x) 0
 dec
   | .cptr cs 0=>c.dec cs
   | _=>none
 law:=by
   intro v a h
   split at h
   . rw [<- c.law _ _ h]
   . cases h
def Zaq (c:Cel):Val where
 α:=c.α
 kd:=.box c.kds
 enc x:=.agg (c.enc x)
 dec
   | .agg cs=>c.dec cs
   | _=>none
 law:=by
   intro v a h
   split at h
   . rw [<- c.law _ _ h]
   . cases h
structure Vals where
  α:Type
  kds:List Kd
  enc:α->List AV
  dec:List AV->Option α
  law:∀ cs a,dec cs=some a->cs=enc a
def valsNil:Vals where
 α:=Unit
 kds:=[]
 enc _:=[]
 dec
   | []=>some ()
   | _=>none
 law:=by
   intro cs a h
   split at h
   . rfl
   . cases h
def Zad (v:Val):Vals where
 α:=v.α
 kds:=[v.kd]
 enc x:=[v.enc x]
 dec
   | [x]=>v.dec x
   | _=>none
 law:=by
   intro cs a h
   split at h
   . rw [<- v.law _ _ h]
   . cases h
def Zaa (v:Val) (r:Vals):Vals where
 α:=v.α×r.α
 kds:=v.kd::r.kds
 enc x:=v.enc x.1::r.enc x.2
 dec
   | x :: cs => match v.dec x with
     | some a => match r.dec cs with
       | some b=>some (a,b)
       | none=>none
     | none=>none
   | _=>none
 law:=by
   intro cs p h
   split at h
   . split at h
     . rename_i a ha
       split at h
       . rename_i b hb
         obtain rfl:=Option.some.inj h
         rw [<- v.law _ _ ha,<- r.law _ _ hb]
       . cases h
     . cases h
   . cases h
structure ResV where
  α:Type
  kds:List Kd
  enc:α->AV
  dec:AV->Option α
  law:∀ v a,dec v=some a->v=enc a
def Zar (v:Val):ResV:=⟨v.α,[v.kd],v.enc,v.dec,v.law⟩
def ZbS (v:Vals):ResV where
 α:=v.α
 kds:=v.kds
 enc x:=.tup (v.enc x)
 dec
   | .tup cs=>v.dec cs
   | _=>none
 law:=by
   intro x a h
   split at h
   . rw [<- v.law _ _ h]
   . cases h
def Zao (a:Vals) (r:ResV) (fn:a.α->Option r.α):Spec:=⟨a.kds,a.α,r.α,a.dec,fn,r.enc,false⟩
def ZhF (a:Vals) (r:ResV) (fn:a.α->Option r.α):Spec:=⟨a.kds,a.α,r.α,a.dec,fn,r.enc,true⟩
theorem Zaj {V:Env} {L:Nat->Option LSpec} {f:FuncId} {rounds depth:Nat} {a:Vals} {r:ResV} {fn:a.α->Option r.α} (hG:Zai V)
   (hL:∀ fn c,V.P.funcs[f]?=some fn->fn.body=some c->∀ c'∈ZaZ c,∀ s,L (ZaH c')=some s->LoopOK V fn.ntmps s c')
   (heq:∀ x,Zi4 V L rounds depth f r.kds (a.enc x) r.dec=fn x):Zan V.P f (Zao a r fn) :=
 Zwm (s:=Zao a r fn) (argsOf:=a.enc) (dres:=r.dec) hG hL a.law r.law heq
theorem ZgE {V:Env} {L:Nat->Option LSpec} {f:FuncId} {rounds depth:Nat} {a:Vals} {r:ResV} {fn:a.α->Option r.α} (hG:Zai V)
   (hL:∀ fn c,V.P.funcs[f]?=some fn->fn.body=some c->∀ c'∈ZaZ c,∀ s,L (ZaH c')=some s->LoopOK V fn.ntmps s c')
   (heq:∀ x,Zi4 V L rounds depth f r.kds (a.enc x) r.dec=fn x):Zan V.P f (ZhF a r fn) :=
 Zwm (s:=ZhF a r fn) (argsOf:=a.enc) (dres:=r.dec) hG hL a.law r.law heq
end Go.Proofs.Mill
namespace Go.Proofs.Mill
def ZhQ:Cel:=Zcx (Zam (Zau .i64) (Zau .i64)) Op (fun y=>⟨y.1,y.2⟩) (fun x=>(x.tag,x.v)) (fun _=>rfl)
def ZrC:Cel:=Zcx (Zam (Zau .i64) (Zam (Zau .i64) (Zam ZhQ (Zam (Zau .i64) (Zau .i64))))) Mark (fun y=>⟨y.1,y.2.1,y.2.2.1,y.2.2.2.1,y.2.2.2.2⟩) (fun x=>(x.t,(x.item,(x.op,(x.prior,x.step))))) (fun _=>rfl)
def Zfj:Cel:=Zcx (Zam (Zau .i64) (Zam (Zau .i64) (Zam (Zau .i64) (Zam ZhQ (Zam (Zau .i64) (Zam celBool (Zau .i64))))))) Event (fun y=>⟨y.1,y.2.1,y.2.2.1,y.2.2.2.1,y.2.2.2.2.1,y.2.2.2.2.2.1,y.2.2.2.2.2.2⟩) (fun x=>(x.kind,(x.t,(x.item,(x.op,(x.prior,(x.did,x.step))))))) (fun _=>rfl)
def Zju:Cel:=Zcx (Zam (Zau .i64) (Zam (Zau .i64) (Zam ZhQ (Zam (Ze5 .entry) (Zam (Ze5 .kid) (Zam (Ze5 .int) (Zam (Zau .i64) (Zam (Zau .i64) (Zam (Zau .i64) (Zam (Zau .i64) (Zam (Zau .i64) (Zam (Zau .i64) (Zam (Zau .i64) (Zam (Zau .i64) (Zam (Zau .i64) (Zau .i64)))))))))))))))) Thread (fun y=>⟨y.1,y.2.1,y.2.2.1,y.2.2.2.1,y.2.2.2.2.1,y.2.2.2.2.2.1,y.2.2.2.2.2.2.1,y.2.2.2.2.2.2.2.1,y.2.2.2.2.2.2.2.2.1,y.2.2.2.2.2.2.2.2.2.1,y.2.2.2.2.2.2.2.2.2.2.1,y.2.2.2.2.2.2.2.2.2.2.2.1,y.2.2.2.2.2.2.2.2.2.2.2.2.1,y.2.2.2.2.2.2.2.2.2.2.2.2.2.1,y.2.2.2.2.2.2.2.2.2.2.2.2.2.2.1,y.2.2.2.2.2.2.2.2.2.2.2.2.2.2.2⟩) (fun x=>(x.phase,(x.item,(x.op,(x.batch,(x.kids,(x.held,(x.stop,(x.node,(x.at_,(x.layer,(x.left,(x.width,(x.who,(x.x,(x.y,x.until_)))))))))))))))) (fun _=>rfl)
def ZdE:Cel:=Zcx (Zam (Zau .i64) (Zam (Zau .i64) (Zam (Zau .i64) ZhQ))) SEntry (fun y=>⟨y.1,y.2.1,y.2.2.1,y.2.2.2⟩) (fun x=>(x.kind,(x.t,(x.item,x.op)))) (fun _=>rfl)
structure Config where
  threads:Int
  items:Int
  backend:Int
  depth:Int
  layers:Int
  width:Int
  spin:Int
  wait:Int
  bounded:Bool
  lo:Int
  hi:Int
  init:Int
def celConfig:Cel:=Zcx (Zam (Zau .i64) (Zam (Zau .i64) (Zam (Zau .i64) (Zam (Zau .i64) (Zam (Zau .i64) (Zam (Zau .i64) (Zam (Zau .i64) (Zam (Zau .i64) (Zam celBool (Zam (Zau .i64) (Zam (Zau .i64) (Zau .i64)))))))))))) Config (fun y=>⟨y.1,y.2.1,y.2.2.1,y.2.2.2.1,y.2.2.2.2.1,y.2.2.2.2.2.1,y.2.2.2.2.2.2.1,y.2.2.2.2.2.2.2.1,y.2.2.2.2.2.2.2.2.1,y.2.2.2.2.2.2.2.2.2.1,y.2.2.2.2.2.2.2.2.2.2.1,y.2.2.2.2.2.2.2.2.2.2.2⟩) (fun x=>(x.threads,(x.items,(x.backend,(x.depth,(x.layers,(x.width,(x.spin,(x.wait,(x.bounded,(x.lo,(x.hi,x.init)))))))))))) (fun _=>rfl)
structure Memo where
  words:List Int
  boxes:List (List Entry)
def Zcd:Cel:=Zcx (Zam (Ze5 .int) (Ze5 (.lst .entry))) Memo (fun y=>⟨y.1,y.2⟩) (fun x=>(x.words,x.boxes)) (fun _=>rfl)
structure Tape where
  l:List Int
  at_:Int
def ZdV:Cel:=Zcx (Zam (Ze5 .int) (Zau .i64)) Tape (fun y=>⟨y.1,y.2⟩) (fun x=>(x.l,x.at_)) (fun _=>rfl)
structure Turn where
  c:Config
  t:Int
  now:Int
  m:Memo
  th:Thread
  tape:Tape
  log:List Mark
  done:Bool
def ZaG:Cel:=Zcx (Zam celConfig (Zam (Zau .i64) (Zam (Zau .i64) (Zam Zcd (Zam Zju (Zam ZdV (Zam (Ze5 .mark) celBool))))))) Turn (fun y=>⟨y.1,y.2.1,y.2.2.1,y.2.2.2.1,y.2.2.2.2.1,y.2.2.2.2.2.1,y.2.2.2.2.2.2.1,y.2.2.2.2.2.2.2⟩) (fun x=>(x.c,(x.t,(x.now,(x.m,(x.th,(x.tape,(x.log,x.done)))))))) (fun _=>rfl)
structure Said where
  kind:Int
  n:Int
def Zwf:Cel:=Zcx (Zam (Zau .i64) (Zau .i64)) Said (fun y=>⟨y.1,y.2⟩) (fun x=>(x.kind,x.n)) (fun _=>rfl)
structure Plan where
  nodes:Int
  slots:Int
  block:Int
  lines:Int
def ZCf:Cel:=Zcx (Zam (Zau .i64) (Zam (Zau .i64) (Zam (Zau .i64) (Zau .i64)))) Plan (fun y=>⟨y.1,y.2.1,y.2.2.1,y.2.2.2⟩) (fun x=>(x.nodes,(x.slots,(x.block,x.lines)))) (fun _=>rfl)
structure Asked where
  op:Op
  item:Int
def ZAo:Cel:=Zcx (Zam ZhQ (Zau .i64)) Asked (fun y=>⟨y.1,y.2⟩) (fun x=>(x.op,x.item)) (fun _=>rfl)
structure Shut where
  who:Int
  so:Int
  no:Int
structure Wld where
  c:Config
  m:Memo
  t:List Thread
  now:Int
  steps:Int
  tape:Tape
  log:List Mark
  hist:List Event
def Zc0:Cel:=Zcx (Zam celConfig (Zam Zcd (Zam (Ze5 .thread) (Zam (Zau .i64) (Zam (Zau .i64) (Zam ZdV (Zam (Ze5 .mark) (Ze5 .event)))))))) Wld (fun y=>⟨y.1,y.2.1,y.2.2.1,y.2.2.2.1,y.2.2.2.2.1,y.2.2.2.2.2.1,y.2.2.2.2.2.2.1,y.2.2.2.2.2.2.2⟩) (fun x=>(x.c,(x.m,(x.t,(x.now,(x.steps,(x.tape,(x.log,x.hist)))))))) (fun _=>rfl)
def Zjs:Entry:=⟨0,⟨0,0⟩⟩
def dKid:Kid:=⟨0,0⟩
def ZaO:Mark:=⟨0,0,⟨0,0⟩,0,0⟩
def Zfw:Event:=⟨0,0,0,⟨0,0⟩,0,false,0⟩
def Zaw:Thread:=⟨0,0,⟨0,0⟩,[],[],[],0,0,0,0,0,0,0,0,0,0⟩
def ZaE:SEntry:=⟨0,0,0,⟨0,0⟩⟩
end Go.Proofs.Mill
namespace Go.Proofs.Mill
open Go.RowKit
def assoc:List (FuncId×Spec)->FuncId->Option Spec
 | [],_=>none
 | p::r,f=>bif Nat.beq p.1 f then some p.2 else assoc r f
def ZkM (P:Program):List FuncId->Bool
 | []=>true
 | f::r=>bif (match P.funcs[f]? with | some fn=>!fn.body.isNone && !(fn.name == "runtime.NumGoroutine") | none=>false) then ZkM P r else false
def squash:List (Nat×AV)->Wr
 | []=>[]
 | p::r=>p::(squash r).filter fun q=>!(Nat.beq q.1 p.1)
def ZnM (V:Env) (rounds depth:Nat) (f:FuncId) (fid:Nat) (args:List AV):Option (AV×Wr) :=
 bif V.ent f then (match fnK V (fun _=>none) (inlK V rounds depth) rounds f fid args [] (fun v ob=>some (v,squash ob)) with | some p=>(bif Zgm p.2 then some p else none) | none=>none) else none
def env0 (P:Program) (E:TypeId->Option Ty) (hi:Nat) (l:List (FuncId×Spec)):Env:=⟨P,E,assoc l,fun f=>Nat.ble 3 f && Nat.blt f hi,fun _ _ _=>none,fun _=>false,fun _=>none,fun _=>false,fun _=>none⟩
def ZwF (P:Program) (E:TypeId->Option Ty) (hi:Nat) (l:List (FuncId×Spec)) (mv:FuncId->Bool:=fun _=>false):Env :=
 ⟨P,E,assoc l,fun f=>Nat.ble 3 f && Nat.blt f hi,ZnM (env0 P E hi l) 20 6,mv,fun _=>none,fun _=>false,fun _=>none⟩
def ZxV:List (FuncId×XSpec)->FuncId->Option XSpec
 | [],_=>none
 | p::r,f=>bif Nat.beq p.1 f then some p.2 else ZxV r f
def envX (P:Program) (E:TypeId->Option Ty) (hi:Nat) (l:List (FuncId×Spec)) (xs:List (FuncId×XSpec)) (walk:FuncId->Bool:=fun _=>false):Env :=
 ⟨P,E,assoc l,fun f=>Nat.ble 3 f && Nat.blt f hi,ZnM (env0 P E hi l) 20 6,fun _=>false,ZxV xs,walk,fun _=>none⟩
def envY (P:Program) (E:TypeId->Option Ty) (hi:Nat) (l:List (FuncId×Spec)) (g:FuncId) (y:YSpec):Env :=
 ⟨P,E,assoc l,fun f=>Nat.ble 3 f && Nat.blt f hi,ZnM (env0 P E hi l) 20 6,fun _=>false,fun _=>none,fun _=>false,fun f=>bif Nat.beq g f then some y else none⟩
theorem Zq0:∀ (ob:List (Nat×AV)) (p:Nat×AV),p∈squash ob->look ob p.1=p.2
 | [],_,h=>by cases h
 | q :: r, p, h => by
   rcases List.mem_cons.1 h with rfl | h
   . exact look_eq _ _ _
   . obtain ⟨h1,h2⟩:=List.mem_filter.1 h
     have hne:q.1≠p.1:=by
       intro e
       rw [e] at h2
       simp at h2
     rw [ZaQ _ _ hne]
     exact Zq0 r p h1
theorem ZnS:∀ (ob:List (Nat×AV)),((squash ob).map (·.1)).Nodup
 | []=>by simp [squash]
 | q :: r => by
   show (q.1::((squash r).filter fun x=>!(Nat.beq x.1 q.1)).map (·.1)).Nodup
   rw [List.nodup_cons]
   refine ⟨fun hm=>?_,?_⟩
   . obtain ⟨p,hp,he⟩:=List.mem_map.1 hm
     have:=(List.mem_filter.1 hp).2
     rw [he] at this
     simp at this
   . exact (ZnS r).sublist (List.Sublist.map _ List.filter_sublist)
theorem ZqS:∀ (ob:List (Nat×AV)) (i:Nat),look ob i≠.undef->∃ p∈squash ob,p.1=i
 | [],i,h=>(h rfl).elim
 | q :: r, i, h => by
   by_cases e:q.1=i
   . exact ⟨q,by simp [squash],e⟩
   . obtain ⟨j,o⟩:=q
     rw [ZaQ _ _ e] at h
     obtain ⟨p,hp,he⟩:=ZqS r i h
     refine ⟨p,?_,he⟩
     refine List.mem_cons_of_mem _ (List.mem_filter.2 ⟨hp,?_⟩)
     have hf:Nat.beq p.1 j=false:=by
       cases hb:Nat.beq p.1 j with
       | false=>rfl
       | true=>exact (e ((Nat.eq_of_beq_eq_true hb).symm.trans he)).elim
     simp only [hf,Bool.not_false]
theorem Zpi (ob:List (Nat×AV)):look (Zay (squash ob) [])=look ob:=by
 funext i
 by_cases h:∃ p∈squash ob,p.1=i
 . obtain ⟨p,hp,rfl⟩:=h
   rw [ZcX _ _ p (ZnS ob) hp,Zq0 ob p hp]
 . rw [Zb3 _ _ _ (fun p hp e=>h ⟨p,hp,e⟩)]
   apply Classical.byContradiction
   intro hne
   exact h (ZqS ob i (fun e=>hne (by rw [e];rfl)))
theorem Zy3 {V:Env} {rounds depth:Nat} (hG:Zai V):Ztp V.P (ZnM V rounds depth):=by
 intro f fid args v ws h
 unfold ZnM at h
 cases he:V.ent f with
 | false=>rw [he] at h;cases h
 | true =>
   rw [he] at h
   simp only [cond_true] at h
   split at h
   case h_2=>cases h
   rename_i p hp
   cases hn:Zgm p.2 with
   | false=>rw [hn] at h;cases h
   | true =>
   rw [hn] at h
   simp only [cond_true,Option.some.injEq] at h
   subst h
   have h:=hp
   have hn:Zgm ws=true:=hn
   have key:∀ (w:World) (ok:Nat->Prop) (vals:Array Value),VL (pcx w ok) args vals.toList->Calls V.P f vals w fun e w'=>∃ v' u ob' mu',e=.returned u /\
       Mem w (cx w' ob' mu' fun b=>ok b\/w.heap.size<=b)/\T (cx w' ob' mu' fun b=>ok b\/w.heap.size<=b)/\Mill.V (cx w' ob' mu' fun b=>ok b\/w.heap.size<=b) v' u/\some (v',squash ob')=some (v,ws):=by
     intro w ok vals hv
     have hm:Mem w (cx w [] (fun _=>none) fun b=>ok b\/w.heap.size<=b) :=
       ⟨fun _=>rfl,fun _ _ _ h=>(by cases h),fun _ _ h=>(by cases h),Below.refl _ _,fun b hb=>.inl (.inr hb)⟩
     have hmono:Mono (pcx w ok) (cx w [] (fun _=>none) fun b=>ok b\/w.heap.size<=b):=Zdf (fun b hb=>⟨⟨.inl hb.1,hb.2.1,hb.2.2⟩,rfl⟩) (fun id=>.inl rfl) (fun _ _ h=>⟨h,rfl⟩)
     exact Zqf (J:=T) hG (Zba hG depth) Stays.triv (fun _ _ _ _=>trivial) Zak hm (hmono.vl _ _ hv) trivial h
   refine ⟨hG.2.2.1 f he,Zh0 _ hn,fun w ok vals hv=>(key w ok vals hv).mono fun e w' he=>?_⟩
   . obtain ⟨v',u,ob',mu',rfl,hm',_,hv',hk⟩:=he
     simp only [Option.some.injEq,Prod.mk.injEq] at hk
     obtain ⟨rfl,rfl⟩:=hk
     exact ⟨u,mu',rfl,by unfold cx at hm' ⊢;rw [Zpi];exact hm',by unfold cx at hv' ⊢;rw [Zpi];exact hv'⟩
def ZoH (P:Program) (hi:Nat) (l:List (FuncId×Spec)):Prop:=∀ p∈l,Zan P p.1 p.2/\(Nat.ble 3 p.1 && Nat.blt p.1 hi)=true
theorem Zah {P:Program} {hi:Nat}:ZoH P hi []:=fun _ h=>by cases h
theorem Zab {P:Program} {hi:Nat} {f:FuncId} {s:Spec} {l:List (FuncId×Spec)} (h:Zan P f s) (hf:(Nat.ble 3 f && Nat.blt f hi)=true) (k:ZoH P hi l):ZoH P hi ((f,s)::l):=by
 intro p hp
 rcases List.mem_cons.1 hp with rfl | hp
 . exact ⟨h,hf⟩
 . exact k p hp
theorem ZsL {P:Program}:∀ (l:List FuncId),ZkM P l=true->∀ f∈l,Zd9 P f
 | [],_,_,h=>by cases h
 | g :: r, h, f, hf => by
   unfold ZkM at h
   generalize hb:(match P.funcs[g]? with | some fn=>!fn.body.isNone && !(fn.name == "runtime.NumGoroutine") | none=>false)=b at h
   cases b with
   | false=>cases h
   | true =>
     rcases List.mem_cons.1 hf with rfl | hf
     . split at hb
       . rename_i fn hfn
         simp only [Bool.and_eq_true,Bool.not_eq_true'] at hb
         exact ⟨fn,hfn,hb.1,hb.2⟩
       . cases hb
     . exact ZsL r h f hf
theorem Zsm:∀ {l:List (FuncId×Spec)} {f:FuncId} {s:Spec},assoc l f=some s->(f,s)∈l
 | [],_,_,h=>by cases h
 | p :: r, f, s, h => by
   unfold assoc at h
   cases hb:Nat.beq p.1 f with
   | true =>
     rw [hb] at h
     have hb:=Nat.eq_of_beq_eq_true hb
     obtain rfl:=Option.some.inj h
     subst hb
     simp
   | false =>
     rw [hb] at h
     exact List.mem_cons_of_mem _ (Zsm h)
theorem Zal {P:Program} {E:TypeId->Option Ty} {hi:Nat} {l:List (FuncId×Spec)} {mv:FuncId->Bool} (hm:P.follows .mixedOrders=true) (he:ZkM P (List.range' 3 (hi-3))=true) (h:ZoH P hi l) :
   Zai (ZwF P E hi l mv):=by
 have hent:∀ f,(Nat.ble 3 f && Nat.blt f hi)=true->Zd9 P f:=by
   intro f hf
   simp only [Bool.and_eq_true] at hf
   have h1:=Nat.le_of_ble_eq_true hf.1
   have h2:=hf.2
   rw [Nat.blt_eq] at h2
   exact ZsL _ he f (by rw [List.mem_range'_1];omega)
 have hsp:∀ f s,assoc l f=some s->Zan P f s/\Zd9 P f:=by
   intro f s hs
   have:=h _ (Zsm hs)
   exact ⟨this.1,hent f this.2⟩
 have x0:XOK P (fun _=>none):=fun f s h=>by cases h
 have y0:YOK P (fun _=>none):=fun f s h=>by cases h
 have h0:Zai (env0 P E hi l):=⟨hsp,hm,hent,(fun _ _ _ _ _ h=>by cases h),x0,y0⟩
 exact ⟨hsp,hm,hent,Zy3 h0,x0,y0⟩
def ZAT (P:Program) (f:FuncId) (s:XSpec):Prop:=∀ fid args ob y post,s.pre fid args ob=some (some y,post) ->
 ∀ (w0 : World) (ok : Nat -> Prop) (w : World) (mu : Nat -> Option Nat) (vals : Array Value), Mem w0 (cx w ob mu ok) -> VL (cx w ob mu ok) args vals.toList ->
   Calls P f vals w fun e w'=>∃ u mu',e=.returned u/\Mem w0 (cx w' (post y).2 mu' ok)/\Mono (cx w ob mu ok) (cx w' (post y).2 mu' ok)/\V (cx w' (post y).2 mu' ok) (post y).1 u
theorem ZuH {P:Program} {E:TypeId->Option Ty} {hi:Nat} {l:List (FuncId×Spec)} {f:FuncId} {x:XSpec} {walk:FuncId->Bool} (hm:P.follows .mixedOrders=true) (he:ZkM P (List.range' 3 (hi-3))=true) (h:ZoH P hi l)
   (hf:(Nat.ble 3 f && Nat.blt f hi)=true) (hx:ZAT P f x):Zai (envX P E hi l [(f,x)] walk):=by
 obtain ⟨h1,h2,h3,h4,_⟩:=Zal (E:=E) (mv:=fun _=>false) hm he h
 refine ⟨h1,h2,h3,h4,fun g s hs=>?_,fun f s h=>by cases h⟩
 have hs:(bif Nat.beq f g then some x else none)=some s:=hs
 cases hb:Nat.beq f g with
 | false=>rw [hb] at hs;cases hs
 | true =>
   rw [hb] at hs
   obtain rfl:=Option.some.inj hs
   have hb:=Nat.eq_of_beq_eq_true hb
   subst hb
   exact ⟨h3 f hf,hx⟩
def Zxq (P:Program) (g:FuncId) (s:YSpec):Prop:=∀ cs a b,s.dec cs=some a->s.fn a=some b ->
 ∀ (w0 w : World) (ok : Nat -> Prop) (ob : List (Nat × AV)) (mu : Nat -> Option Nat) (id : Nat) (vals : Array Value), Mem w0 (cx w ob mu ok) -> look ob id = .box cs -> VL (cx w ob mu ok) [.ptr id 0] vals.toList ->
   Calls P g vals w fun e w'=>∃ u mu',e=.returned u/\Mem w0 (cx w' (Zay [(id,.box (s.enc b).2)] ob) mu' ok)/\Mono (cx w ob mu ok) (cx w' (Zay [(id,.box (s.enc b).2)] ob) mu' ok)/\V (cx w' (Zay [(id,.box (s.enc b).2)] ob) mu' ok) (s.enc b).1 u
theorem Zz1 {P:Program} {E:TypeId->Option Ty} {hi:Nat} {l:List (FuncId×Spec)} {g:FuncId} {y:YSpec} (hm:P.follows .mixedOrders=true) (he:ZkM P (List.range' 3 (hi-3))=true) (h:ZoH P hi l)
   (hf:(Nat.ble 3 g && Nat.blt g hi)=true) (hy:Zxq P g y):Zai (envY P E hi l g y):=by
 obtain ⟨h1,h2,h3,h4,_⟩:=Zal (E:=E) (mv:=fun _=>false) hm he h
 refine ⟨h1,h2,h3,h4,(fun f s h=>by cases h),fun f s hs=>?_⟩
 have hs:(bif Nat.beq g f then some y else none)=some s:=hs
 cases hb:Nat.beq g f with
 | false=>rw [hb] at hs;cases hs
 | true =>
   rw [hb] at hs
   obtain rfl:=Option.some.inj hs
   have hb:=Nat.eq_of_beq_eq_true hb
   subst hb
   exact ⟨h3 g hf,hy⟩
end Go.Proofs.Mill
