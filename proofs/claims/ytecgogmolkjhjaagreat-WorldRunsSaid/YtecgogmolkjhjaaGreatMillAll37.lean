/- Parts of the proof: MillRLin2, MillRRunAll, MillRSame, MillRWld, MillRCommon, MillRNow, MillRRef, MillRRef2, MillRRef17. -/
import Derived.Test.YtecgogmolkjhjaaGreatMillAll36
import Derived.Test.YtecgogmolkjhjaaGreatMillAll4
import Derived.Test.YtecgogmolkjhjaaGreatMillAll34
import Derived.Test.YtecgogmolkjhjaaGreatMillFDa
import Derived.KernelRfl
set_option linter.all false
noncomputable section
namespace Go.Proofs.Mill
theorem Zzv (h:Thread):(Zf2 h).phase=4\/(Zf2 h).phase=7\/(Zf2 h).phase=11\/(Zf2 h).phase=2:=by
 unfold Zf2
 split
 . exact .inl rfl
 . have:=ZfM { h with phase:=4,held:=h.held++[h.node],node:=h.node / 2,at_:=0 }
   have e:(ZlG { h with phase:=4,held:=h.held++[h.node],node:=h.node / 2 }).phase=(ZfL { h with phase:=4,held:=h.held++[h.node],node:=h.node / 2,at_:=0 }).phase:=rfl
   rw [e]
   omega
theorem Zkr (h:Thread):(ZfL h).phase=7\/(ZfL h).phase=11\/(ZfL h).phase=2:=by
 have:=ZfM h
 omega
section
variable {c:Config} {t:Int} {v v':Vw} {h:Thread} {log:List Mark} {done:Bool}
theorem Zbl {h':Thread}:(put v t h').th t=h':=Zal
theorem Zks (g:Thread):((ZbA g).phase=0↔ZeN g=true):=by
 have:=ZiG g
 cases hd:ZeN g with
 | true=>rw [hd] at this;simp at this ⊢;exact this.1
 | false=>rw [hd] at this;simp at this ⊢;omega
theorem Tr.idle (T:Tr c t v h v' log done) (hv:v.th t=h) (hp:h.phase≠0):((v'.th t).phase=0↔done=true):=by
 have no:∀ {p:Int},p≠0->(p=0↔false=true):=fun h=>⟨fun x=>(h x).elim,fun x=>by cases x⟩
 cases T with
 | nop s=>rw [hv];exact no hp
 | start p s=>rw [Zbl];cases s <;> exact no (by dsimp only;decide)
 | load p=>rw [Zbl];exact no (by dsimp only;decide)
 | casF p hw hw2=>rw [Zbl];exact no (by dsimp only;decide)
 | same p e=>rw [Zbl];exact Zks _
 | cas p e=>rw [Zbl];exact Zks _
 | on25 p o=>rw [Zbl];cases o <;> exact no (by dsimp only;decide)
 | look1 p k=>rw [Zbl];exact no (by dsimp only;decide)
 | look0 p=>rw [Zbl];exact no (by dsimp only;decide)
 | lookL p=>rw [Zbl];exact no (by have:=Zkr { h with at_:=0 };show (ZfL { h with at_:=0 }).phase≠0;omega)
 | take p n e=>rw [Zbl];exact no (by have:=Zzv h;omega)
 | takeF p=>rw [Zbl];exact no (by dsimp only;decide)
 | join p n e=>rw [Zbl];exact no (by have:=Zkr { h with phase:=4,stop:=h.node,at_:=0 };show (ZfL { h with phase:=4,stop:=h.node,at_:=0 }).phase≠0;omega)
 | joinF p=>rw [Zbl];exact no (by dsimp only;decide)
 | seeF p a e=>rw [Zbl];exact no (by dsimp only;decide)
 | seeD p a k=>rw [Zbl];exact no (by dsimp only;decide)
 | close p a e=>rw [Zbl];exact no (by have:=Zkr { h with at_:=Zaf IntKind.i64 (h.at_+1) };show (ZfL { h with at_:=Zaf IntKind.i64 (h.at_+1) }).phase≠0;omega)
 | closeF p=>rw [Zbl];exact no (by dsimp only;decide)
 | takeB p w=>rw [Zbl];exact no (by dsimp only;decide)
 | clear p a=>rw [Zbl];exact no (by have:=Zkr { h with at_:=Zaf IntKind.i64 (h.at_+1) };show (ZfL { h with at_:=Zaf IntKind.i64 (h.at_+1) }).phase≠0;omega)
 | box11 p=>rw [Zbl];exact no (by dsimp only;decide)
 | dep p n=>rw [Zbl];exact no (by dsimp only;decide)
 | told p e=>rw [Zbl];exact no (by dsimp only;decide)
 | res p=>rw [Zbl];exact Zks _
 | tell1 p a w=>rw [Zbl];exact no (by dsimp only;decide)
 | tell2 p a w=>rw [Zbl];exact Zks _
 | box17 p=>rw [Zbl];exact no (by dsimp only;decide)
 | open18 p=>rw [Zbl];exact no (by dsimp only;decide)
 | swap20 p s w=>rw [Zbl];exact no (by dsimp only;decide)
 | swap23 p s=>rw [Zbl];exact no (by dsimp only;decide)
 | shut20 p e=>rw [Zbl];exact no (by dsimp only;decide)
 | shutF p e=>rw [Zbl];exact no (by dsimp only;decide)
 | cap21 p w e=>rw [Zbl];exact no (by dsimp only;decide)
 | capF p=>rw [Zbl];exact no (by dsimp only;decide)
 | absorb p w=>rw [Zbl];exact no (by dsimp only;decide)
 | spinF p e=>rw [Zbl];exact no (by dsimp only;decide)
 | spinL p e=>rw [Zbl];exact no (by dsimp only;omega)
 | spinO p e=>rw [Zbl];exact no (by dsimp only;decide)
 | open24 p=>rw [Zbl];exact no (by dsimp only;decide)
 | leave p e hw hw2 o=>rw [Zbl];cases o <;> exact no (by dsimp only;decide)
 | leaveF p e=>rw [Zbl];exact no (by dsimp only;decide)
def ZC3 (c:Config) (v v':Vw) (h:Thread) (log:List Mark):Prop :=
 (log=[]/\∀ i,v'.b i 0=v.b i 0)\/(log=ZgS c h (v.b h.item 0)/\v'.b h.item 0=allT c.lo c.hi h.batch (v.b h.item 0)/\∀ i,i≠h.item->v'.b i 0=v.b i 0)
theorem Tr.cells (T:Tr c t v h v' log done) (hy:h.phase=3->h.y=allT c.lo c.hi h.batch h.x) (hn:0<=ZaJ c) (hat:h.phase=8\/h.phase=10->Zb2 h≠0):ZC3 c v v' h log:=by
 have sm:∀ {a b:List Mark},(∀ i,v'.b i 0=v.b i 0)->ZC3 c v v' h []:=fun x=>.inl ⟨rfl,x⟩
 have wn:∀ {i m w:Int},m≠0->∀ k,setb v.b i m w k 0=v.b k 0:=fun hm k=>ZdR (fun x=>hm x.2.symm)
 cases T with
 | same p e=>exact .inr ⟨rfl,e.symm,fun i _=>rfl⟩
 | cas p e =>
   refine .inr ⟨by rw [e],?_,fun i hi=>ZdR (fun x=>hi x.1)⟩
   show setb v.b h.item 0 h.y h.item 0=_
   rw [ZgB,hy p,e]
 | take p n e=>exact .inl ⟨rfl,wn (by omega)⟩
 | join p n e=>exact .inl ⟨rfl,wn (by omega)⟩
 | close p a e=>exact .inl ⟨rfl,wn (hat (.inl p))⟩
 | clear p a=>exact .inl ⟨rfl,wn (hat (.inr p))⟩
 | dep p n=>exact .inl ⟨rfl,wn (by omega)⟩
 | swap20 p s w=>exact .inl ⟨rfl,wn (by omega)⟩
 | swap23 p s=>exact .inl ⟨rfl,wn (by omega)⟩
 | nop s=>exact .inl ⟨rfl,fun i=>rfl⟩
 | start p s=>exact .inl ⟨rfl,fun i=>rfl⟩
 | load p=>exact .inl ⟨rfl,fun i=>rfl⟩
 | casF p hw hw2=>exact .inl ⟨rfl,fun i=>rfl⟩
 | on25 p o=>exact .inl ⟨rfl,fun i=>rfl⟩
 | look1 p k=>exact .inl ⟨rfl,fun i=>rfl⟩
 | look0 p=>exact .inl ⟨rfl,fun i=>rfl⟩
 | lookL p=>exact .inl ⟨rfl,fun i=>rfl⟩
 | takeF p=>exact .inl ⟨rfl,fun i=>rfl⟩
 | joinF p=>exact .inl ⟨rfl,fun i=>rfl⟩
 | seeF p a e=>exact .inl ⟨rfl,fun i=>rfl⟩
 | seeD p a k=>exact .inl ⟨rfl,fun i=>rfl⟩
 | closeF p=>exact .inl ⟨rfl,fun i=>rfl⟩
 | takeB p w=>exact .inl ⟨rfl,fun i=>rfl⟩
 | box11 p=>exact .inl ⟨rfl,fun i=>rfl⟩
 | told p e=>exact .inl ⟨rfl,fun i=>rfl⟩
 | res p=>exact .inl ⟨rfl,fun i=>rfl⟩
 | tell1 p a w=>exact .inl ⟨rfl,fun i=>rfl⟩
 | tell2 p a w=>exact .inl ⟨rfl,fun i=>rfl⟩
 | box17 p=>exact .inl ⟨rfl,fun i=>rfl⟩
 | open18 p=>exact .inl ⟨rfl,fun i=>rfl⟩
 | shut20 p e=>exact .inl ⟨rfl,fun i=>rfl⟩
 | shutF p e=>exact .inl ⟨rfl,fun i=>rfl⟩
 | cap21 p w e=>exact .inl ⟨rfl,fun i=>rfl⟩
 | capF p=>exact .inl ⟨rfl,fun i=>rfl⟩
 | absorb p w=>exact .inl ⟨rfl,fun i=>rfl⟩
 | spinF p e=>exact .inl ⟨rfl,fun i=>rfl⟩
 | spinL p e=>exact .inl ⟨rfl,fun i=>rfl⟩
 | spinO p e=>exact .inl ⟨rfl,fun i=>rfl⟩
 | open24 p=>exact .inl ⟨rfl,fun i=>rfl⟩
 | leave p e hw hw2 o=>exact .inl ⟨rfl,fun i=>rfl⟩
 | leaveF p e=>exact .inl ⟨rfl,fun i=>rfl⟩
end
structure LinT (c:Config) (w:Wld) (th:Thread) (ro:Int) (co:Option Int) (j:Int):Prop where
  ex:∃ (k:Nat) (op:Bool) (last:Event),ansL c.lo c.hi j (Zch j w.log) (0,false,Zbv) w.hist=some (k,op,last)/\(op=true↔ro≠0) /\
    (op=true->last.op=th.op/\last.item=th.item/\last.kind=1/\last.t=j/\last∈w.hist/\last.step<=w.steps) /\
    (co=none->(Zch j w.log).length=k) /\
    (∀ x,co=some x->(Zch j w.log).length=k+1/\((Zch j w.log).getD k Za4).op=th.op/\((Zch j w.log).getD k Za4).item=th.item/\((Zch j w.log).getD k Za4).prior=x/\last.step<((Zch j w.log).getD k Za4).step/\((Zch j w.log).getD k Za4).step<=w.steps)
structure Lin (c:Config) (w:Wld) (ro:Int->Int) (co:Int->Option Int):Prop where
  ans:∀ j,InT c j->LinT c w ((vw c w.m w.t).th j) (ro j) (co j) j
  cells:∀ i,0<=i->i<c.items->Ze6 c i c.init w.log=some ((vw c w.m w.t).b i 0)
  srt:w.log.Pairwise (fun a b=>a.step<=b.step)
  steps:∀ m∈w.log,1<=m.step/\m.step<=w.steps
  asked:∀ m∈w.log,∃ h∈w.hist,h.kind=1/\h.t=m.t/\h.item=m.item/\h.op=m.op/\h.step<m.step
  inlog:∀ m∈w.log,InT c m.t/\(0<=m.item/\m.item<c.items)/\ZfJ m.op c.bounded=true/\Num m.op.v
  ehist:∀ h∈w.hist,InT c h.t/\(h.kind=1\/h.kind=2\/h.kind=3)/\h.step<=w.steps/\0<=h.step/\Num h.op.v/\Num h.prior
  may:∀ j,InT c j->ro j≠0->ZfJ ((vw c w.m w.t).th j).op c.bounded=true
  hsrt:w.hist.Pairwise (fun a b=>a.step<=b.step)
section
variable {c:Config} {w:Wld} {n:Nat} {ro pa rt ro' pa' rt':Int->Int} {co co':Int->Option Int} {t:Int}
theorem LinT.skip {th:Thread} {r:Int} {cc:Option Int} {j:Int} (L:LinT c w th r cc j) {w':Wld} {h:Event} (hh:h.t≠j\/h.kind=3) (e1:w'.log=w.log) (e2:w'.hist=w.hist++[h]) (e3:w.steps<=w'.steps):LinT c w' th r cc j:=by
 obtain ⟨k,op,last,a,b,d,f,g⟩:=L.ex
 refine ⟨k,op,last,?_,b,fun x=>?_,by rw [e1];exact f,fun x hx=>?_⟩
 . rw [e1,e2,ZhF a,Zpv]
   unfold ansE
   rw [if_pos hh]
 . obtain ⟨d1,d2,d3,d4,d5,d6⟩:=d x
   exact ⟨d1,d2,d3,d4,by rw [e2];exact List.mem_append_left _ d5,by omega⟩
 . rw [e1]
   obtain ⟨g1,g2,g3,g4,g5,g6⟩:=g x hx
   exact ⟨g1,g2,g3,g4,g5,by omega⟩
theorem LinT.same {th:Thread} {r:Int} {cc:Option Int} {j:Int} (L:LinT c w th r cc j) {w':Wld} (e1:Zch j w'.log=Zch j w.log) (e2:w'.hist=w.hist) (e3:w.steps<=w'.steps):LinT c w' th r cc j:=by
 obtain ⟨k,op,last,a,b,d,f,g⟩:=L.ex
 refine ⟨k,op,last,by rw [e1,e2];exact a,b,fun x=>?_,by rw [e1];exact f,fun x hx=>?_⟩
 . obtain ⟨d1,d2,d3,d4,d5,d6⟩:=d x
   exact ⟨d1,d2,d3,d4,by rw [e2];exact d5,by omega⟩
 . rw [e1]
   obtain ⟨g1,g2,g3,g4,g5,g6⟩:=g x hx
   exact ⟨g1,g2,g3,g4,g5,by omega⟩
theorem Lin.hist_more (Li:Lin c w ro co) {h:Event} (hs:w.steps<=h.step):(w.hist++[h]).Pairwise (fun a b=>a.step<=b.step):=by
 rw [List.pairwise_append]
 refine ⟨Li.hsrt,List.pairwise_singleton _ _,fun a ha b hb=>?_⟩
 rw [List.mem_singleton] at hb
 subst hb
 have:=(Li.ehist a ha).2.2.1
 omega
theorem Lin.invoke (Li:Lin c w ro co) (W:WInv c w n ro pa rt co) (hC:CfgOK c) {e:SEntry} (ht:InT c e.t) (ho:ZfJ e.op c.bounded=true) (hop:Num e.op.v):(¬(w.t.getD e.t.toNat Zaw).phase=0->Lin c (invT w e) ro co)/\((w.t.getD e.t.toNat Zaw).phase=0->Lin c (invT w e) (seta ro e.t 1) co):=by
 have hth:(vw c w.m w.t).th e.t=w.t.getD e.t.toNat Zaw:=ZhK ht
 have hst:=W.steps
 constructor
 . intro hp
   have e0:invT w e={ w with hist:=w.hist++[⟨3,e.t,e.item,e.op,0,false,w.steps⟩] }:=by unfold invT;rw [if_pos hp]
   rw [e0]
   refine ⟨fun j hj=>(Li.ans j hj).skip (.inr rfl) rfl rfl (Int.le_refl _),Li.cells,Li.srt,Li.steps,fun m hm=>?_,Li.inlog,fun h hh=>?_,Li.may,Li.hist_more (Int.le_refl _)⟩
   . obtain ⟨h,h1,h2⟩:=Li.asked m hm
     exact ⟨h,List.mem_append_left _ h1,h2⟩
   . rcases List.mem_append.1 hh with hh | hh
     . exact Li.ehist h hh
     . rw [List.mem_singleton] at hh;subst hh
       exact ⟨ht,.inr (.inr rfl),Int.le_refl _,hst.1,hop,Zb3 (show (-1000000:Int)<=0/\(0:Int)<=1000000 by decide)⟩
 . intro hp
   have h0:ro e.t=0:=(W.inv.busy ht).2 (by rw [hth];exact hp)
   have e0:invT w e={ w with t:=w.t.set e.t.toNat (ZfQ w.c e.t e.item e.op w.now (w.t.getD e.t.toNat Zaw).width),hist:=w.hist++[⟨1,e.t,e.item,e.op,0,false,w.steps⟩] }:=by unfold invT;rw [if_neg (fun x=>x hp)]
   rw [e0]
   obtain ⟨b,hb⟩:∃ b,b=ZfQ w.c e.t e.item e.op w.now (w.t.getD e.t.toNat Zaw).width:=⟨_,rfl⟩
   rw [<- hb]
   have hvt:(vw c w.m (w.t.set e.t.toNat b)).th=seta (vw c w.m w.t).th e.t b:=by
     rw [Zsx W.lenT ht];rfl
   refine ⟨fun j hj=>?_,Li.cells,Li.srt,Li.steps,fun m hm=>?_,Li.inlog,fun h hh=>?_,fun j hj hr=>?_,Li.hist_more (Int.le_refl _)⟩
   . show LinT c _ ((vw c w.m (w.t.set e.t.toNat b)).th j) (seta ro e.t 1 j) (co j) j
     rw [hvt]
     by_cases ej:j=e.t
     . rw [ej,Zal,Zal]
       obtain ⟨k,op,last,a,b1,d,f,g⟩:=(Li.ans e.t ht).ex
       have hop:op=false:=by
         cases op with
         | false=>rfl
         | true=>exact (b1.1 rfl h0).elim
       have hct:co e.t=none:=(W.inv.core.k0 e.t h0).1
       refine ⟨k,true,⟨1,e.t,e.item,e.op,0,false,w.steps⟩,?_,⟨fun _=>by decide,fun _=>rfl⟩,fun _=>⟨by rw [hb];rfl,by rw [hb];rfl,rfl,rfl,List.mem_append_right _ (List.mem_singleton.2 rfl),Int.le_refl _⟩,f,fun x hx=>by rw [hct] at hx;cases hx⟩
       rw [ZhF a,Zpv,hop]
       unfold ansE
       rw [if_neg (by show ¬(e.t≠e.t\/(1:Int)=3);simp),if_pos rfl,if_neg (show ¬(false=true) by decide)]
     . rw [Zah ej,Zah ej]
       exact (Li.ans j hj).skip (.inl (Ne.symm ej)) rfl rfl (Int.le_refl _)
   . obtain ⟨h,h1,h2⟩:=Li.asked m hm
     exact ⟨h,List.mem_append_left _ h1,h2⟩
   . rcases List.mem_append.1 hh with hh | hh
     . exact Li.ehist h hh
     . rw [List.mem_singleton] at hh;subst hh
       exact ⟨ht,.inl rfl,Int.le_refl _,hst.1,hop,Zb3 (show (-1000000:Int)<=0/\(0:Int)<=1000000 by decide)⟩
   . show ZfJ ((vw c w.m (w.t.set e.t.toNat b)).th j).op c.bounded=true
     rw [hvt]
     by_cases ej:j=e.t
     . rw [ej,Zal,hb];exact ho
     . rw [Zah ej] at hr ⊢;exact Li.may j hj hr
theorem Core.inBatch {ba:Int->List Entry} {ks:Int->List Kid} {opf:Int->Op} {it:Int->Int} (C:Core c ba ks opf it ro pa rt co) {r:Int} (hr:ro r=1) (j:Int):(ro j≠0/\co j=none/\rt j=r)↔idxOf (ba r) j<(ba r).length:=by
 obtain ⟨cr,rr⟩:=C.k1 r (by omega)
 constructor
 . rintro ⟨a,b,d⟩
   obtain ⟨_,_,o,hs⟩:=C.k5 j a b
   rw [d] at hs
   obtain ⟨r1,hr1⟩:=C.k3 j a
   have hm:(⟨j,opf j⟩:Entry)∈ba r:=hs.mem (by rw [hr1];exact List.mem_cons_self ..)
   exact ZFh hm
 . intro h
   unfold idxOf at h
   have h':((ba r).map (·.t)).findIdx (fun t=>t == j)<((ba r).map (·.t)).length:=by rwa [List.length_map]
   have h2:=List.findIdx_getElem (w:=h')
   have h3:j∈(ba r).map (·.t):=by
     rw [<- eq_of_beq h2];exact List.getElem_mem h'
   obtain ⟨e,he,rfl⟩:=List.mem_map.1 h3
   obtain ⟨a,b,d,f,g⟩:=C.k4 r (by omega) cr e he
   exact ⟨a,f,by rw [g,rr]⟩
theorem Lin.pick (Li:Lin c w ro co) (W:WInv c w n ro pa rt co) (hC:CfgOK c) (hlo:Num c.lo) (hhi:Num c.hi) (hn:n<=200000) (hci:Inb c c.init) (ht:InT c t) (hp:(w.t.getD t.toNat Zaw).phase≠0) :
   ∃ ro' pa' rt' co',WInv c (Zcg w t (ZaG (Za7 w t))) (n+1) ro' pa' rt' co'/\Lin c (Zcg w t (ZaG (Za7 w t))) ro' co':=by
 obtain ⟨_,ro',pa',rt',co1,W',info,T⟩:=W.pick hC hlo hhi hn ht hp
 refine ⟨ro',pa',rt',_,W',?_⟩
 have hth:(vw c w.m w.t).th t=w.t.getD t.toNat Zaw:=ZhK ht
 have hkp:=Zk3 (Za7 w t)
 have hL:=W.inv.loc t ht
 have hro:ro t≠0:=by
   intro h0
   have:=(W.inv.busy ht).1 h0
   rw [hth] at this
   exact hp this
 have hop1:(ZaG (Za7 w t)).th.op=(w.t.getD t.toNat Zaw).op:=Zyk hkp
 have hit1:(ZaG (Za7 w t)).th.item=(w.t.getD t.toNat Zaw).item:=Zz2 hkp
 obtain ⟨u,hu⟩:∃ u,u=ZaG (Za7 w t):=⟨_,rfl⟩
 rw [<- hu] at W' info T hop1 hit1 ⊢
 have hst:=W.steps
 have hs:Zdr w=w.steps+1:=by unfold Zdr;rw [Zat (by omega) (by omega)]
 have hvth:(vw c (Zcg w t u).m (Zcg w t u).t).th=seta (vw c w.m w.t).th t u.th:=by
   show vwT c (w.t.set t.toNat u.th)=_
   rw [ZBe W.lenT ht];rfl
 have hidle:=T.idle hth hp
 rw [hvth,Zal] at hidle
 have hcells:=T.cells (fun p=>by rw [<- hth] at p ⊢;exact hL.y p) (Zbr c).1 (fun p=>by
   rw [<- hth] at p ⊢
   have ha:=hL.ari.2.2.2.2.2.2.1 (by omega)
   have:=(W.inv.nodes t ht).1 _ (Zic (by omega) ha)
   omega)
 have hbz:∀ j,InT c j->j≠t->(ro' j=0↔ro j=0):=by
   intro j hj hjt
   rw [W'.inv.busy hj,W.inv.busy hj,hvth,Zah hjt]
 have hbt:ro' t=0↔u.done=true:=by
   rw [W'.inv.busy ht,hvth,Zal];exact hidle
 obtain ⟨co',hco'⟩:∃ co',co'=if u.done=true then seta co1 t none else co1:=⟨_,rfl⟩
 rw [<- hco'] at W' ⊢
 have hcoj:∀ j,j≠t->co' j=co1 j:=by
   intro j hj;rw [hco'];split
   . rw [Zah hj]
   . rfl
 obtain ⟨ms,hms⟩:∃ ms,ms=u.log.map (Zcn (Zdr w)):=⟨_,rfl⟩
 have hlog:(Zcg w t u).log=w.log++ms:=by rw [hms];rfl
 have hsteps:(Zcg w t u).steps=w.steps+1:=hs
 have own:∀ j,InT c j->∃ (k:Nat) (op:Bool) (last:Event),ansL c.lo c.hi j (Zch j (w.log++ms)) (0,false,Zbv) w.hist=some (k,op,last)/\(op=true↔ro j≠0) /\
     (op=true->last.op=((vw c w.m w.t).th j).op/\last.item=((vw c w.m w.t).th j).item/\last.kind=1/\last.t=j/\last∈w.hist/\last.step<=w.steps) /\
     (co1 j=none->(Zch j (w.log++ms)).length=k) /\
     (∀ x,co1 j=some x->(Zch j (w.log++ms)).length=k+1/\((Zch j (w.log++ms)).getD k Za4).op=((vw c w.m w.t).th j).op/\((Zch j (w.log++ms)).getD k Za4).item=((vw c w.m w.t).th j).item/\((Zch j (w.log++ms)).getD k Za4).prior=x/\last.step<((Zch j (w.log++ms)).getD k Za4).step/\((Zch j (w.log++ms)).getD k Za4).step<=w.steps+1):=by
   intro j hj
   obtain ⟨k,op,last,a,b,d,f,g⟩:=(Li.ans j hj).ex
   rcases info.1 with ⟨e1,e2⟩ | ⟨hr1,e1,e2⟩
   . have:ms=[]:=by rw [hms,e1];rfl
     rw [this,List.append_nil,e2]
     exact ⟨k,op,last,a,b,d,f,fun x hx=>by obtain ⟨g1,g2,g3,g4,g5,g6⟩:=g x hx;exact ⟨g1,g2,g3,g4,g5,by omega⟩⟩
   . have hmo:Zch j ms=if idxOf ((vw c w.m w.t).th t).batch j<((vw c w.m w.t).th t).batch.length then [⟨j,((vw c w.m w.t).th t).item,(((vw c w.m w.t).th t).batch.getD (idxOf ((vw c w.m w.t).th t).batch j) ⟨0,⟨0,0⟩⟩).op,allT c.lo c.hi (((vw c w.m w.t).th t).batch.take (idxOf ((vw c w.m w.t).th t).batch j)) ((vw c w.m w.t).b ((vw c w.m w.t).th t).item 0),Zdr w⟩] else []:=by
       rw [hms,e1]
       exact ZuZ _ _ j _ _ (W.inv.core.nod t hro)
     have hib:=W.inv.core.inBatch hr1 j
     rw [Zyt,hmo]
     by_cases hlt:idxOf ((vw c w.m w.t).th t).batch j<((vw c w.m w.t).th t).batch.length
     . obtain ⟨q1,q2,q3⟩:=hib.2 hlt
       have hf:=f q2
       have hc1:co1 j=some (allT c.lo c.hi (((vw c w.m w.t).th t).batch.take (idxOf ((vw c w.m w.t).th t).batch j)) ((vw c w.m w.t).b ((vw c w.m w.t).th t).item 0)):=by
         rw [e2];exact if_pos ⟨q1,q2,q3⟩
       have hd:=d (b.2 q1)
       have hget:(((vw c w.m w.t).th t).batch.getD (idxOf ((vw c w.m w.t).th t).batch j) ⟨0,⟨0,0⟩⟩)∈((vw c w.m w.t).th t).batch:=by
         rw [List.getD_eq_getElem?_getD,List.getElem?_eq_getElem hlt];exact List.getElem_mem hlt
       have hgt:(((vw c w.m w.t).th t).batch.getD (idxOf ((vw c w.m w.t).th t).batch j) ⟨0,⟨0,0⟩⟩).t=j:=by
         rw [List.getD_eq_getElem?_getD,List.getElem?_eq_getElem hlt]
         have h':(((vw c w.m w.t).th t).batch.map (·.t)).findIdx (fun t=>t == j)<(((vw c w.m w.t).th t).batch.map (·.t)).length:=by rw [List.length_map];exact hlt
         have h2:=List.findIdx_getElem (w:=h')
         have:=eq_of_beq h2
         rw [List.getElem_map] at this
         exact this
       have hk4:=W.inv.core.k4 t hro (W.inv.core.k1 t (by omega)).1 _ hget
       rw [hgt] at hk4
       rw [if_pos hlt]
       refine ⟨k,op,last,Zuj a,b,d,fun x=>(by rw [hc1] at x;cases x),fun x hx=>?_⟩
       rw [hc1] at hx
       have hx:=Option.some.inj hx
       have hg:(Zch j w.log++[(⟨j,((vw c w.m w.t).th t).item,(((vw c w.m w.t).th t).batch.getD (idxOf ((vw c w.m w.t).th t).batch j) ⟨0,⟨0,0⟩⟩).op,allT c.lo c.hi (((vw c w.m w.t).th t).batch.take (idxOf ((vw c w.m w.t).th t).batch j)) ((vw c w.m w.t).b ((vw c w.m w.t).th t).item 0),Zdr w⟩:Mark)]).getD k Za4=⟨j,((vw c w.m w.t).th t).item,(((vw c w.m w.t).th t).batch.getD (idxOf ((vw c w.m w.t).th t).batch j) ⟨0,⟨0,0⟩⟩).op,allT c.lo c.hi (((vw c w.m w.t).th t).batch.take (idxOf ((vw c w.m w.t).th t).batch j)) ((vw c w.m w.t).b ((vw c w.m w.t).th t).item 0),Zdr w⟩:=by
         rw [List.getD_eq_getElem?_getD,List.getElem?_append_right (by omega),hf,Nat.sub_self];rfl
       rw [hg]
       refine ⟨by rw [List.length_append,hf];rfl,hk4.2.1.symm,hk4.2.2.1.symm,hx,?_,?_⟩
       . show last.step<Zdr w
         rw [hs];omega
       . show Zdr w<=w.steps+1
         rw [hs];exact Int.le_refl _
     . rw [if_neg hlt,List.append_nil]
       have hc1:co1 j=co j:=by rw [e2];exact if_neg (fun x=>hlt (hib.1 x))
       rw [hc1]
       exact ⟨k,op,last,a,b,d,f,fun x hx=>by obtain ⟨g1,g2,g3,g4,g5,g6⟩:=g x hx;exact ⟨g1,g2,g3,g4,g5,by omega⟩⟩
 have hmst:∀ m∈ms,m.step=w.steps+1:=by
   intro m hm
   rw [hms] at hm
   obtain ⟨m0,_,rfl⟩:=List.mem_map.1 hm
   exact hs
 have hment:∀ m∈ms,∃ e∈((vw c w.m w.t).th t).batch,ro t=1/\m.t=e.t/\m.op=e.op/\m.item=((vw c w.m w.t).th t).item:=by
   intro m hm
   rw [hms] at hm
   obtain ⟨m0,hm0,rfl⟩:=List.mem_map.1 hm
   rcases info.1 with ⟨e1,_⟩ | ⟨hr1,e1,_⟩
   . rw [e1] at hm0;cases hm0
   . rw [e1] at hm0
     unfold ZgS at hm0
     obtain ⟨i,hi,hg⟩:=List.mem_iff_getElem.1 hm0
     rw [List.getElem_zipWith] at hg
     rw [List.length_zipWith] at hi
     exact ⟨((vw c w.m w.t).th t).batch[i]'(by omega),List.getElem_mem _,hr1,by rw [<- hg];rfl,by rw [<- hg];rfl,by rw [<- hg];rfl⟩
 have hk4m:∀ m∈ms,InT c m.t/\ro m.t≠0/\((vw c w.m w.t).th m.t).op=m.op/\((vw c w.m w.t).th m.t).item=m.item:=by
   intro m hm
   obtain ⟨e,he,hr1,a,b,d⟩:=hment m hm
   have hk:=W.inv.core.k4 t hro (W.inv.core.k1 t (by omega)).1 e he
   rw [a,b,d]
   exact ⟨W.inv.core.ent t hro e he,hk.1,hk.2.1,hk.2.2.1⟩
 have hopt:((vw c w.m w.t).th t).op=u.th.op:=by rw [hop1,hth]
 have hitt:((vw c w.m w.t).th t).item=u.th.item:=by rw [hit1,hth]
 refine ⟨fun j hj=>?_,fun i h0 h1=>?_,?_,fun m hm=>?_,fun m hm=>?_,fun m hm=>?_,fun h hh=>?_,fun j hj hr=>?_,?_⟩
 . rw [hvth]
   obtain ⟨k,op,last,a,b,d,f,g⟩:=own j hj
   by_cases ej:j=t
   . rw [ej] at a b d f g hj ⊢
     rw [Zal]
     have hopen:op=true:=b.2 hro
     obtain ⟨d1,d2,d3,d4,d5,d6⟩:=d hopen
     cases hd:u.done with
     | false =>
       have hh:(Zcg w t u).hist=w.hist:=by show (if u.done=true then _ else _)=_;rw [hd];rfl
       have hct:co' t=co1 t:=by rw [hco',hd];rfl
       refine ⟨k,op,last,by rw [hlog,hh];exact a,⟨fun _ x=>?_,fun _=>hopen⟩,fun _=>⟨by rw [<- hopt];exact d1,by rw [<- hitt];exact d2,d3,d4,by rw [hh];exact d5,by rw [hsteps];omega⟩,fun x=>?_,fun x hx=>?_⟩
       . have:=hbt.1 x;rw [hd] at this;cases this
       . rw [hlog];exact f (by rw [<- hct];exact x)
       . rw [hlog,hsteps]
         have:=g x (by rw [<- hct];exact hx)
         rw [hopt,hitt] at this
         exact this
     | true =>
       have hh:(Zcg w t u).hist=w.hist++[ZlH w t u]:=by show (if u.done=true then _ else _)=_;rw [hd];rfl
       have hc1:co1 t=some u.th.x:=by
         have:=info.2 hd
         rw [hvth,Zal] at this
         exact this
       have hct:co' t=none:=by rw [hco',hd,if_pos rfl,Zal]
       obtain ⟨g1,g2,g3,g4,g5,g6⟩:=g _ hc1
       have hfit:Fits c.lo c.hi (Zch t (w.log++ms)) k last (ZlH w t u):=by
         refine ⟨by omega,by rw [g2,hopt];rfl,by rw [g3,hitt];rfl,g4,?_,by rw [d1,hopt];rfl,by rw [d2,hitt];rfl,g5,?_⟩
         . show (App u.th.op u.th.x w.c.lo w.c.hi).2=(App u.th.op u.th.x c.lo c.hi).2
           rw [W.cE]
         . show _<=Zdr w
           rw [hs];exact g6
       refine ⟨k+1,false,last,?_,⟨fun x=>(by cases x),fun x=>(x (hbt.2 hd)).elim⟩,fun x=>(by cases x),fun _=>?_,fun x hx=>by rw [hct] at hx;cases hx⟩
       . rw [hlog,hh,ZhF a,Zpv]
         unfold ansE
         rw [if_neg (by show ¬(t≠t\/(2:Int)=3);simp),if_neg (by show ¬(2:Int)=1;decide),if_pos ⟨hopen,hfit⟩]
       . rw [hlog];exact g1
   . rw [Zah ej,hcoj j ej]
     have hskip:ansL c.lo c.hi j (Zch j (Zcg w t u).log) (0,false,Zbv) (Zcg w t u).hist=some (k,op,last):=by
       rw [hlog]
       show ansL c.lo c.hi j (Zch j (w.log++ms)) (0,false,Zbv) (if u.done=true then w.hist++[ZlH w t u] else w.hist)=_
       split
       . rw [ZhF a,Zpv]
         unfold ansE
         rw [if_pos (.inl (by show t≠j;exact Ne.symm ej))]
       . exact a
     have hb:=hbz j hj ej
     refine ⟨k,op,last,hskip,⟨fun x=>fun y=>b.1 x (hb.1 y),fun x=>b.2 (fun y=>x (hb.2 y))⟩,fun x=>?_,fun x=>by rw [hlog];exact f x,fun x hx=>by rw [hlog,hsteps];exact g x hx⟩
     obtain ⟨d1,d2,d3,d4,d5,d6⟩:=d x
     refine ⟨d1,d2,d3,d4,?_,by rw [hsteps];omega⟩
     show last∈(if u.done=true then w.hist++[ZlH w t u] else w.hist)
     split
     . exact List.mem_append_left _ d5
     . exact d5
 . rw [hlog]
   have old:=Li.cells i h0 h1
   rw [ZmH old]
   have hCin:Inb c ((vw c w.m w.t).b i 0):=Zsl old hci
   have hnx:=W.inv.num.1 i 0
   rcases hcells with ⟨e1,e2⟩ | ⟨e1,e2,e3⟩
   . rw [hms,e1]
     show some _=some _
     rw [e2 i]
   . by_cases ei:i=(w.t.getD t.toNat Zaw).item
     . have hr1:ro t=1:=by
         rcases info.1 with ⟨x,_⟩ | ⟨x,_,_⟩
         . exfalso
           rw [x] at e1
           have hb:=W.inv.core.k3 t hro
           obtain ⟨r,hb⟩:=hb
           have hb:((vw c w.m w.t).th t).batch=⟨t,((vw c w.m w.t).th t).op⟩::r:=hb
           rw [hth] at hb
           unfold ZgS at e1
           rw [hb] at e1
           cases e1
         . exact x
       rw [hms,e1,ei,e2]
       unfold ZgS
       rw [<- ei]
       have:=Ztt hlo i (Zdr w) (w.t.getD t.toNat Zaw).batch ((vw c w.m w.t).b i 0) hnx hCin (fun e he=>by
         rw [<- hth] at he
         have hk:=W.inv.core.k4 t hro (W.inv.core.k1 t (by omega)).1 e he
         refine ⟨hL.ops (by rw [hth];exact hp) e he,?_⟩
         have:=Li.may e.t (W.inv.core.ent t hro e he) hk.1
         have h2:((vw c w.m w.t).th e.t).op=e.op:=hk.2.1
         rwa [h2] at this)
       exact this
     . rw [hms,e1,e3 i ei]
       exact ZrR (Ne.symm ei) _ (fun _ _=>rfl) _ _ _
 . rw [hlog,List.pairwise_append]
   refine ⟨Li.srt,?_,fun a ha b hb=>?_⟩
   . rw [List.pairwise_iff_getElem]
     intro i j hi hj _
     rw [hmst _ (List.getElem_mem hi),hmst _ (List.getElem_mem hj)]
     exact Int.le_refl _
   . rw [hmst b hb]
     have:=(Li.steps a ha).2
     omega
 . rw [hsteps]
   rw [hlog] at hm
   rcases List.mem_append.1 hm with hm | hm
   . have:=Li.steps m hm;omega
   . rw [hmst m hm];omega
 . rw [hlog] at hm
   have hsub:∀ h∈w.hist,h∈(Zcg w t u).hist:=by
     intro h hh
     show h∈(if u.done=true then w.hist++[ZlH w t u] else w.hist)
     split
     . exact List.mem_append_left _ hh
     . exact hh
   rcases List.mem_append.1 hm with hm | hm
   . obtain ⟨h,h1,h2⟩:=Li.asked m hm
     exact ⟨h,hsub h h1,h2⟩
   . obtain ⟨q1,q2,q3,q4⟩:=hk4m m hm
     obtain ⟨k,op,last,a,b,d,_,_⟩:=(Li.ans m.t q1).ex
     obtain ⟨d1,d2,d3,d4,d5,d6⟩:=d (b.2 q2)
     exact ⟨last,hsub _ d5,d3,d4,by rw [d2,q4],by rw [d1,q3],by rw [hmst m hm];omega⟩
 . rw [hlog] at hm
   rcases List.mem_append.1 hm with hm | hm
   . exact Li.inlog m hm
   . obtain ⟨q1,q2,q3,q4⟩:=hk4m m hm
     have hLm:=W.inv.loc m.t q1
     have hpm:((vw c w.m w.t).th m.t).phase≠0:=fun x=>q2 ((W.inv.busy q1).2 x)
     refine ⟨q1,by rw [<- q4];exact hLm.item hpm,by rw [<- q3];exact Li.may m.t q1 q2,?_⟩
     obtain ⟨e,he,_,_,b,_⟩:=hment m hm
     rw [b]
     exact hL.ops (by rw [hth];exact hp) e he
 . have hh:h∈(if u.done=true then w.hist++[ZlH w t u] else w.hist):=hh
   rw [hsteps]
   have old:h∈w.hist->_:=fun hh=>Li.ehist h hh
   split at hh
   . rcases List.mem_append.1 hh with hh | hh
     . have:=old hh;exact ⟨this.1,this.2.1,by omega,this.2.2.2⟩
     . rw [List.mem_singleton] at hh;subst hh
       refine ⟨ht,.inr (.inl rfl),by show Zdr w<=_;rw [hs];exact Int.le_refl _,by show 0<=Zdr w;rw [hs];omega,?_,?_⟩
       . show Num u.th.op.v
         obtain ⟨r,hb⟩:=W.inv.core.k3 t hro
         have hb:((vw c w.m w.t).th t).batch=⟨t,((vw c w.m w.t).th t).op⟩::r:=hb
         have:=hL.ops (by rw [hth];exact hp) ⟨t,((vw c w.m w.t).th t).op⟩ (by rw [hb];exact List.mem_cons_self ..)
         rw [<- hopt];exact this
       . show Num u.th.x
         have:=(W'.inv.loc t ht).nx
         rw [hvth,Zal] at this
         exact this
   . have:=old hh;exact ⟨this.1,this.2.1,by omega,this.2.2.2⟩
 . rw [hvth]
   by_cases ej:j=t
   . rw [ej,Zal,hop1,<- hth];exact Li.may t ht hro
   . rw [Zah ej];exact Li.may j hj (fun x=>hr ((hbz j hj ej).2 x))
 . show (if u.done=true then w.hist++[ZlH w t u] else w.hist).Pairwise _
   split
   . exact Li.hist_more (by show w.steps<=Zdr w;rw [hs];omega)
   . exact Li.hsrt
theorem Lin.entry (Li:Lin c w ro co) (W:WInv c w n ro pa rt co) (hC:CfgOK c) (hlo:Num c.lo) (hhi:Num c.hi) (hn:n<=200000) (hci:Inb c c.init) {e:SEntry} (he:Zby c e=0) (hop:Num e.op.v) :
   ∃ ro' pa' rt' co',WInv c (Zb5 w e) (n+1) ro' pa' rt' co'/\Lin c (Zb5 w e) ro' co':=by
 have hE:=(W.entry hC hlo hhi hn he hop).2
 rcases Zo9 he with ⟨k,ht,hi,ho⟩ | ⟨k,ht⟩ | k
 . unfold Zb5
   rw [if_pos k]
   have hI:=Li.invoke W hC ht ho hop
   by_cases hp:(w.t.getD e.t.toNat Zaw).phase=0
   . have h2:=hI.2 hp
     have hth:(vw c w.m w.t).th e.t=w.t.getD e.t.toNat Zaw:=ZhK ht
     have hl:=W.log;have hh:=W.hist;have hst:=W.steps;have hnw:=W.now
     refine ⟨seta ro e.t 1,pa,seta rt e.t e.t,co,?_,h2⟩
     have hv:=W.inv.invoke hC ht (by rw [hth];exact hp) (i:=e.item) (op:=e.op) (now:=w.now) (wd:=(w.t.getD e.t.toNat Zaw).width) hi hop (by rw [hth])
     unfold invT
     rw [if_neg (fun x=>x hp)]
     refine ⟨W.cE,?_,W.lenW,W.lenB,W.tape,?_,?_,?_,?_,?_⟩
     . show ((w.t.set _ _).length:Int)=_
       rw [List.length_set];exact W.lenT
     . show w.log.length<=_;omega
     . show (w.hist++[_]).length<=_
       rw [List.length_append,List.length_singleton];omega
     . show 0<=w.steps/\w.steps<=((n+1:Nat):Int);omega
     . show 0<=w.now/\w.now<=((n+1:Nat):Int);omega
     . show Inv c (vw c w.m (w.t.set _ _)) _ _ _ _
       rw [Zsx W.lenT ht,W.cE]
       exact hv
   . have h2:=hI.1 hp
     have hl:=W.log;have hh:=W.hist;have hst:=W.steps;have hnw:=W.now
     refine ⟨ro,pa,rt,co,?_,h2⟩
     unfold invT
     rw [if_pos hp]
     refine ⟨W.cE,W.lenT,W.lenW,W.lenB,W.tape,?_,?_,?_,?_,W.inv⟩
     . show w.log.length<=_;omega
     . show (w.hist++[_]).length<=_
       rw [List.length_append,List.length_singleton];omega
     . show 0<=w.steps/\w.steps<=((n+1:Nat):Int);omega
     . show 0<=w.now/\w.now<=((n+1:Nat):Int);omega
 . unfold Zb5
   rw [if_neg (show ¬e.kind=1 by omega),if_pos k]
   have hl:=W.log;have hh:=W.hist;have hst:=W.steps;have hnw:=W.now
   by_cases hp:(w.t.getD e.t.toNat Zaw).phase=0
   . rw [if_pos hp]
     exact ⟨ro,pa,rt,co,⟨W.cE,W.lenT,W.lenW,W.lenB,W.tape,by omega,by omega,by omega,by omega,W.inv⟩,Li⟩
   . rw [if_neg hp]
     exact Li.pick W hC hlo hhi hn hci ht hp
 . have hl:=W.log;have hh:=W.hist;have hst:=W.steps;have hnw:=W.now
   unfold Zb5
   rw [if_neg (show ¬e.kind=1 by omega),if_neg (show ¬e.kind=2 by omega),if_pos k]
   refine ⟨ro,pa,rt,co,⟨W.cE,W.lenT,W.lenW,W.lenB,W.tape,?_,?_,?_,?_,W.inv⟩,⟨fun j hj=>(Li.ans j hj).same rfl rfl (Int.le_refl _),Li.cells,Li.srt,Li.steps,Li.asked,Li.inlog,Li.ehist,Li.may,Li.hsrt⟩⟩
   . show w.log.length<=_;omega
   . show w.hist.length<=_;omega
   . show 0<=w.steps/\w.steps<=((n+1:Nat):Int);omega
   . show 0<=Zaf .i64 (w.now+1)/\Zaf .i64 (w.now+1)<=((n+1:Nat):Int)
     rw [Zat (by omega) (by omega)];omega
theorem Lin.entries (hC:CfgOK c) (hlo:Num c.lo) (hhi:Num c.hi) (hci:Inb c c.init):∀ {l:List SEntry} {w:Wld} {n:Nat} {ro pa rt:Int->Int} {co:Int->Option Int},WInv c w n ro pa rt co->Lin c w ro co->n+l.length<=200000->(∀ e∈l,Zby c e=0/\Num e.op.v) ->
   ∃ ro' pa' rt' co',WInv c (l.foldl Zb5 w) (n+l.length) ro' pa' rt' co'/\Lin c (l.foldl Zb5 w) ro' co'
 | [],w,n,ro,pa,rt,co,W,Li,_,_=>⟨ro,pa,rt,co,W,Li⟩
 | e :: l, w, n, ro, pa, rt, co, W, Li, hn, he => by
   rw [List.length_cons] at hn
   obtain ⟨ro',pa',rt',co',W',Li'⟩:=Li.entry W hC hlo hhi (by omega) hci (he e (List.mem_cons_self ..)).1 (he e (List.mem_cons_self ..)).2
   have:=Lin.entries hC hlo hhi hci W' Li' (by omega) (fun x hx=>he x (List.mem_cons_of_mem _ hx))
   rw [List.length_cons,show n+(l.length+1)=n+1+l.length by omega]
   exact this
theorem ZCx (hC:CfgOK c) (hci:Num c.init) {d:List Int}:Lin c (newW c d) (fun _=>0) (fun _=>none):=by
 have hth:=hC.threads
 have hit:=hC.items
 refine ⟨fun j hj=>⟨0,false,Zbv,rfl,⟨fun x=>(by cases x),fun x=>(x rfl).elim⟩,fun x=>(by cases x),fun _=>rfl,fun x hx=>(by cases hx)⟩,fun i h0 h1=>?_,List.Pairwise.nil,fun m hm=>(by cases hm),fun m hm=>(by cases hm),fun m hm=>(by cases hm),fun h hh=>(by cases hh),fun j _ h=>(h rfl).elim,List.Pairwise.nil⟩
 show some c.init=some (vwB c (Zcw c).words i 0)
 have hb:=ZcQ hC
 unfold vwB
 rw [if_pos ⟨⟨h0,h1⟩,Int.le_refl 0,by omega⟩]
 rw [(ZqR (t:=0) (i:=0) hC hci ⟨by omega,by omega⟩ ⟨by omega,by omega⟩).cells i h0 h1]
end
end Go.Proofs.Mill
namespace Go.Proofs.Mill
theorem ZBc {e:SEntry} (h:Ty.Ok .sentry e):Num e.op.v:=by
 have:=h (.int .i64 e.op.v) (by simp [Ty.enc,Zn1])
 cases this with
 | int h=>exact Zz0 h
theorem ZwY {l:List SEntry} (h:(Zax .sentry).Ok l):∀ e∈l,Num e.op.v:=fun e he=>ZBc (h.2 e he)
def Zkp:Wld:=Wld.mk (Config.mk (0:Int) (0:Int) (0:Int) (0:Int) (0:Int) (0:Int) (0:Int) (0:Int) false (0:Int) (0:Int) (0:Int)) (Memo.mk ([]:List Int) ([]:List (List Entry))) ([]:List Thread) (0:Int) (0:Int) (Tape.mk ([]:List Int) (0:Int)) ([]:List Mark) ([]:List Event)
theorem ZAI {c:Config} {l:List SEntry} (h:(allE c l).2=0):CfgOK c/\l.length<=65536/\∀ e∈l,Zby c e=0:=by
 obtain ⟨e,he,hE⟩:=Zg3 c
 unfold allE at h
 rw [he,Option.getD_some] at h
 by_cases h0:e≠0
 . rw [if_pos h0] at h;exact (h0 h).elim
 rw [if_neg h0] at h
 have h0:=Classical.not_not.1 h0
 by_cases h1:l.length>65536
 . rw [if_pos h1] at h;exact absurd h (by decide)
 rw [if_neg h1] at h
 refine ⟨hE.1 h0,by omega,?_⟩
 cases hb:Zff c 0 l with
 | none=>exact Zuv hb
 | some y =>
   rw [hb] at h
   have key:∀ (l:List SEntry) (i:Nat),Zff c i l=some y->y.2≠0:=by
     intro l
     induction l with
     | nil=>intro i h;cases h
     | cons e l ih =>
       intro i h
       unfold Zff at h
       by_cases g:Zby c e=0
       . rw [if_pos g] at h;exact ih _ h
       . rw [if_neg g] at h;rw [<- Option.some.inj h];exact g
   exact (key l 0 hb h).elim
theorem ZD6 {c:Config} {l:List SEntry} {d:List Int} (hc:Num c.init/\Num c.lo/\Num c.hi) (hl:∀ e∈l,Num e.op.v) (hd:d.length<=4294967296) :
   (Zf5 c l d=some (Zkp,allE c l)/\(allE c l).2≠0) \/
   (Zf5 c l d=some (l.foldl Zb5 (newW c d),0,0)/\allE c l=(0,0)/\CfgOK c/\l.length<=65536/\(∀ e∈l,Zby c e=0)/\∃ ro pa rt co,WInv c (l.foldl Zb5 (newW c d)) l.length ro pa rt co/\Lin c (l.foldl Zb5 (newW c d)) ro co):=by
 by_cases h:(allE c l).2=0
 . obtain ⟨hC,h1,h2⟩:=ZAI h
   have hB:Inb c c.init:=fun hb=>hC.bounds hb
   have hW:=Zr8 hC hc.1 hd
   have hE:=WInv.entries hC hc.2.1 hc.2.2 hW (l:=l) (by omega) (fun e he=>⟨h2 e he,hl e he⟩)
   obtain ⟨ro,pa,rt,co,w1,w2⟩:=Lin.entries hC hc.2.1 hc.2.2 hB hW (ZCx hC hc.1 (d:=d)) (l:=l) (by omega) (fun e he=>⟨h2 e he,hl e he⟩)
   rw [Nat.zero_add] at w1
   exact .inr ⟨ZAm hC h1 h2 hd hE.1,Zx9 hC h1 h2,hC,h1,h2,ro,pa,rt,co,w1,w2⟩
 . refine .inl ⟨?_,h⟩
   unfold Zf5
   rw [show Zjk (c,l)=some (allE c l) from Ztv c l]
   simp only []
   rw [Zdj h]
   rfl
end Go.Proofs.Mill
namespace Go.Proofs.Mill
theorem Zp0 (l:List Entry) (h:l.length<=4294967296):Zgl l=some l:=by
 have hw:Zly (l,[],0)=some l:=by
   refine Zbi (fun i=>(l,l.take i,(i:Int))) l.length (fun i hi=>?_) ?_
   . have h1:(i:Int)<(l.length:Int):=by omega
     have h2:fewB (i+1)=true:=ZaX (by omega)
     have h3:min i l.length=i:=by omega
     simp only [Zd5,Zhi,Zap,if_pos h1,if_pos (Int.natCast_nonneg i),List.length_take,List.length_cons,List.length_nil,h3,h2,cond_true,Int.toNat_natCast]
     rw [ZcO l _ i hi,Zat (by omega) (by omega)]
     rfl
   . simp [Zd5,Zhi]
 simp only [Zgl,hw]
theorem Zv4 (m:Memo) (h:m.boxes.length<=4294967296) (hb:∀ b∈m.boxes,b.length<=4294967296):ZjK m=some m:=by
 have hw:ZlS (m,⟨[],[]⟩,{ m with boxes:=[] },0)=some (⟨[],[]⟩,m):=by
   refine Zbi (fun i=>(m,(⟨[],[]⟩:Memo),{ m with boxes:=m.boxes.take i },(i:Int))) m.boxes.length (fun i hi=>?_) ?_
   . have h1:(i:Int)<(m.boxes.length:Int):=by omega
     have h2:fewB (i+1)=true:=ZaX (by omega)
     have h3:min i m.boxes.length=i:=by omega
     have h4:Zgl (m.boxes.getD i ([]:List Entry))=some (m.boxes.getD i ([]:List Entry)):=by
       refine Zp0 _ (hb _ ?_)
       rw [List.getD_eq_getElem?_getD,List.getElem?_eq_getElem hi,Option.getD_some]
       exact List.getElem_mem hi
     simp only [Zep,Zh4,Ze9,Zap,if_pos h1,if_pos (Int.natCast_nonneg i),List.length_take,List.length_cons,List.length_nil,h3,h2,cond_true,Int.toNat_natCast,h4]
     rw [ZcO m.boxes _ i hi,Zat (by omega) (by omega)]
     rfl
   . simp [Zep,Zh4]
 simp only [ZjK]
 rw [show (Memo.mk ([]:List Int) ([]:List (List Entry)))=⟨[],[]⟩ from rfl]
 simp only [hw]
theorem Zxg (t:Thread) (h:t.kids.length<=4294967296) (hb:t.batch.length<=4294967296):Zk0 t=some t:=by
 have hw:∀ z:Thread,ZnS (t,z,{ t with kids:=[] },0)=some (z,t):=by
   intro z
   refine Zbi (fun i=>(t,z,{ t with kids:=t.kids.take i },(i:Int))) t.kids.length (fun i hi=>?_) ?_
   . have h1:(i:Int)<(t.kids.length:Int):=by omega
     have h2:fewB (i+1)=true:=ZaX (by omega)
     have h3:min i t.kids.length=i:=by omega
     simp only [Zfa,ZiO,Zap,if_pos h1,if_pos (Int.natCast_nonneg i),List.length_take,List.length_cons,List.length_nil,h3,h2,cond_true,Int.toNat_natCast]
     rw [ZcO t.kids _ i hi,Zat (by omega) (by omega)]
     rfl
   . simp [Zfa,ZiO]
 simp only [Zk0,Ze9,Zp0 _ hb]
 have:=hw (Thread.mk (0:Int) (0:Int) (Op.mk (0:Int) (0:Int)) ([]:List Entry) ([]:List Kid) ([]:List Int) (0:Int) (0:Int) (0:Int) (0:Int) (0:Int) (0:Int) (0:Int) (0:Int) (0:Int) (0:Int))
 split
 . rename_i y e
   have e2:=this.symm.trans e
   obtain rfl:=Option.some.inj e2
   rfl
 . rename_i e
   have e2:=this.symm.trans e
   cases e2
theorem Zxk (l:List Mark) (h:l.length<=4294967296):Zle l=some l:=by
 have hw:ZnX (l,[],0)=some l:=by
   refine Zbi (fun i=>(l,l.take i,(i:Int))) l.length (fun i hi=>?_) ?_
   . have h1:(i:Int)<(l.length:Int):=by omega
     have h2:fewB (i+1)=true:=ZaX (by omega)
     have h3:min i l.length=i:=by omega
     simp only [Ze8,Zjm,Zap,if_pos h1,if_pos (Int.natCast_nonneg i),List.length_take,List.length_cons,List.length_nil,h3,h2,cond_true,Int.toNat_natCast]
     rw [ZcO l _ i hi,Zat (by omega) (by omega)]
     rfl
   . simp [Ze8,Zjm]
 simp only [Zle,hw]
theorem ZuI (l:List Int) (h:l.length<=4294967296):ZlU l l=some true:=by
 have hw:ZoW (l,l,0)=some (.inl ()):=by
   refine Zbi (fun i=>(l,l,(i:Int))) l.length (fun i hi=>?_) ?_
   . have h1:(i:Int)<(l.length:Int):=by omega
     simp only [Zfo,Zkj,Zap,if_pos h1,if_pos (Int.natCast_nonneg i),bne_self_eq_false,cond_false]
     rw [Zat (by omega) (by omega)]
     rfl
   . simp [Zfo,Zkj]
 simp only [ZlU,bne_self_eq_false,cond_false,hw]
theorem Zur (l:List Entry) (h:l.length<=4294967296):ZiY l l=some true:=by
 have hw:ZoN (l,l,0)=some (.inl ()):=by
   refine Zbi (fun i=>(l,l,(i:Int))) l.length (fun i hi=>?_) ?_
   . have h1:(i:Int)<(l.length:Int):=by omega
     simp only [Zfs,Zkd,Zap,if_pos h1,if_pos (Int.natCast_nonneg i),beq_self_eq_true,Bool.and_self,Bool.not_true,cond_false]
     rw [Zat (by omega) (by omega)]
     rfl
   . simp [Zfs,Zkd]
 simp only [ZiY,bne_self_eq_false,cond_false,hw]
theorem ZBV (m:Memo) (h:m.words.length<=4294967296) (h2:m.boxes.length<=4294967296) (hb:∀ b∈m.boxes,b.length<=4294967296):Zmz m m=some true:=by
 have hw:ZoJ (m,m,0)=some (.inl ()):=by
   refine Zbi (fun i=>(m,m,(i:Int))) m.boxes.length (fun i hi=>?_) ?_
   . have h1:(i:Int)<(m.boxes.length:Int):=by omega
     have h4:ZiY (m.boxes.getD i ([]:List Entry)) (m.boxes.getD i ([]:List Entry))=some true:=by
       refine Zur _ (hb _ ?_)
       rw [List.getD_eq_getElem?_getD,List.getElem?_eq_getElem hi,Option.getD_some]
       exact List.getElem_mem hi
     simp only [Zfi,ZjS,ZgC,Zap,if_pos h1,if_pos (Int.natCast_nonneg i),Int.toNat_natCast,h4,Bool.not_true,cond_false]
     rw [Zat (by omega) (by omega)]
     rfl
   . simp [Zfi,ZjS]
 simp only [Zmz,Zgv,ZuI _ h,bne_self_eq_false,Bool.not_true,cond_false,hw]
theorem ZxD (t:Thread) (h:t.kids.length<=4294967296) (hb:t.batch.length<=4294967296) (hh:t.held.length<=4294967296):ZmX t t=some true:=by
 have hw:ZoO (t,t,0)=some (.inl (t,t)):=by
   refine Zbi (fun i=>(t,t,(i:Int))) t.kids.length (fun i hi=>?_) ?_
   . have h1:(i:Int)<(t.kids.length:Int):=by omega
     simp only [Zfw,Zj7,Zap,if_pos h1,if_pos (Int.natCast_nonneg i),beq_self_eq_true,Bool.and_self,Bool.not_true,cond_false]
     rw [Zat (by omega) (by omega)]
     rfl
   . simp [Zfw,Zj7]
 simp only [ZmX,ZgC,Zur _ hb,Zgv,ZuI _ hh,bne_self_eq_false,Bool.not_true,cond_false,hw,beq_self_eq_true,Bool.and_self,cond_true]
theorem ZBb (t:Tape) (h:t.l.length<=4294967296):ZmS t t=some true:=by
 have hw:ZoM (t,t,0)=some (.inl ()):=by
   refine Zbi (fun i=>(t,t,(i:Int))) t.l.length (fun i hi=>?_) ?_
   . have h1:(i:Int)<(t.l.length:Int):=by omega
     simp only [Zfv,ZjJ,Zap,if_pos h1,if_pos (Int.natCast_nonneg i),bne_self_eq_false,cond_false]
     rw [Zat (by omega) (by omega)]
     rfl
   . simp [Zfv,ZjJ]
 simp only [ZmS,bne_self_eq_false,cond_false,hw]
theorem Zzx (l:List Mark) (h:l.length<=4294967296):Zk9 l l=some true:=by
 have hw:ZnN (l,l,0)=some (.inl ()):=by
   refine Zbi (fun i=>(l,l,(i:Int))) l.length (fun i hi=>?_) ?_
   . have h1:(i:Int)<(l.length:Int):=by omega
     simp only [Ze4,ZiE,Zap,if_pos h1,if_pos (Int.natCast_nonneg i),beq_self_eq_true,Bool.and_self,Bool.not_true,cond_false]
     rw [Zat (by omega) (by omega)]
     rfl
   . simp [Ze4,ZiE]
 simp only [Zk9,bne_self_eq_false,cond_false,hw]
structure WSm (w:Wld):Prop where
  boxes:w.m.boxes.length<=4294967296
  box:∀ b∈w.m.boxes,b.length<=4294967296
  t:w.t.length<=4294967296
  batch:∀ t∈w.t,t.batch.length<=4294967296
  kids:∀ t∈w.t,t.kids.length<=4294967296
  log:w.log.length<=4294967296
  hist:w.hist.length<=4294967296
theorem Zq2 {w:Wld} (h:WSm w):ZjF w=some w:=by
 have h3:∀ z:Wld,Zmp (w,z,{ w with t:=[],hist:=[] },0)=some (w,z,{ w with hist:=[] }):=by
   intro z
   refine Zbi (fun i=>(w,z,{ w with t:=w.t.take i,hist:=[] },(i:Int))) w.t.length (fun i hi=>?_) ?_
   . have h1:(i:Int)<(w.t.length:Int):=by omega
     have ht:=h.t
     have h2:fewB (i+1)=true:=ZaX (by omega)
     have h3:min i w.t.length=i:=by omega
     have hm:w.t.getD i Zaw∈w.t:=by
       rw [List.getD_eq_getElem?_getD,List.getElem?_eq_getElem hi,Option.getD_some]
       exact List.getElem_mem hi
     simp only [Zem,Zie,Zld,Zap,if_pos h1,if_pos (Int.natCast_nonneg i),List.length_take,List.length_cons,List.length_nil,h3,Int.toNat_natCast,Zxg _ (h.kids _ hm) (h.batch _ hm),h2,cond_true]
     rw [ZcO w.t _ i hi,Zat (by omega) (by omega)]
     rfl
   . simp [Zem,Zie]
 have h7:∀ z:Wld,ZlV (w,z,{ w with hist:=[] },0)=some (z,w):=by
   intro z
   refine Zbi (fun i=>(w,z,{ w with hist:=w.hist.take i },(i:Int))) w.hist.length (fun i hi=>?_) ?_
   . have h1:(i:Int)<(w.hist.length:Int):=by omega
     have ht:=h.hist
     have h2:fewB (i+1)=true:=ZaX (by omega)
     have h3:min i w.hist.length=i:=by omega
     simp only [Zer,Zh7,Zap,if_pos h1,if_pos (Int.natCast_nonneg i),List.length_take,List.length_cons,List.length_nil,h3,Int.toNat_natCast,h2,cond_true]
     rw [ZcO w.hist _ i hi,Zat (by omega) (by omega)]
     rfl
   . simp [Zer,Zh7]
 simp only [ZjF,Zj9,Zv4 _ h.boxes h.box,ZkJ,Zxk _ h.log]
 have:=h3 (Wld.mk (Config.mk (0:Int) (0:Int) (0:Int) (0:Int) (0:Int) (0:Int) (0:Int) (0:Int) false (0:Int) (0:Int) (0:Int)) (Memo.mk ([]:List Int) ([]:List (List Entry))) ([]:List Thread) (0:Int) (0:Int) (Tape.mk ([]:List Int) (0:Int)) ([]:List Mark) ([]:List Event))
 obtain ⟨c,m,t,now,steps,tape,log,hist⟩:=w
 simp only at this h7 ⊢
 rw [this]
 simp only
 rw [h7]
theorem ZxI (l:List SEntry) (h:l.length<=4294967296):Zlf l=some l:=by
 have hw:ZnB (l,[],0)=some l:=by
   refine Zbi (fun i=>(l,l.take i,(i:Int))) l.length (fun i hi=>?_) ?_
   . have h1:(i:Int)<(l.length:Int):=by omega
     have h2:fewB (i+1)=true:=ZaX (by omega)
     have h3:min i l.length=i:=by omega
     simp only [ZeY,Zis,Zap,if_pos h1,if_pos (Int.natCast_nonneg i),List.length_take,List.length_cons,List.length_nil,h3,h2,cond_true,Int.toNat_natCast]
     rw [ZcO l _ i hi,Zat (by omega) (by omega)]
     rfl
   . simp [ZeY,Zis]
 simp only [Zlf,hw]
theorem Zxt (l:List Event) (h:l.length<=4294967296):Zj3 l l=some true:=by
 have hw:Zl3 (l,l,0)=some (.inl ()):=by
   refine Zbi (fun i=>(l,l,(i:Int))) l.length (fun i hi=>?_) ?_
   . have h1:(i:Int)<(l.length:Int):=by omega
     simp only [Zeq,Zid,Zap,if_pos h1,if_pos (Int.natCast_nonneg i),beq_self_eq_true,Bool.and_self,Bool.not_true,cond_false]
     rw [Zat (by omega) (by omega)]
     rfl
   . simp [Zeq,Zid]
 simp only [Zj3,bne_self_eq_false,cond_false,hw]
structure WBig (w:Wld):Prop extends WSm w where
  words:w.m.words.length<=4294967296
  held:∀ t∈w.t,t.held.length<=4294967296
  tape:w.tape.l.length<=4294967296
theorem Ztb {w:Wld} (h:WBig w):ZmB w w=some true:=by
 have ht:=h.t
 have hw:ZoZ (w,w,0)=some (.inl ()):=by
   refine Zbi (fun i=>(w,w,(i:Int))) w.t.length (fun i hi=>?_) ?_
   . have h1:(i:Int)<(w.t.length:Int):=by omega
     have hm:w.t.getD i Zaw∈w.t:=by
       rw [List.getD_eq_getElem?_getD,List.getElem?_eq_getElem hi,Option.getD_some]
       exact List.getElem_mem hi
     simp only [Zfq,Zjz,ZiL,Zap,if_pos h1,if_pos (Int.natCast_nonneg i),Int.toNat_natCast,ZxD _ (h.kids _ hm) (h.batch _ hm) (h.held _ hm),Bool.not_true,cond_false]
     rw [Zat (by omega) (by omega)]
     rfl
   . simp [Zfq,Zjz]
 unfold ZmB
 simp only [beq_self_eq_true,Bool.and_self,Bool.not_true,cond_false,bne_self_eq_false,Zix,ZBV _ h.words h.boxes h.box,ZiV,ZBb _ h.tape,ZhU,Zzx _ h.log,Zki,Zxt _ h.hist,hw]
end Go.Proofs.Mill
namespace Go.Proofs.Mill
def Zrj (w:Wld) (e:SEntry):Int:=if e.kind=1/\(w.t.getD e.t.toNat Zaw).phase≠0 then 170 else 0
def Zrs (w:Wld) (e:SEntry):Wld×Int:=if Zby w.c e≠0 then (w,Zby w.c e) else (Zb5 w e,Zrj w e)
section
variable {c:Config} {w:Wld} {n:Nat} {ro pa rt:Int->Int} {co:Int->Option Int} {t:Int}
end
def ZFS (h:Thread):Prop:=h.batch.length<=1000000/\h.kids.length<=1000000/\h.held.length<=4294967295
theorem Zjq (g:Thread):(ZbA g).batch=g.batch/\(ZbA g).kids=g.kids/\(ZbA g).held=g.held:=by
 unfold ZbA
 split <;> exact ⟨rfl,rfl,rfl⟩
theorem Tr.done_lists {c:Config} {t:Int} {v v':Vw} {h:Thread} {log:List Mark} (T:Tr c t v h v' log true):(v'.th t).batch=h.batch/\(v'.th t).kids=h.kids/\(v'.th t).held=h.held:=by
 generalize hd:true=d at T
 cases T with
 | same p e=>rw [Zbl];exact Zjq _
 | cas p e=>rw [Zbl];exact Zjq _
 | res p=>rw [Zbl];exact Zjq _
 | tell2 p a w=>rw [Zbl];exact Zjq _
 | _=>cases hd
def Shorts (w:Wld):Prop:=∀ h∈w.t,ZFS h
theorem Zrg {α:Type} {l:List α} {i:Nat} {x y:α} (h:y∈l.set i x):y=x\/y∈l:=by
 rcases List.mem_or_eq_of_mem_set h with h | h
 . exact .inr h
 . exact .inl h
section
variable {c:Config} {w:Wld} {n:Nat} {ro pa rt:Int->Int} {co:Int->Option Int} {t:Int}
theorem Shorts.entry (S:Shorts w) (W:WInv c w n ro pa rt co) (hC:CfgOK c) (hlo:Num c.lo) (hhi:Num c.hi) (hn:n<=190000) {e:SEntry} (he:Zby c e=0):Shorts (Zb5 w e):=by
 unfold Zb5
 rcases Zo9 he with ⟨k,ht,hi,ho⟩ | ⟨k,ht⟩ | k
 . rw [if_pos k]
   unfold invT
   split
   . exact S
   . intro h hh
     rcases Zrg hh with rfl | hh
     . exact ⟨by show ([_]:List Entry).length<=_;simp,by show ([]:List Kid).length<=_;simp,by show ([]:List Int).length<=_;simp⟩
     . exact S h hh
 . rw [if_neg (by omega),if_pos k]
   split
   . exact S
   . rename_i hp
     obtain ⟨_,ro',pa',rt',co1,W',_,T⟩:=W.pick hC hlo hhi (by omega) ht hp
     intro h hh
     have hth:((vw c (Zcg w e.t (ZaG (Za7 w e.t))).m (Zcg w e.t (ZaG (Za7 w e.t))).t).th e.t)=(ZaG (Za7 w e.t)).th:=by
       have h0:=ht.1
       have h1:=ht.2
       have:=W.lenT
       rw [ZhK ht]
       have e2:(Zcg w e.t (ZaG (Za7 w e.t))).t=w.t.set e.t.toNat (ZaG (Za7 w e.t)).th:=by unfold Zcg;split <;> rfl
       rw [e2,List.getD_eq_getElem?_getD,List.getElem?_set_self (by omega)]
       rfl
     have hh:h∈(Zcg w e.t (ZaG (Za7 w e.t))).t:=hh
     have e2:(Zcg w e.t (ZaG (Za7 w e.t))).t=w.t.set e.t.toNat (ZaG (Za7 w e.t)).th:=by unfold Zcg;split <;> rfl
     rw [e2] at hh
     rcases Zrg hh with rfl | hh
     . by_cases hz:(ZaG (Za7 w e.t)).th.phase=0
       . have hd:(ZaG (Za7 w e.t)).done=true:=by
           have:=(T.idle (by rw [ZhK ht]) hp).1
           rw [hth] at this
           exact this hz
         rw [hd] at T
         obtain ⟨a,b,d⟩:=T.done_lists
         rw [hth] at a b d
         have hm:w.t.getD e.t.toNat Zaw∈w.t:=by
           have h0:=ht.1
           have h1:=ht.2
           have:=W.lenT
           rw [List.getD_eq_getElem?_getD,List.getElem?_eq_getElem (by omega),Option.getD_some]
           exact List.getElem_mem _
         obtain ⟨s1,s2,s3⟩:=S _ hm
         exact ⟨by rw [a];exact s1,by rw [b];exact s2,by rw [d];exact s3⟩
       . have hg:(Zcg w e.t (ZaG (Za7 w e.t))).t.getD e.t.toNat Zaw=(ZaG (Za7 w e.t)).th:=by rw [<- ZhK ht];exact hth
         have hf:=W'.fit hC hlo hhi ht (by rw [hg];exact hz)
         have e3:(Za7 (Zcg w e.t (ZaG (Za7 w e.t))) e.t).th=(ZaG (Za7 w e.t)).th:=hg
         have f1:=hf.g.batch
         have f2:=hf.g.kids
         have f3:=hf.held
         rw [e3] at f1 f2 f3
         exact ⟨f1,f2,f3⟩
     . exact S h hh
 . rw [if_neg (by omega),if_neg (by omega),if_pos k]
   exact S
theorem Shorts.entries (hC:CfgOK c) (hlo:Num c.lo) (hhi:Num c.hi):∀ {l:List SEntry} {w:Wld} {n:Nat} {ro pa rt:Int->Int} {co:Int->Option Int},Shorts w->WInv c w n ro pa rt co->n+l.length<=190000->(∀ e∈l,Zby c e=0/\Num e.op.v)->Shorts (l.foldl Zb5 w)
 | [],w,n,ro,pa,rt,co,S,_,_,_=>S
 | e :: l, w, n, ro, pa, rt, co, S, W, hn, he => by
   rw [List.length_cons] at hn
   obtain ⟨_,ro',pa',rt',co',b⟩:=W.entry hC hlo hhi (by omega) (he e (List.mem_cons_self ..)).1 (he e (List.mem_cons_self ..)).2
   show Shorts (l.foldl Zb5 (Zb5 w e))
   exact Shorts.entries hC hlo hhi (S.entry W hC hlo hhi (by omega) (he e (List.mem_cons_self ..)).1) b (by omega) (fun x hx=>he x (List.mem_cons_of_mem _ hx))
theorem Zxf (d:List Int):Shorts (newW c d):=by
 intro h hh
 have hh:h∈List.replicate c.threads.toNat newT:=hh
 rw [(List.mem_replicate.1 hh).2]
 exact ⟨by show ([]:List Entry).length<=_;simp,by show ([]:List Kid).length<=_;simp,by show ([]:List Int).length<=_;simp⟩
theorem WInv.big (W:WInv c w n ro pa rt co) (S:Shorts w) (hC:CfgOK c) (hn:n<=190000):WBig w:=by
 have hlT:=W.lenT
 have hlB:=W.lenB
 have hlW:=W.lenW
 have hT:=hC.threads
 have hs:=Zhv hC
 have hl:=W.log
 have hh:=W.hist
 refine ⟨⟨by omega,fun b hb=>?_,by omega,fun h hm=>by have:=(S h hm).1;omega,fun h hm=>by have:=(S h hm).2.1;omega,by omega,by omega⟩,by omega,fun h hm=>by have:=(S h hm).2.2;omega,W.tape.2⟩
 obtain ⟨i,hi',rfl⟩:=List.mem_iff_getElem.1 hb
 have hin:InT c (i:Int):=⟨by omega,by omega⟩
 have:=(W.inv.loc i hin).boxl
 rw [rd_X hin,Int.toNat_natCast,List.getD_eq_getElem?_getD,List.getElem?_eq_getElem hi'] at this
 have this:(w.m.boxes[i]).length<=16:=this
 omega
end
end Go.Proofs.Mill
namespace Go.Proofs.Mill
def ZAF (c:Config):Prop:=Num c.init/\Num c.lo/\Num c.hi
theorem ZDZ {c:Config} (o:(Zaq celConfig).Ok c):ZAF c:=by
 have h1:∀ x:Int,AV.int .i64 x∈celConfig.enc c->Num x:=fun x hx=>Zz0 (o _ hx)
 refine ⟨h1 _ ?_,h1 _ ?_,h1 _ ?_⟩ <;> simp [celConfig,Zbc,Zae,Zao,celBool]
theorem ZEI:ZfV ()=some true:=rfl
theorem ZFb (l:List SEntry) (d:List Int):Zl1 (l,d)=some (decide (400<l.length\/200<d.length)):=by
 show Zmg l d=_
 unfold Zmg
 rw [Zap]
 by_cases h:400<l.length
 . rw [if_pos (by omega),decide_eq_true (.inl h)]
 . rw [if_neg (by omega)]
   congr 1
   exact decide_eq_decide.2 ⟨fun x=>.inr (by omega),fun x=>by omega⟩
theorem ZrK (c:Config) (e:SEntry):ZhW (c,e)=some (Zby c e):=by
 show Zk4 c e=_
 unfold Zk4 Zby
 simp only [Zap,Zkk,ZvY]
 by_cases h1:e.kind<1
 . rw [if_pos h1,if_pos (.inl h1)]
 rw [if_neg h1]
 by_cases h2:e.kind>3
 . rw [if_pos h2,if_pos (.inr h2)]
 rw [if_neg h2,if_neg (show ¬(e.kind<1\/e.kind>3) by omega)]
 by_cases h3:e.kind=3
 . rw [ZaT h3,if_pos h3];rfl
 rw [ZaC h3,if_neg h3,cond_false]
 by_cases h4:e.t<0
 . rw [if_pos h4,if_pos (.inl h4)]
 rw [if_neg h4]
 by_cases h5:e.t>=c.threads
 . rw [if_pos h5,if_pos (.inr h5)]
 rw [if_neg h5,if_neg (show ¬(e.t<0\/e.t>=c.threads) by omega)]
 by_cases h6:e.kind=2
 . rw [ZaT h6,if_pos h6];rfl
 rw [ZaC h6,if_neg h6,cond_false]
 by_cases h7:e.item<0
 . rw [if_pos h7,if_pos (.inl h7)]
 rw [if_neg h7]
 by_cases h8:e.item>=c.items
 . rw [if_pos h8,if_pos (.inr h8)]
 rw [if_neg h8,if_neg (show ¬(e.item<0\/e.item>=c.items) by omega)]
 cases ZfJ e.op c.bounded <;> rfl
def count (l:List Event) (k:Int):Int:=((l.filter fun e=>e.kind == k).length:Int)
theorem Zxc {α:Type} (p:α->Bool) (l:List α) (d:α) (i:Nat) (h:i<l.length):(l.take (i+1)).filter p=if p (l.getD i d)=true then (l.take i).filter p++[l.getD i d] else (l.take i).filter p:=by
 rw [<- ZcO l d i h,List.filter_append]
 by_cases hp:p (l.getD i d)=true
 . rw [if_pos hp,List.filter_cons_of_pos hp,List.filter_nil]
 . rw [if_neg hp,List.filter_cons_of_neg hp,List.filter_nil,List.append_nil]
def Zc3:Nat->(Nat->Nat)->Nat
 | 0,_=>0
 | n+1,g=>Zc3 n g+g n
theorem ZqZ:∀ (n:Nat) (f g:Nat->Nat),Zc3 n (fun j=>f j+g j)=Zc3 n f+Zc3 n g
 | 0,_,_=>rfl
 | n + 1, f, g => by
   show Zc3 n _+(f n+g n)=Zc3 n f+f n+(Zc3 n g+g n)
   rw [ZqZ n f g];omega
theorem ZnV:∀ (n:Nat) {f g:Nat->Nat},(∀ j,j<n->f j=g j)->Zc3 n f=Zc3 n g
 | 0,_,_,_=>rfl
 | n + 1, f, g, h => by
   show Zc3 n f+f n=Zc3 n g+g n
   rw [ZnV n (fun j hj=>h j (by omega)),h n (by omega)]
theorem Zvw:∀ (n:Nat) {f g:Nat->Nat},(∀ j,j<n->f j<=g j)->Zc3 n f<=Zc3 n g
 | 0,_,_,_=>Nat.le_refl _
 | n + 1, f, g, h => by
   have:=Zvw n (f:=f) (g:=g) (fun j hj=>h j (by omega))
   have:=h n (by omega)
   show Zc3 n f+f n<=Zc3 n g+g n
   omega
theorem Zpn:∀ n,Zc3 n (fun _=>0)=0
 | 0=>rfl
 | n+1=>by show Zc3 n _+0=0;rw [Zpn n]
theorem ZuR {k:Nat}:∀ n,k<n->Zc3 n (fun j=>if k=j then 1 else 0)=1
 | 0,h=>by omega
 | n + 1, h => by
   show Zc3 n _+(if k=n then 1 else 0)=1
   by_cases e:k=n
   . rw [if_pos e,ZnV n (g:=fun _=>0) (fun j hj=>if_neg (by omega)),Zpn]
   . rw [if_neg e,ZuR n (by omega)]
theorem Zjl {α:Type} {f:α->Int} {T:Nat}:∀ l:List α,(∀ x∈l,0<=f x/\f x<(T:Int))->l.length=Zc3 T (fun j=>(l.filter fun x=>f x == (j:Int)).length)
 | [],_=>(Zpn T).symm
 | a :: l, h => by
   have ih:=Zjl l (fun x hx=>h x (List.mem_cons_of_mem _ hx))
   have ha:=h a (List.mem_cons_self ..)
   have e:Zc3 T (fun j=>((a::l).filter fun x=>f x == (j:Int)).length)=Zc3 T (fun j=>(if (f a).toNat=j then 1 else 0)+(l.filter fun x=>f x == (j:Int)).length):=by
     refine ZnV T fun j hj=>?_
     rw [List.filter_cons]
     by_cases g:f a=(j:Int)
     . rw [if_pos (by simp [g]),if_pos (by omega),List.length_cons];omega
     . rw [if_neg (by simp [g]),if_neg (by omega)];omega
   rw [e,ZqZ,ZuR T (by omega),<- ih,List.length_cons]
   omega
theorem ZsS {l:List Thread}:∀ n,n<=l.length->Zd8 (l.take n)=Zc3 n (fun j=>if (l.getD j Zaw).phase≠0 then 1 else 0)
 | 0,_=>by rw [List.take_zero];rfl
 | n + 1, h => by
   unfold Zd8
   rw [Zxc (fun t:Thread=>t.phase != 0) l Zaw n (by omega)]
   show _=Zc3 n _+(if (l.getD n Zaw).phase≠0 then 1 else 0)
   rw [<- ZsS n (by omega)]
   unfold Zd8
   by_cases g:(l.getD n Zaw).phase=0
   . rw [if_neg (show ¬((l.getD n Zaw).phase != 0)=true by rw [ZdP g];decide),if_neg (fun x=>x g)];rfl
   . rw [if_pos (show ((l.getD n Zaw).phase != 0)=true from Zdj g),if_pos g,List.length_append,List.length_singleton]
theorem Zty {lo hi j:Int} {own:List Mark}:∀ {l:List Event} {s s':Nat×Bool×Event},ansL lo hi j own s l=some s'->(∀ e∈l,e.kind=1\/e.kind=2\/e.kind=3) ->
   s'.1=s.1+(((l.filter fun e=>e.kind == 2)).filter fun e=>e.t == j).length /\
   s'.1+(if s'.2.1=true then 1 else 0)=s.1+(if s.2.1=true then 1 else 0)+(((l.filter fun e=>e.kind == 1)).filter fun e=>e.t == j).length
 | [],s,s',h,_=>by cases h;exact ⟨rfl,rfl⟩
 | e :: l, s, s', h, hk => by
   have h:(match ansE lo hi j own s e with | some s=>ansL lo hi j own s l | none=>none)=some s':=h
   have hke:=hk e (List.mem_cons_self ..)
   cases h1:ansE lo hi j own s e with
   | none=>rw [h1] at h;cases h
   | some v =>
     rw [h1] at h
     obtain ⟨i1,i2⟩:=Zty h (fun x hx=>hk x (List.mem_cons_of_mem _ hx))
     rw [i1]
     rw [i1] at i2
     have key:∀ k:Int,(((e::l).filter fun e=>e.kind == k).filter fun e=>e.t == j).length=(if e.kind=k/\e.t=j then 1 else 0)+((l.filter fun e=>e.kind == k).filter fun e=>e.t == j).length:=by
       intro k
       rw [List.filter_cons]
       by_cases g:e.kind=k
       . rw [if_pos (by simp [g]),List.filter_cons]
         by_cases g2:e.t=j
         . rw [if_pos (by simp [g2]),if_pos ⟨g,g2⟩,List.length_cons];omega
         . rw [if_neg (by simp [g2]),if_neg (fun x=>g2 x.2)];omega
       . rw [if_neg (by simp [g]),if_neg (fun x=>g x.1)];omega
     rw [key 1,key 2]
     unfold ansE at h1
     by_cases g:e.t≠j\/e.kind=3
     . rw [if_pos g] at h1
       obtain rfl:=Option.some.inj h1
       rw [if_neg (show ¬(e.kind=2/\e.t=j) from fun x=>g.elim (fun y=>y x.2) (fun y=>by omega)),if_neg (show ¬(e.kind=1/\e.t=j) from fun x=>g.elim (fun y=>y x.2) (fun y=>by omega))]
       omega
     . rw [if_neg g] at h1
       have ht:e.t=j:=Classical.not_not.1 (fun x=>g (.inl x))
       have h3:e.kind≠3:=fun x=>g (.inr x)
       by_cases k:e.kind=1
       . rw [if_pos k] at h1
         split at h1
         . cases h1
         . rename_i so
           obtain rfl:=Option.some.inj h1
           rw [if_neg (show ¬(e.kind=2/\e.t=j) by omega),if_pos (show e.kind=1/\e.t=j from ⟨k,ht⟩),if_neg so]
           rw [if_pos (show ((s.1,true,e):Nat×Bool×Event).2.1=true from rfl)] at i2
           have e0:((s.1,true,e):Nat×Bool×Event).1=s.1:=rfl
           rw [e0] at i2 ⊢
           omega
       . rw [if_neg k] at h1
         split at h1
         . rename_i f
           obtain rfl:=Option.some.inj h1
           rw [if_pos (show e.kind=2/\e.t=j from ⟨by omega,ht⟩),if_neg (show ¬(e.kind=1/\e.t=j) from fun x=>k x.1),if_pos f.1]
           rw [if_neg (show ¬((s.1+1,false,s.2.2):Nat×Bool×Event).2.1=true from fun x=>by cases x)] at i2
           have e0:((s.1+1,false,s.2.2):Nat×Bool×Event).1=s.1+1:=rfl
           rw [e0] at i2 ⊢
           omega
         . cases h1
section
variable {c:Config} {w:Wld} {n:Nat} {ro pa rt:Int->Int} {co:Int->Option Int}
theorem Lin.counts (Li:Lin c w ro co) (W:WInv c w n ro pa rt co) (hC:CfgOK c):count w.hist 1=count w.hist 2+(Zd8 w.t:Int)/\w.log.length<=(w.hist.filter fun e=>e.kind == 1).length:=by
 have hT:=hC.threads
 have hlT:=W.lenT
 have hk:∀ e∈w.hist,e.kind=1\/e.kind=2\/e.kind=3:=fun e he=>(Li.ehist e he).2.1
 have hin:∀ (k:Int),∀ e∈(w.hist.filter fun e=>e.kind == k),0<=e.t/\e.t<((c.threads.toNat:Nat):Int):=by
   intro k e he
   have:=(Li.ehist e (List.mem_filter.1 he).1).1
   unfold InT at this
   omega
 have s1:=Zjl (f:=fun e:Event=>e.t) (T:=c.threads.toNat) (w.hist.filter fun e=>e.kind == 1) (hin 1)
 have s2:=Zjl (f:=fun e:Event=>e.t) (T:=c.threads.toNat) (w.hist.filter fun e=>e.kind == 2) (hin 2)
 have s3:=Zjl (f:=fun m:Mark=>m.t) (T:=c.threads.toNat) w.log (fun m hm=>by
   have:=(Li.inlog m hm).1
   unfold InT at this
   omega)
 have s4:=ZsS (l:=w.t) w.t.length (Nat.le_refl _)
 rw [List.take_length] at s4
 have hTn:w.t.length=c.threads.toNat:=by omega
 rw [hTn] at s4
 have per:∀ j:Nat,j<c.threads.toNat->((w.hist.filter fun e=>e.kind == 1).filter fun x=>x.t == (j:Int)).length=((w.hist.filter fun e=>e.kind == 2).filter fun x=>x.t == (j:Int)).length+(if (w.t.getD j Zaw).phase≠0 then 1 else 0)/\(Zch j w.log).length<=((w.hist.filter fun e=>e.kind == 1).filter fun x=>x.t == (j:Int)).length:=by
   intro j hj
   have hjn:InT c (j:Int):=⟨by omega,by omega⟩
   obtain ⟨k,op,last,a,b,d,f,g⟩:=(Li.ans j hjn).ex
   obtain ⟨c1,c2⟩:=Zty a hk
   have hph:(vw c w.m w.t).th j=w.t.getD j Zaw:=by rw [ZhK hjn];rfl
   have hb:=W.inv.busy hjn
   rw [hph] at hb
   have c1:k=0+((w.hist.filter fun e=>e.kind == 2).filter fun x=>x.t == (j:Int)).length:=c1
   have c2:k+(if op=true then 1 else 0)=0+0+((w.hist.filter fun e=>e.kind == 1).filter fun x=>x.t == (j:Int)).length:=c2
   have hle:(Zch j w.log).length<=k+(if op=true then 1 else 0):=by
     cases hco:co j with
     | none=>rw [f hco];omega
     | some x =>
       have hr:ro j≠0:=by
         intro h0
         have:=(W.inv.core.k0 j h0).1
         rw [hco] at this;cases this
       rw [(g x hco).1,if_pos (b.2 hr)]
       exact Nat.le_refl _
   refine ⟨?_,by omega⟩
   cases ho:op with
   | true =>
     have hr:=b.1 ho
     rw [ho,if_pos rfl] at c2
     rw [if_pos (fun x=>hr (hb.2 x))]
     omega
   | false =>
     have hr:¬ro j≠0:=fun x=>by have:=b.2 x;rw [ho] at this;cases this
     rw [ho,if_neg (by decide)] at c2
     rw [if_neg (fun x=>hr (fun y=>x (hb.1 y)))]
     omega
 constructor
 . have e:=ZnV c.threads.toNat (fun j hj=>(per j hj).1)
   rw [ZqZ] at e
   unfold count
   rw [s1,s2,s4,e]
   omega
 . rw [s3,s1]
   exact Zvw _ fun j hj=>(per j hj).2
end
section
variable {c:Config} {w:Wld} {n:Nat} {ro pa rt:Int->Int} {co:Int->Option Int}
theorem Lin.few (Li:Lin c w ro co) (W:WInv c w n ro pa rt co) (hC:CfgOK c):w.log.length<=w.hist.length :=
 Nat.le_trans (Li.counts W hC).2 (List.length_filter_le _ _)
end
theorem Zrl {α:Type} {l:List α} {j:Nat} (d:α) (h:j<l.length):l.drop j=l.getD j d::l.drop (j+1):=by
 rw [List.drop_eq_getElem_cons h,List.getD_eq_getElem?_getD,List.getElem?_eq_getElem h,Option.getD_some]
theorem ZCT {c:Config} {l:List SEntry} {d:List Int} (hc:Num c.init/\Num c.lo/\Num c.hi) (hl:∀ e∈l,Num e.op.v) (hd:d.length<=4294967296) (hn:l.length<=2000) :
   (ZhG (c,l,d)=some (Zkp,allE c l)/\(allE c l).2≠0) \/
   (∃ w,w=l.foldl Zb5 (newW c d)/\ZhG (c,l,d)=some (w,0,0)/\allE c l=(0,0)/\CfgOK c/\(∀ e∈l,Zby c e=0)/\Shorts w/\WBig w/\∃ ro pa rt co,WInv c w l.length ro pa rt co/\Lin c w ro co):=by
 rcases ZD6 (c:=c) (l:=l) (d:=d) hc hl hd with ⟨r1,r2⟩ | ⟨r1,r2,hC,r3,r4,ro,pa,rt,co,W,Li⟩
 . exact .inl ⟨r1,r2⟩
 . have S:=Shorts.entries hC hc.2.1 hc.2.2 (l:=l) (Zxf (c:=c) d) (Zr8 hC hc.1 hd) (by omega) (fun e he=>⟨r4 e he,hl e he⟩)
   exact .inr ⟨_,rfl,r1,r2,hC,r4,S,W.big S hC (by omega),ro,pa,rt,co,W,Li⟩
end Go.Proofs.Mill
namespace Go.Proofs.Mill
section
variable (x:Int) (u:Turn)
end
def Evers (w:Wld):Prop:=w.c.wait=0/\∀ h∈w.t,h.until_<=0
theorem ZCu {w:Wld} (h:Evers w) (t:Int):(w.t.getD t.toNat Zaw).until_<=0:=by
 rw [List.getD_eq_getElem?_getD]
 by_cases hk:t.toNat<w.t.length
 . rw [List.getElem?_eq_getElem hk]
   exact h.2 _ (List.getElem_mem hk)
 . rw [List.getElem?_eq_none (by omega)]
   exact (show (0:Int)<=0 by omega)
theorem Evers.step {w:Wld} (h:Evers w) (e:SEntry):Evers (Zb5 w e):=by
 unfold Zb5
 split
 . unfold invT
   split
   . exact h
   . refine ⟨h.1,fun y hy=>?_⟩
     rcases Zrg hy with rfl | hy
     . show (if w.c.wait>0 then _ else (0:Int))<=0
       rw [if_neg (by rw [h.1];decide)]
       exact Int.le_refl 0
     . exact h.2 y hy
 split
 . split
   . exact h
   . have hk:(ZaG (Za7 w e.t)).th.until_=(w.t.getD e.t.toNat Zaw).until_:=ZzV (Zk3 (Za7 w e.t))
     have e1:(Zcg w e.t (ZaG (Za7 w e.t))).c=w.c:=by unfold Zcg;split <;> rfl
     have e2:(Zcg w e.t (ZaG (Za7 w e.t))).t=w.t.set e.t.toNat (ZaG (Za7 w e.t)).th:=by unfold Zcg;split <;> rfl
     refine ⟨by rw [e1];exact h.1,fun y hy=>?_⟩
     rw [e2] at hy
     rcases Zrg hy with rfl | hy
     . rw [hk];exact ZCu h e.t
     . exact h.2 y hy
 split
 . exact h
 . exact h
end Go.Proofs.Mill
namespace Go.Proofs.Mill
theorem Zok {t:Int} (h0 : -1<=t) (h1:t<=1000):ZkT t=some (8*(t+1)+1):=by
 simp only [ZkT]
 rw [Zat (n:=t+1) (by omega) (by omega),Zat (n:=8*(t+1)) (by omega) (by omega),Zat (by omega) (by omega)]
theorem Zqv {t:Int} (h0 : -1<=t) (h1:t<=1000):ZjC t=some (8*(t+1)+2):=by
 simp only [ZjC]
 rw [Zat (n:=t+1) (by omega) (by omega),Zat (n:=8*(t+1)) (by omega) (by omega),Zat (by omega) (by omega)]
theorem ZnI {t:Int} (h0 : -1<=t) (h1:t<=1000):Zhn t=some (8*(t+1)+3):=by
 simp only [Zhn]
 rw [Zat (n:=t+1) (by omega) (by omega),Zat (n:=8*(t+1)) (by omega) (by omega),Zat (by omega) (by omega)]
theorem Zo7 {i l:Int} (h0:0<=i) (h1:i<=1000) (h2:0<=l) (h3:l<=1000):Zm5 i l=some (8*(16*i+l+1)+4):=by
 simp only [Zm5]
 rw [Zat (n:=16*i) (by omega) (by omega),Zat (n:=16*i+l) (by omega) (by omega),Zat (n:=16*i+l+1) (by omega) (by omega),Zat (n:=8*(16*i+l+1)) (by omega) (by omega),Zat (by omega) (by omega)]
theorem Zo5 (w:Int):ZmK w=some (Zcd w):=by
 unfold ZmK Zcd
 by_cases e0:w=0
 . subst e0;rfl
 have e0':(w == 0)=false:=by simpa using e0
 rw [e0',cond_false,if_neg e0]
 simp only [ZeD,Znh]
 by_cases e5:w=5
 . subst e5;rfl
 have e5':(w == 5)=false:=by simpa using e5
 rw [e5',cond_false,if_neg e5]
 have l1:∀ k:Nat,k<=16->ZgX (w,16-(k:Int))=some (if 1<=w % 8/\w % 8<=3/\16-(k:Int)<=w / 8-1/\w / 8-1<16 then .inr (w % 8) else .inl w):=by
   intro k
   induction k with
   | zero =>
     intro _
     unfold ZgX
     rw [ZbJ]
     simp only [ZfF,Zj6,Zap]
     rw [if_neg (by omega),if_neg (by omega)]
   | succ k ih =>
     intro hk
     have ih:=ih (by omega)
     unfold ZgX at ih ⊢
     rw [ZbJ]
     simp only [ZfF,Zj6,Zap,Zdd,Zfg,Zd4]
     rw [if_pos (by omega),Zok (by omega) (by omega),Zqv (by omega) (by omega),ZnI (by omega) (by omega)]
     simp only
     by_cases a1:w=8*(16-((k+1:Nat):Int)+1)+1
     . have:(w == 8*(16-((k+1:Nat):Int)+1)+1)=true:=by simpa using a1
       rw [this,cond_true,if_pos (by omega)]
       simp only [Option.some.injEq,Sum.inr.injEq]
       omega
     have a1':(w == 8*(16-((k+1:Nat):Int)+1)+1)=false:=by simpa using a1
     rw [a1',cond_false]
     by_cases a2:w=8*(16-((k+1:Nat):Int)+1)+2
     . have:(w == 8*(16-((k+1:Nat):Int)+1)+2)=true:=by simpa using a2
       rw [this,cond_true,if_pos (by omega)]
       simp only [Option.some.injEq,Sum.inr.injEq]
       omega
     have a2':(w == 8*(16-((k+1:Nat):Int)+1)+2)=false:=by simpa using a2
     rw [a2',cond_false]
     by_cases a3:w=8*(16-((k+1:Nat):Int)+1)+3
     . have:(w == 8*(16-((k+1:Nat):Int)+1)+3)=true:=by simpa using a3
       rw [this,cond_true,if_pos (by omega)]
       simp only [Option.some.injEq,Sum.inr.injEq]
       omega
     have a3':(w == 8*(16-((k+1:Nat):Int)+1)+3)=false:=by simpa using a3
     rw [a3',cond_false,Zat (by omega) (by omega)]
     simp only
     rw [show (16-((k+1:Nat):Int)+1)=16-(k:Int) by omega,ih]
     by_cases hc:1<=w % 8/\w % 8<=3/\16-(k:Int)<=w / 8-1/\w / 8-1<16
     . rw [if_pos hc,if_pos (by omega)]
     . rw [if_neg hc,if_neg (by omega)]
 have l1:=l1 16 (by omega)
 rw [show (16-((16:Nat):Int))=0 from rfl] at l1
 rw [l1]
 by_cases e1:1<=w % 8/\w % 8<=3/\0<=w / 8-1/\w / 8-1<16
 . rw [if_pos e1,if_pos e1]
 rw [if_neg e1,if_neg e1]
 simp only
 have l2:∀ (i:Int),0<=i->i<=3->∀ k:Nat,k<=3->Zgk (w,i,4-(k:Int))=some (if w % 8=4/\(w / 8-1) / 16=i/\4-(k:Int)<=(w / 8-1) % 16/\(w / 8-1) % 16<=3 then .inr 4 else .inl (w,i)):=by
   intro i hi0 hi1 k
   induction k with
   | zero =>
     intro _
     unfold Zgk
     rw [ZbJ]
     simp only [Ze1,Zjd,Zap]
     rw [if_neg (by omega),if_neg (by omega)]
   | succ k ih =>
     intro hk
     have ih:=ih (by omega)
     unfold Zgk at ih ⊢
     rw [ZbJ]
     simp only [Ze1,Zjd,Zap,Zdv]
     rw [if_pos (by omega),Zo7 (by omega) (by omega) (by omega) (by omega)]
     simp only
     by_cases a1:w=8*(16*i+(4-((k+1:Nat):Int))+1)+4
     . have:(w == 8*(16*i+(4-((k+1:Nat):Int))+1)+4)=true:=by simpa using a1
       rw [this,cond_true,if_pos (by omega)]
     have a1':(w == 8*(16*i+(4-((k+1:Nat):Int))+1)+4)=false:=by simpa using a1
     rw [a1',cond_false,Zat (by omega) (by omega)]
     simp only
     rw [show (4-((k+1:Nat):Int)+1)=4-(k:Int) by omega,ih]
     by_cases hc:w % 8=4/\(w / 8-1) / 16=i/\4-(k:Int)<=(w / 8-1) % 16/\(w / 8-1) % 16<=3
     . rw [if_pos hc,if_pos (by omega)]
     . rw [if_neg hc,if_neg (by omega)]
 have l3:∀ k:Nat,k<=4->Zgi (w,4-(k:Int))=some (if w % 8=4/\4-(k:Int)<=(w / 8-1) / 16/\(w / 8-1) / 16<4/\1<=(w / 8-1) % 16/\(w / 8-1) % 16<=3 then .inr 4 else .inl ()):=by
   intro k
   induction k with
   | zero =>
     intro _
     unfold Zgi
     rw [ZbJ]
     simp only [ZeT,ZiU,Zap]
     rw [if_neg (by omega),if_neg (by omega)]
   | succ k ih =>
     intro hk
     have ih:=ih (by omega)
     unfold Zgi at ih ⊢
     rw [ZbJ]
     simp only [ZeT,ZiU,Zap]
     have h2:=l2 (4-((k+1:Nat):Int)) (by omega) (by omega) 3 (by omega)
     rw [show (4-((3:Nat):Int))=1 from rfl] at h2
     rw [if_pos (by omega),h2]
     by_cases hc:w % 8=4/\(w / 8-1) / 16=4-((k+1:Nat):Int)/\1<=(w / 8-1) % 16/\(w / 8-1) % 16<=3
     . rw [if_pos hc,if_pos (by omega)]
     . rw [if_neg hc]
       simp only
       rw [Zat (by omega) (by omega),show (4-((k+1:Nat):Int)+1)=4-(k:Int) by omega,ih]
       by_cases hd:w % 8=4/\4-(k:Int)<=(w / 8-1) / 16/\(w / 8-1) / 16<4/\1<=(w / 8-1) % 16/\(w / 8-1) % 16<=3
       . rw [if_pos hd,if_pos (by omega)]
       . rw [if_neg hd,if_neg (by omega)]
 have l3:=l3 4 (by omega)
 rw [show (4-((4:Nat):Int))=0 from rfl] at l3
 rw [l3]
 by_cases e4:w % 8=4/\0<=(w / 8-1) / 16/\(w / 8-1) / 16<4/\1<=(w / 8-1) % 16/\(w / 8-1) % 16<=3
 . rw [if_pos e4,if_pos e4]
 . rw [if_neg e4,if_neg e4]
theorem Ztm (u:Turn):Zni u=some (Zrp u):=by
 simp only [Zni,Zap,Zrp,ge_iff_le]
 repeat' split
 all_goals first | rfl | (exfalso;omega)
theorem ZyE (u:Turn):Zmh u=some (Zo4 u):=by simp only [Zmh,ZgL,Ztm,Zo4]
theorem Zpc (u:Turn):ZmL u=some (decide (Late u)):=by
 simp only [ZmL,Zap]
 by_cases h:u.th.until_>0
 . rw [if_pos h];simp [Late,h]
 . have:¬0<u.th.until_:=h
   rw [if_neg h];simp [Late,this]
theorem Zde {m:Memo} {a:Int} (h0:0<=a) (h1:a<(m.words.length:Int)):ZgQ m a=some (m.words.getD a.toNat 0,0):=by
 simp only [ZgQ,Zap]
 rw [if_neg (by omega),if_neg (by omega),if_pos h0,if_pos h1]
theorem Zhc {m:Memo} {a:Int} (h:a<0\/a>=(m.words.length:Int)):ZgQ m a=some (0,30):=by
 simp only [ZgQ,Zap]
 rcases h with h | h
 . rw [if_pos h]
 . by_cases h1:a<0
   . rw [if_pos h1]
   . rw [if_neg h1,if_pos h]
theorem Zcy {m:Memo} {a v:Int} (h0:0<=a) (h1:a<(m.words.length:Int)) (hl:m.words.length<=4294967296) :
   ZfR m a v=some ({ m with words:=m.words.set a.toNat v },0):=by
 simp only [ZfR,Zap,Nat.zero_add,ZaX hl,cond_true]
 rw [if_neg (by omega),if_neg (by omega),if_pos h0,if_pos h1]
theorem Zgr {m:Memo} {a o v:Int} (h0:0<=a) (h1:a<(m.words.length:Int)) (hl:m.words.length<=4294967296) :
   ZhI m a o v=some (if m.words.getD a.toNat 0=o then { m with words:=m.words.set a.toNat v } else m,decide (m.words.getD a.toNat 0=o),0):=by
 simp only [ZhI,Zbq,Zde h0 h1,bne_self_eq_false,cond_false,Zbn,Zcy h0 h1 hl]
 by_cases e:m.words.getD a.toNat 0=o
 . rw [ZdP e,cond_false,if_pos e,decide_eq_true e]
 . rw [Zdj e,cond_true,if_neg e,decide_eq_false e]
theorem ZhX {m:Memo} {a o v:Int} (h:a<0\/a>=(m.words.length:Int)):ZhI m a o v=some (m,false,30):=by
 simp only [ZhI,Zbq,Zhc h]
 rfl
theorem ZvE {n:Int} (h:1<=n) (h2:n<=15):ZjX n=some (n / 2):=by
 simp only [ZjX,Zap]
 by_cases h1:n<2
 . rw [if_pos h1];congr 1;omega
 . rw [if_neg h1,Int.tdiv_eq_ediv_of_nonneg (by omega),Zat (by omega) (by omega)]
theorem Zyo {u:Turn} (h:Fit u):Zmr u=some (Zcp u):=by
 have ht:=h.cfg.threads
 have h1:=h.t
 have hl:=h.len
 have hh:=h.held
 have f1:fewB u.th.held.length=true:=ZaX (by omega)
 have f2:fewB (u.th.held.length+1)=true:=ZaX (by omega)
 simp only [Zmr,ZdD,Zpu h.cfg,Zdd,Zok (t:=u.t) (by omega) (by omega),Zfg,Zqv (t:=u.t) (by omega) (by omega),Zbq,ZcT,ZdH,Zo5,Zen,Zpc,ZgK,ZyE,Nat.zero_add,List.length_cons,List.length_nil,f1,f2,cond_true]
 unfold Zcp
 by_cases p4:u.th.phase=4
 . rw [ZaT p4,cond_true,if_pos p4]
   by_cases hn:ZbV u=-1
   . rw [Zhc (.inl (by show ZbV u<0;omega)),if_pos hn]
     rfl
   . obtain ⟨n0,n1,_⟩:=h.node hn
     rw [Zde n0 n1,if_neg hn]
     simp only [bne_self_eq_false,cond_false]
     unfold ZhR
     by_cases k0:Zcd (ZaR u (ZbV u))=0
     . rw [ZaT k0,cond_true,if_neg (by omega),if_pos k0]
     rw [ZaC k0,cond_false]
     by_cases k1:Zcd (ZaR u (ZbV u))=1
     . rw [ZaT k1,cond_true,if_pos k1]
     rw [ZaC k1,cond_false,if_neg k1,if_neg k0]
     by_cases k3:Late u
     . rw [if_pos k3,decide_eq_true k3];rfl
     . rw [if_neg k3,decide_eq_false k3];rfl
 rw [ZaC p4,cond_false,if_neg p4]
 by_cases p5:u.th.phase=5
 . rw [ZaT p5,cond_true,if_pos p5]
   by_cases hn:ZbV u=-1
   . rw [ZhX (.inl (by show ZbV u<0;omega)),if_pos hn]
     rfl
   . obtain ⟨n0,n1,n2,n3⟩:=h.node hn
     rw [Zgr n0 n1 (by omega),if_neg hn]
     simp only [bne_self_eq_false,cond_false,Zj8,ZvE n2 n3]
     by_cases e:ZaR u (ZbV u)=0
     . rw [decide_eq_true e,Bool.not_true,cond_false,if_pos e,if_pos e]
       unfold Zd3
       by_cases hz:u.th.node / 2=0
       . rw [ZaT hz,cond_true,if_neg (by show ¬u.th.node / 2>0;omega)]
       . rw [ZaC hz,cond_false,if_pos (by show u.th.node / 2>0;omega)]
     . rw [decide_eq_false e,Bool.not_false,cond_true,if_neg e]
 rw [ZaC p5,cond_false,if_neg p5]
 by_cases p6:u.th.phase=6
 . rw [ZaT p6,cond_true,if_pos p6]
   by_cases hn:ZbV u=-1
   . rw [ZhX (.inl (by show ZbV u<0;omega)),if_pos hn]
     rfl
   . obtain ⟨n0,n1,n2,n3⟩:=h.node hn
     rw [Zgr n0 n1 (by omega),if_neg hn]
     simp only [bne_self_eq_false,cond_false]
     by_cases e:ZaR u (ZbV u)=u.th.x
     . rw [decide_eq_true e,Bool.not_true,cond_false,if_pos e,if_pos e]
       rfl
     . rw [decide_eq_false e,Bool.not_false,cond_true,if_neg e]
 rw [ZaC p6,cond_false,if_neg p6]
theorem Zzk {a b:List Entry} (h:a.length+b.length<=4294967296):Zm4 (a::b::[])=some (a++b):=by
 have h3:ZjQ (a::b::[],[],0)=some (a++b):=by
   unfold ZjQ
   rw [ZbJ]
   simp only [Zej,Zg2,Zap,List.length_cons,List.length_nil]
   rw [if_pos (by omega),if_pos (by omega),if_pos (by omega),show ((0:Int).toNat)=0 from rfl,List.getD_cons_zero,ZaX (by omega),Zat (n:=0+1) (by omega) (by omega)]
   simp only [cond_true,List.nil_append]
   rw [ZbJ]
   simp only [Zej,Zg2,Zap,List.length_cons,List.length_nil]
   rw [if_pos (by omega),if_pos (by omega),if_pos (by omega),show ((0+1:Int).toNat)=1 from rfl,List.getD_cons_succ,List.getD_cons_zero,ZaX (by omega),Zat (n:=0+1+1) (by omega) (by omega)]
   simp only [cond_true]
   rw [ZbJ]
   simp only [Zej,Zg2,Zap,List.length_cons,List.length_nil]
   rw [if_neg (by omega)]
 simp only [Zm4,h3]
theorem ZFu {w:Int} (h:Num w) (hk:Zcd w=3):Zor w=some (w / 8-1):=by
 have hb:1<=w % 8/\w % 8<=3/\0<=w / 8-1/\w / 8-1<16:=by
   unfold Zcd at hk
   split at hk
   . omega
   split at hk
   . omega
   split at hk
   . assumption
   . split at hk <;> omega
 simp only [Zor,ZdH,Zo5,hk,Zap]
 rw [if_neg (by omega),if_neg (by omega),Int.tdiv_eq_ediv_of_nonneg (by omega),Zat (n:=w / 8) (by omega) (by omega),Zat (by omega) (by omega)]
theorem ZsH {u:Turn} {who:Int} {b:List Entry} (h1:u.th.batch.length+b.length<=4294967296) (h2:u.th.kids.length+1<=4294967296):Zno u who b=some (Zrm u who b):=by
 simp only [Zno,Nat.zero_add,ZaX (show u.th.kids.length<=4294967296 by omega),List.length_cons,List.length_nil,ZaX h2,cond_true,Zmj,Zzk h1]
 rfl
theorem ZzL {u:Turn} (h:CfgOK u.c):ZlX u=some (Zbg u):=by
 simp only [ZlX,Zap,ZdD,Zpu h,Zbg]
 by_cases h1:u.th.at_<0
 . rw [if_pos h1,if_pos (.inl h1)]
 by_cases h2:u.th.at_>=(u.th.held.length:Int)
 . rw [if_neg h1,if_pos h2,if_pos (.inr h2)]
 rw [if_neg h1,if_neg h2,if_pos (by omega),if_pos (by omega),if_neg (by omega)]
theorem Zzu (u:Turn):ZmG u=some (ZnE u):=by simp only [ZmG,ZgL,Ztm,ZnE]
theorem ZeX {m:Memo} {a v:Int} (h:a<0\/a>=(m.words.length:Int)):ZfR m a v=some (m,30):=by
 simp only [ZfR,Zap]
 rcases h with h | h
 . rw [if_pos h]
 . by_cases h1:a<0
   . rw [if_pos h1]
   . rw [if_neg h1,if_pos h]
theorem Zqk {m:Memo} {a:Int} (h0:0<=a) (h1:a<(m.boxes.length:Int)) (hl:(m.boxes.getD a.toNat ([]:List Entry)).length<=4294967296) :
   ZhE m a=some (m.boxes.getD a.toNat [],0):=by
 simp only [ZhE,Zap,Nat.zero_add,ZaX hl,cond_true]
 rw [if_neg (by omega),if_neg (by omega),if_pos h0,if_pos h1]
theorem ZpV {m:Memo} {a:Int} (h:a<0\/a>=(m.boxes.length:Int)):ZhE m a=some ([],30):=by
 simp only [ZhE,Zap]
 rcases h with h | h
 . rw [if_pos h]
 . by_cases h1:a<0
   . rw [if_pos h1]
   . rw [if_neg h1,if_pos h]
theorem Zq4 {m:Memo} {a:Int} {b:List Entry} (h0:0<=a) (h1:a<(m.boxes.length:Int)) (hl:m.boxes.length<=4294967296) (hb:b.length<=4294967296) :
   Zob m a b=some ({ m with boxes:=m.boxes.set a.toNat b },0):=by
 simp only [Zob,Zap,Nat.zero_add,ZaX hl,ZaX hb,cond_true]
 rw [if_neg (by omega),if_neg (by omega),if_pos h0,if_pos h1]
theorem Zyv {u:Turn} (h:FitG u):ZmT u=some (Zca u):=by
 have ht:=h.cfg.threads
 have h1:=h.t
 have hl:=h.len
 have hb:=h.boxes
 have hbt:=h.batch
 have hkd:=h.kids
 simp only [ZmT,ZlY,ZzL h.cfg,Zdd,Zok (t:=u.t) (by omega) (by omega),Zd4,ZnI (t:=u.t) (by omega) (by omega),ZdD,Zpu h.cfg,Zbq,ZcT,Zbn,Zhw,Zhq,
   Zi1,Zzu,ZdH,Zo5,ZgF]
 unfold Zca
 by_cases p7:u.th.phase=7
 . rw [ZaT p7,cond_true,if_pos p7]
   by_cases hn:Zbg u=-1
   . rw [Zhc (.inl (by omega)),if_pos hn]
     rfl
   . obtain ⟨n0,n1⟩:=h.held hn
     rw [Zde n0 n1,if_neg hn]
     simp only [bne_self_eq_false,cond_false]
     by_cases e:ZaR u (Zbg u)=8*(u.t+1)+1
     . rw [ZaT e,if_pos e];rfl
     . rw [ZaC e,if_neg e]
       simp only [cond_false]
       by_cases k:Zcd (ZaR u (Zbg u))=3
       . rw [ZaT k,if_pos k]
         simp only [cond_true,Zoz,ZFu (h.word n0 n1) k]
       . rw [ZaC k,if_neg k];rfl
 rw [ZaC p7,cond_false,if_neg p7]
 by_cases p8:u.th.phase=8
 . rw [ZaT p8,cond_true,if_pos p8]
   by_cases hn:Zbg u=-1
   . rw [ZhX (.inl (by omega)),if_pos hn]
     rfl
   . obtain ⟨n0,n1⟩:=h.held hn
     rw [Zgr n0 n1 (by omega),if_neg hn]
     simp only [bne_self_eq_false,cond_false]
     by_cases e:ZaR u (Zbg u)=8*(u.t+1)+1
     . rw [decide_eq_true e,if_pos e,if_pos e];rfl
     . rw [decide_eq_false e,if_neg e,if_neg e];rfl
 rw [ZaC p8,cond_false,if_neg p8]
 by_cases p9:u.th.phase=9
 . rw [ZaT p9,cond_true,if_pos p9]
   by_cases hn:u.th.who<0\/u.th.who>=(u.m.boxes.length:Int)
   . rw [ZpV hn,if_pos hn]
     rfl
   . have hbl:=h.boxLen u.th.who.toNat
     rw [Zqk (by omega) (by omega) (by omega),if_neg hn]
     simp only [bne_self_eq_false,cond_false]
     rw [ZsH (by omega) (by omega)]
 rw [ZaC p9,cond_false,if_neg p9]
 by_cases p10:u.th.phase=10
 . rw [ZaT p10,cond_true,if_pos p10]
   by_cases hn:Zbg u=-1
   . rw [ZeX (.inl (by omega)),if_pos hn]
     rfl
   . obtain ⟨n0,n1⟩:=h.held hn
     rw [Zcy n0 n1 (by omega),if_neg hn]
     rfl
 rw [ZaC p10,cond_false,if_neg p10]
 by_cases p11:u.th.phase=11
 . rw [ZaT p11,cond_true,if_pos p11,Zq4 (by omega) (by omega) (by omega) (by omega)]
   rfl
 rw [ZaC p11,cond_false,if_neg p11]
 by_cases p12:u.th.phase=12
 . rw [ZaT p12,cond_true,if_pos p12]
   by_cases hn:nodeAt u.c u.th.item u.th.stop=-1
   . rw [ZeX (.inl (by omega)),if_pos hn]
     rfl
   . obtain ⟨n0,n1⟩:=h.node hn
     rw [Zcy n0 n1 (by omega),if_neg hn]
     rfl
 rw [ZaC p12,cond_false,if_neg p12]
theorem Zyu {c:Config} (h:CfgOK c) (item layer i:Int):Znf c item layer i=some (ZeW c item layer i):=by
 have h1:=Za3 h
 have h4:=Zbr c
 have h5:=h.layers
 have h6:=h.width
 have h8:=Zey h
 have h9:=ZcQ h
 simp only [Znf,Zap,Zb9,Zf7 h,Zdf,Zop h]
 unfold ZeW
 by_cases a1:item<0
 . simp [a1]
 by_cases a2:item>=c.items
 . simp [a1,a2]
 by_cases a3:layer<1
 . simp [a1,a2,a3]
 by_cases a4:layer>c.layers
 . simp [a1,a2,a3,a4]
 by_cases a5:i<0
 . simp [a1,a2,a3,a4,a5]
 by_cases a6:i>=c.width
 . simp [a1,a2,a3,a4,a5,a6]
 rw [if_neg a1,if_neg a2,if_neg a3,if_neg a4,if_neg a5,if_neg a6,if_neg (by omega)]
 have h7:=Zgx h (layer:=layer) (by omega) (by omega)
 have h3:=ZcN h (i:=item) (by omega) (by omega)
 rw [Zat (n:=item*ZaA c) (by omega) (by omega),Zat (n:=item*ZaA c+1) (by omega) (by omega),Zat (n:=item*ZaA c+1+ZaJ c) (by omega) (by omega),
   Zat (n:=layer-1) (by omega) (by omega),Zat (n:=(layer-1)*c.width) (by omega) (by omega),Zat (n:=item*ZaA c+1+ZaJ c+(layer-1)*c.width) (by omega) (by omega),Zat (by omega) (by omega)]
 congr 1;omega
theorem Zy5 (t:Tape):Zmk t=some (ZdM t):=by
 simp only [Zmk,Zap]
 unfold ZdM
 by_cases a:t.at_<0
 . rw [if_pos a,if_pos (.inl a)]
 by_cases b:t.at_>=(t.l.length:Int)
 . rw [if_neg a,if_pos b,if_pos (.inr b)]
 . rw [if_neg a,if_neg b,if_pos (by omega),if_pos (by omega),if_neg (by omega)]
theorem Zxv (t:Tape) (n:Int):ZkI t n=some (Ze0 t n):=by
 simp only [ZkI,Zap,ZmY,Zy5]
 unfold Ze0
 by_cases a:n<1
 . rw [if_pos a,if_pos a]
 rw [if_neg a,if_neg (by omega),if_neg a]
 split <;> rfl
theorem Zu4 {m:Memo} {a v:Int} (h0:0<=a) (h1:a<(m.words.length:Int)) (hl:m.words.length<=4294967296) :
   ZgE m a v=some ({ m with words:=m.words.set a.toNat v },m.words.getD a.toNat 0,0):=by
 simp only [ZgE,Zbq,Zde h0 h1,Zbn,Zcy h0 h1 hl]
theorem Zt6 {m:Memo} {a v:Int} (h:a<0\/a>=(m.words.length:Int)):ZgE m a v=some (m,0,30):=by
 simp only [ZgE,Zbq,Zhc h,Zbn,ZeX h]
theorem Zqp (u:Turn):Zjt u=some (Zc1 u):=by
 simp only [Zjt,Zen,Zpc,Zap]
 unfold Zc1
 by_cases a:u.th.layer<u.c.layers
 . rw [if_pos a]
   by_cases b:Late u
   . rw [decide_eq_true b,if_neg (fun h=>h.2 b)];rfl
   . rw [decide_eq_false b,if_pos ⟨a,b⟩];rfl
 . rw [if_neg a,if_neg (fun h=>a h.1)]
theorem ZEV {w:Int} (h:Num w):∃ y,ZmQ w=some y/\(if y>1 then y else 1)=(if w / 2>1 then w / 2 else 1):=by
 have h1:=h.2
 simp only [ZmQ,Zap]
 by_cases a:w<0
 . exact ⟨-1,by rw [if_pos a],by rw [if_neg (by omega),if_neg (by omega)]⟩
 . exact ⟨w / 2,by rw [if_neg a,Int.tdiv_eq_ediv_of_nonneg (by omega),Zat (by omega) (by omega)],rfl⟩
theorem Zt1 {u:Turn} (h:FitC u) (t so no:Int):Zig u t so no=some (ZbK u t so no):=by
 have ht:=h.g.cfg.threads
 have hi:=h.g.cfg.items
 have h2:=h.item
 have h3:=h.layer
 have hl:=h.g.len
 simp only [Zig,Zcq,ZiJ h.g.cfg,Zdv,Zo7 (i:=u.th.item) (l:=u.th.layer) (by omega) (by omega) (by omega) (by omega),ZcT]
 unfold ZbK
 by_cases hn:ZaY u.c t=-1
 . rw [ZhX (.inl (by omega)),if_pos hn]
   rfl
 . obtain ⟨n0,n1⟩:=h.line hn
   rw [Zgr n0 n1 (by omega),if_neg hn]
   simp only [bne_self_eq_false,cond_false]
   by_cases e:ZaR u (ZaY u.c t)=Zge u
   . rw [decide_eq_true e,if_pos e,if_pos e];rfl
   . rw [decide_eq_false e,if_neg e,if_neg e];rfl
theorem ZzE {u:Turn} (h:FitC u):Zgs u=some (Zbs u):=by
 have ht:=h.g.cfg.threads
 have hi:=h.g.cfg.items
 have h1:=h.g.t
 have h2:=h.item
 have h3:=h.layer
 have hl:=h.g.len
 have hb:=h.g.boxes
 have hbt:=h.g.batch
 have hkd:=h.g.kids
 obtain ⟨mn,m0,m1⟩:=h.mine
 simp only [Zgs,Zhq,ZgY,ZoS,Zcq,ZiJ h.g.cfg,Zdv,Zo7 (i:=u.th.item) (l:=u.th.layer) (by omega) (by omega) (by omega) (by omega),Zbn,
   Znm,Zq0,Zk2,Zxv,Znn,Zyu h.g.cfg,Zml,ZeH,Zt1 h,Zhw,ZgF,Zmd,ZqQ,Zbq,Zen,Zpc,
   Zmc,Zeh,Zqp]
 unfold Zbs
 by_cases p17:u.th.phase=17
 . rw [ZaT p17,cond_true,if_pos p17,Zq4 (by omega) (by omega) (by omega) (by omega)]
   rfl
 rw [ZaC p17,cond_false,if_neg p17]
 by_cases p18:u.th.phase=18
 . rw [ZaT p18,cond_true,if_pos p18,Zcy m0 m1 (by omega)]
   rfl
 rw [ZaC p18,cond_false,if_neg p18]
 by_cases p19:u.th.phase=19
 . rw [ZaT p19,cond_true,if_pos p19]
   unfold swapT
   by_cases hn:ZbM u=-1
   . rw [Zt6 (.inl (by simp only [ZbM] at hn;omega)),if_pos hn]
     rfl
   . obtain ⟨n0,n1⟩:=h.slot hn
     rw [Zu4 n0 n1 (by omega),if_neg hn,Zat (n:=u.t+1) (by omega) (by omega)]
     simp only [bne_self_eq_false,cond_false,Zap]
     by_cases a1:ZaR u (ZbM u)>=1
     . by_cases a2:ZaR u (ZbM u)<=u.c.threads
       . by_cases a3:ZaR u (ZbM u)=u.t+1
         . rw [if_pos a1,if_pos a2,ZdP a3,cond_false,if_neg (by omega)]
         . rw [if_pos a1,if_pos a2,Zdj a3,cond_true,if_pos (by omega),Zat (n:=ZaR u (ZbM u)-1) (by omega) (by omega)]
       . rw [if_pos a1,if_neg a2,if_neg (by omega)]
     . rw [if_neg a1,if_neg (by omega)]
 rw [ZaC p19,cond_false,if_neg p19]
 by_cases p20:u.th.phase=20
 . rw [ZaT p20,cond_true,if_pos p20]
 rw [ZaC p20,cond_false,if_neg p20]
 by_cases p21:u.th.phase=21
 . rw [ZaT p21,cond_true,if_pos p21]
 rw [ZaC p21,cond_false,if_neg p21]
 by_cases p22:u.th.phase=22
 . rw [ZaT p22,cond_true,if_pos p22]
   unfold Zfh
   by_cases hn:u.th.who<0\/u.th.who>=(u.m.boxes.length:Int)
   . rw [ZpV hn,if_pos hn]
     rfl
   . have hbl:=h.g.boxLen u.th.who.toNat
     rw [Zqk (by omega) (by omega) (by omega),if_neg hn]
     simp only [beq_self_eq_true,cond_true]
     rw [ZsH (by omega) (by omega)]
 rw [ZaC p22,cond_false,if_neg p22]
 by_cases p23:u.th.phase=23
 . rw [ZaT p23,cond_true,if_pos p23,Zde m0 m1]
   unfold Zjf
   simp only [bne_self_eq_false,cond_false,Zap]
   by_cases e:ZaR u (ZdF u)=Zge u
   . rw [ZdP e,cond_false,if_neg (show ¬(ZaR u (ZdF u)≠Zge u) from fun h=>h e)]
     by_cases a:u.th.left<1
     . rw [if_pos a,if_neg (by omega)]
     . rw [if_neg a]
       by_cases b:Late u
       . rw [if_pos b,if_neg (fun h=>h.2 b)]
       . rw [if_neg b,if_pos (show u.th.left>0/\¬Late u from ⟨by omega,b⟩)]
   . rw [Zdj e,cond_true,if_pos e]
 rw [ZaC p23,cond_false,if_neg p23]
 by_cases p24:u.th.phase=24
 . rw [ZaT p24,cond_true,if_pos p24,Zcy m0 m1 (by omega)]
   rfl
 rw [ZaC p24,cond_false,if_neg p24]
 by_cases p26:u.th.phase=26
 . rw [ZaT p26,cond_true,if_pos p26]
   unfold Zgu ZbK
   rw [if_neg mn]
   by_cases e:ZaR u (ZdF u)=Zge u
   . rw [if_pos e,if_pos e]
     obtain ⟨y,hy,hz⟩:=ZEV h.width
     simp only [hy,hz,beq_self_eq_true,cond_true]
     rfl
   . rw [if_neg e,if_neg e]
     rfl
 rw [ZaC p26,cond_false,if_neg p26]
def e0:Entry:=⟨0,⟨1,2⟩⟩
def e1:Entry:=⟨1,⟨1,7⟩⟩
end Go.Proofs.Mill
namespace Go.Proofs.Mill
theorem Zqr {c:Config} (h:CfgOK c) (t:Int):ZjP c t=some (Zct c t):=by
 unfold ZjP Zct
 simp only [Zap,Zb9,Zf7 h]
 by_cases h1:t<0
 . rw [if_pos h1,if_pos (.inl h1)]
 . rw [if_neg h1]
   by_cases h2:t>=c.threads
   . rw [if_pos h2,if_pos (.inr h2)]
   . rw [if_neg h2,if_neg (fun h=>h.elim h1 h2)]
     have:=Za3 h
     have:=h.threads
     rw [show c.items*ZaA c=Za0 c from rfl,Zat (n:=Za0 c) (by omega) (by omega),Zat (n:=(2:Int)*t) (by omega) (by omega),Zat (n:=Za0 c+2*t) (by omega) (by omega),Zat (by omega) (by omega)]
theorem Zna (u:Turn):ZjI u=some (Zco u):=by
 unfold ZjI Zco
 simp only [Zap]
 by_cases h1:u.th.at_>=0
 . rw [if_pos h1]
   by_cases h2:u.th.at_<(u.th.kids.length:Int)
   . rw [if_pos h2,if_neg (by omega)]
   . rw [if_neg h2,if_pos (by omega)]
 . rw [if_neg h1,if_pos (by omega)]
theorem ZoT {b:List Entry} {lo hi:Int} (hb:b.length<=4294967296):∀ (k j:Nat) (x:Int),j+k=b.length->Zln (b,x,lo,hi,(j:Int))=some (allT lo hi (b.drop j) x)
 | 0, j, x, hk => by
   rw [List.drop_of_length_le (by omega)]
   refine whileM_some.2 (.done _ _ ?_)
   show ZfX _ _ _ _ _=_
   unfold ZfX
   simp only [Zap]
   rw [if_neg (by omega)]
   rfl
 | k + 1, j, x, hk => by
   have hj:j<b.length:=by omega
   rw [Zrl Zce hj]
   have hw:Zaf IntKind.i64 ((j:Int)+1)=((j+1:Nat):Int):=by rw [Zat (by omega) (by omega)];omega
   have hs:ZhS (b,x,lo,hi,(j:Int))=some (.inl (b,(App (b.getD j Zce).op x lo hi).1,lo,hi,((j+1:Nat):Int))):=by
     show ZfX _ _ _ _ _=_
     unfold ZfX
     have a1:(j:Int)<(b.length:Int):=by omega
     have a2:(0:Int)<=(j:Int):=by omega
     simp only [Zap,a1,a2,if_true,Int.toNat_natCast,ZcH,Zhs,hw]
   exact whileM_some.2 (.more _ _ _ hs (whileM_some.1 (ZoT hb k (j+1) _ (by omega))))
theorem ZqN {b:List Entry} {lo hi x:Int} (hb:b.length<=4294967296):Zn7 b x lo hi=some (allT lo hi b x):=by
 have:=ZoT (lo:=lo) (hi:=hi) hb b.length 0 x (by omega)
 rw [List.drop_zero] at this
 unfold Zn7
 rw [show Zln (b,x,lo,hi,0)=_ from this]
theorem Zs6 {b:List Entry} {n:Int} (hb:b.length<=4294967296):ZlZ b n=some (b.take n.toNat):=by
 have hw:Zo1 (b,n,[],0)=some (b.take n.toNat):=by
   refine Zbi (fun i=>(b,n,b.take i,(i:Int))) (min n.toNat b.length) (fun i hi=>?_) ?_
   . have h1:(i:Int)<(b.length:Int):=by omega
     have h4:(i:Int)<n:=by omega
     have h2:fewB (i+1)=true:=ZaX (by omega)
     have h3:min i b.length=i:=by omega
     simp only [Zfj,ZjM,Zap,if_pos h1,if_pos h4,if_pos (Int.natCast_nonneg i),List.length_take,List.length_cons,List.length_nil,h3,h2,cond_true,Int.toNat_natCast]
     rw [ZcO b _ i (by omega),Zat (by omega) (by omega)]
     rfl
   . simp only [Zfj,ZjM,Zap]
     have hm:b.take (min n.toNat b.length)=b.take n.toNat:=by
       by_cases h:n.toNat<=b.length
       . rw [Nat.min_eq_left h]
       . rw [Nat.min_eq_right (by omega),List.take_length,List.take_of_length_le (by omega)]
     rw [hm]
     by_cases h:((min n.toNat b.length:Nat):Int)<(b.length:Int)
     . rw [if_pos h,if_neg (by omega)]
     . rw [if_neg h]
 unfold ZlZ
 rw [hw]
theorem Zti (lo hi:Int):∀ (b:List Entry) (x:Int) (i:Nat),i<b.length->(Zb7 lo hi b x).getD i 0=allT lo hi (b.take i) x
 | [],_,_,h=>absurd h (by simp)
 | e::r,x,0,_=>rfl
 | e :: r, x, i + 1, h => by
   show (Zb7 lo hi r (App e.op x lo hi).1).getD i 0=allT lo hi (r.take i) (App e.op x lo hi).1
   exact Zti lo hi r _ i (by simpa using h)
theorem ZvD {b:List Entry} {lo hi x:Int} (hb:b.length<=4294967295):Zjs b x lo hi=some (Zb7 lo hi b x):=by
 have hpl:=ZfG lo hi b x
 have hw:ZmF (b,x,lo,hi,[],0)=some (Zb7 lo hi b x):=by
   refine Zbi (fun i=>(b,x,lo,hi,(Zb7 lo hi b x).take i,(i:Int))) b.length (fun i hi'=>?_) ?_
   . have h1:(i:Int)<(b.length:Int):=by omega
     have h2:fewB (i+1)=true:=ZaX (by omega)
     have h3:min i (Zb7 lo hi b x).length=i:=by omega
     have h5:=Zti lo hi b x i hi'
     simp only [ZeB,Zia,Zap,if_pos h1,ZgH,Zs6 (b:=b) (n:=(i:Int)) (by omega),Int.toNat_natCast,Zeg,ZqN (b:=b.take i) (lo:=lo) (hi:=hi) (x:=x) (by simp;omega),List.length_take,List.length_cons,List.length_nil,h3,Nat.zero_add,h2,cond_true]
     rw [<- h5,ZcO (Zb7 lo hi b x) 0 i (by omega),Zat (by omega) (by omega)]
     rfl
   . simp only [ZeB,Zia,Zap]
     rw [if_neg (by omega),List.take_of_length_le (by omega)]
 unfold Zjs
 rw [hw]
theorem ZvR {u:Turn} {x:Int} (hl:u.log.length+u.th.batch.length<=4294967295):Zjy u x=some (Zel u x):=by
 have hpl:=ZfG u.c.lo u.c.hi u.th.batch x
 obtain ⟨ms,hms⟩:∃ ms,ms=ZkF u x:=⟨_,rfl⟩
 have hlen:ms.length=u.th.batch.length:=by rw [hms];exact Zu2 u x
 have hw:∀ z:Turn,Zl8 (x,u,z,Zb7 u.c.lo u.c.hi u.th.batch x,u.log,0)=some (x,u,z,u.log++ms):=by
   intro z
   have h0:Zay ZeJ (x,u,z,Zb7 u.c.lo u.c.hi u.th.batch x,u.log++ms.take 0,((0:Nat):Int))=some (x,u,z,u.log++ms):=Zbi (step:=ZeJ) (fun i=>(x,u,z,Zb7 u.c.lo u.c.hi u.th.batch x,u.log++ms.take i,(i:Int))) u.th.batch.length (y:=(x,u,z,u.log++ms)) (fun i hi=>?_) ?_
   . rw [List.take_zero,List.append_nil] at h0
     exact h0
   . show Zeo _ _ _ _ _ _=_
     unfold Zeo
     have hwi:Zaf .i64 ((i:Int)+1)=((i+1:Nat):Int):=by rw [Zat (by omega) (by omega)];rfl
     have hg:(ms.getD i ⟨0,0,⟨0,0⟩,0,0⟩)=⟨(u.th.batch.getD i Zce).t,u.th.item,(u.th.batch.getD i Zce).op,(Zb7 u.c.lo u.c.hi u.th.batch x).getD i 0,0⟩:=by
       have h2:i<(Zb7 u.c.lo u.c.hi u.th.batch x).length:=by omega
       rw [hms]
       unfold ZkF
       simp only [List.getD_eq_getElem?_getD,List.getElem?_zipWith,List.getElem?_eq_getElem hi,List.getElem?_eq_getElem h2,Option.getD_some]
     have hfew:fewB ((u.log++ms.take i).length+1)=true:=ZaX (by simp;omega)
     simp only [Zap,Int.toNat_natCast,List.length_cons,List.length_nil,Nat.zero_add]
     rw [if_pos (by omega),if_pos (by omega),if_pos (by omega),if_pos (by omega),if_pos (by omega),if_pos (by omega),if_pos (by omega),hfew,hwi]
     simp only [cond_true]
     rw [<- ZcO ms ⟨0,0,⟨0,0⟩,0,0⟩ i (by omega),hg,List.append_assoc]
   . show Zeo _ _ _ _ _ _=some (.inr _)
     unfold Zeo
     simp only [Zap]
     rw [if_neg (by omega),List.take_of_length_le (by omega)]
 unfold Zjy
 simp only [ZjE,ZvD (b:=u.th.batch) (lo:=u.c.lo) (hi:=u.c.hi) (x:=x) (by omega),Nat.zero_add]
 rw [ZaX (by omega),cond_true,hw]
 simp only [Zdm,Zna]
 rw [hms]
 rfl
theorem ZyN {u:Turn} (h:FitM u):Zm0 u=some (Zb1 u):=by
 have hc:=h.g.cfg
 have hl:=ZlQ h.g h.g.t.1 h.g.t.2
 have hr:=ZtJ h.g h.g.t.1 h.g.t.2
 have hb:u.th.batch.length<=4294967296:=by have:=h.g.batch;omega
 have ht:Znh=some 5:=rfl
 unfold Zm0 Zb1
 by_cases p13:u.th.phase=13
 . rw [ZaT p13,if_pos p13]
   simp only [cond_true,Zcq,ZiJ hc,Zbq,Zde hl.1 hl.2.1,ZeD,ht]
   by_cases e:u.m.words.getD (ZaY u.c u.t).toNat 0=5
   . rw [show ((0:Int) == 0)=true from rfl,ZaT e,if_pos e];rfl
   . rw [show ((0:Int) == 0)=true from rfl,ZaC e,if_neg e];rfl
 rw [ZaC p13,if_neg p13]
 simp only [cond_false]
 by_cases p14:u.th.phase=14
 . rw [ZaT p14,if_pos p14]
   simp only [cond_true,Zfz,Zqr hc,Zbq,Zde hr.2.1 hr.2.2,bne_self_eq_false,cond_false,Zdm,Zna]
 rw [ZaC p14,if_neg p14]
 simp only [cond_false]
 by_cases p15:u.th.phase=15
 . rw [ZaT p15,if_pos p15]
   simp only [cond_true,Zap,Zgo]
   by_cases k1:u.th.at_<0
   . rw [if_pos k1,if_pos (show Zed u from .inl k1)]
   rw [if_neg k1]
   by_cases k2:u.th.at_>=(u.th.kids.length:Int)
   . rw [if_pos k2,if_pos (show Zed u from .inr k2)]
   rw [if_neg k2,if_neg (show ¬Zed u from fun h=>h.elim k1 k2)]
   unfold Zm3
   simp only [Zap]
   rw [if_pos (by omega),if_pos (by omega),ZaT p15]
   have hall:Zeg (u.th.batch.take (Zc6 u).ahead.toNat,u.th.x,u.c.lo,u.c.hi)=some (allT u.c.lo u.c.hi (u.th.batch.take (Zc6 u).ahead.toNat) u.th.x):=ZqN (by simp;omega)
   have hup:ZgH (u.th.batch,(u.th.kids.getD u.th.at_.toNat dKid).ahead)=some (u.th.batch.take (Zc6 u).ahead.toNat):=Zs6 hb
   have hres:Zfz (u.c,(u.th.kids.getD u.th.at_.toNat dKid).t)=some (Zct u.c (Zc6 u).t):=Zqr hc _
   simp only [cond_true,hup,hall,hres,Zbn]
   by_cases e:Zct u.c (Zc6 u).t=-1
   . rw [ZeX (.inl (by omega)),if_pos e];rfl
   . have hk:0<=(Zc6 u).t/\(Zc6 u).t<u.c.threads:=by unfold Zct at e;split at e <;> omega
     have hk2:=ZtJ h.g hk.1 hk.2
     rw [Zcy hk2.2.1 hk2.2.2 h.g.wl,if_neg e];rfl
 rw [ZaC p15,if_neg p15]
 simp only [cond_false]
 by_cases p16:u.th.phase=16
 . rw [ZaT p16,if_pos p16]
   simp only [cond_true,Zap,Zgo]
   by_cases k1:u.th.at_<0
   . rw [if_pos k1,if_pos (show Zed u from .inl k1)]
   rw [if_neg k1]
   by_cases k2:u.th.at_>=(u.th.kids.length:Int)
   . rw [if_pos k2,if_pos (show Zed u from .inr k2)]
   rw [if_neg k2,if_neg (show ¬Zed u from fun h=>h.elim k1 k2)]
   unfold Zm3
   simp only [Zap]
   rw [if_pos (by omega),if_pos (by omega),ZaC p15]
   have hline:Zcq (u.c,(u.th.kids.getD u.th.at_.toNat dKid).t)=some (ZaY u.c (Zc6 u).t):=ZiJ hc _
   simp only [cond_false,hline,ZeD,ht,Zbn]
   by_cases e:ZaY u.c (Zc6 u).t=-1
   . rw [ZeX (.inl (by omega)),if_pos e];rfl
   . have hk:=Zh1 hc e
     have hk2:=ZlQ h.g hk.2.2.1 hk.2.2.2.1
     rw [Zcy hk2.1 hk2.2.1 h.g.wl,if_neg e]
     simp only [bne_self_eq_false,cond_false,Zdm,Zna]
 rw [ZaC p16,if_neg p16]
 rfl
theorem Zxn {w n:Int} (h1:1<=n) (h2:n<=1000):Zli w n=some (if w<n then (if n<Zaf .i64 (w*2) then n else Zaf .i64 (w*2)) else (if n<w then n else w)):=by
 unfold Zli
 simp only [Zap]
 rw [Int.mul_comm 2 w]
 by_cases a:w>n
 . rw [if_pos a,if_neg (by omega),if_pos (by omega)]
 . rw [if_neg a]
   by_cases b:w<n
   . rw [if_pos b]
   . have e:w=n:=by omega
     subst e
     rw [Zat (n:=w*2) (by omega) (by omega)]
     congr 1
     (repeat' split) <;> omega
theorem ZyV {u:Turn} (h:FitM u) (hlog:u.log=[]):Zl0 u=some (ZbF u):=by
 have hc:=h.g.cfg
 obtain ⟨hcell,c0,c1⟩:=h.cell
 rw [<- hcell] at c0 c1
 have hb:u.th.batch.length<=4294967296:=by have:=h.g.batch;omega
 have hbb:=h.g.batch
 have hcw:=hc.width
 have hcl:ZdC (u.c,u.th.item)=some (cellAt u.c u.th.item):=Ztc hc u.th.item
 have hall:Zeg (u.th.batch,ZaR u (cellAt u.c u.th.item),u.c.lo,u.c.hi)=some (allT u.c.lo u.c.hi u.th.batch (ZaR u (cellAt u.c u.th.item))):=ZqN hb
 have hcom:∀ {v:Turn} {x:Int},v.th.batch=u.th.batch->v.log=u.log->Zek (v,x)=some (Zel v x):=by
   intro v x h2 h3
   refine ZvR ?_
   rw [h2,h3,hlog]
   simp only [List.length_nil]
   omega
 unfold Zl0 ZbF
 rw [hcl]
 simp only [Zbq,Zde c0 c1,bne_self_eq_false,cond_false,hall,ZcT,Zgr c0 c1 h.g.wl,Zeh,Zqp,ZhV,Zxn (w:=u.th.width) hcw.1 (by omega)]
 by_cases p2:u.th.phase=2
 . have p3:¬u.th.phase=3:=by omega
   have p25:¬u.th.phase=25:=by omega
   rw [ZaT p2,ZaC p25,if_neg p3,if_pos (show u.th.phase=2\/u.th.phase=25 from .inl p2),if_neg p25]
   simp only [cond_true,cond_false]
   by_cases e:allT u.c.lo u.c.hi u.th.batch (ZaR u (cellAt u.c u.th.item))=ZaR u (cellAt u.c u.th.item)
   . rw [ZaT e,if_pos e,cond_true,hcom rfl rfl]
   . rw [ZaC e,if_neg e,cond_false]
 rw [ZaC p2]
 simp only [cond_false]
 by_cases p25:u.th.phase=25
 . have p3:¬u.th.phase=3:=by omega
   rw [ZaT p25,if_neg p3,if_pos (show u.th.phase=2\/u.th.phase=25 from .inr p25),if_pos p25]
   simp only [cond_true]
   by_cases e:allT u.c.lo u.c.hi u.th.batch (ZaR u (cellAt u.c u.th.item))=ZaR u (cellAt u.c u.th.item)
   . rw [ZaT e,if_pos e,cond_true,hcom rfl rfl]
   . rw [ZaC e,if_neg e,cond_false]
 rw [ZaC p25]
 simp only [cond_false]
 by_cases p3:u.th.phase=3
 . rw [ZaT p3,if_pos p3]
   unfold Zdu
   simp only [cond_true]
   by_cases e:ZaR u (cellAt u.c u.th.item)=u.th.x
   . rw [if_pos e,if_pos e]
     simp only [bne_self_eq_false,cond_false,cond_true,hcom (v:=setW u (cellAt u.c u.th.item) u.th.y) rfl rfl]
     rw [decide_eq_true e,cond_true]
   . rw [if_neg e,if_neg e,decide_eq_false e]
     rfl
 . rw [ZaC p3,if_neg p3,if_neg (show ¬(u.th.phase=2\/u.th.phase=25) from fun x=>x.elim p2 p25)]
   rfl
end Go.Proofs.Mill
namespace Go.Proofs.Mill
theorem Zw0 (u:Turn):ZkX u=some (ZeF u):=by
 unfold ZkX ZeF
 simp only [Zap]
 by_cases b2:u.c.backend=2
 . have b3:¬u.c.backend=3:=by omega
   rw [ZaT b2,ZaC b3,if_neg (show ¬(u.c.backend=3/\u.c.layers>0) from fun h=>b3 h.1)]
   simp only [cond_true,cond_false]
   by_cases d:u.c.depth>0
   . rw [if_pos d,if_pos (show u.c.backend=2/\u.c.depth>0 from ⟨b2,d⟩)]
   . rw [if_neg d,if_neg (show ¬(u.c.backend=2/\u.c.depth>0) from fun h=>d h.2)]
 . rw [ZaC b2,if_neg (show ¬(u.c.backend=2/\u.c.depth>0) from fun h=>b2 h.1)]
   simp only [cond_false]
   by_cases b3:u.c.backend=3
   . rw [ZaT b3]
     simp only [cond_true]
     by_cases d:u.c.layers>0
     . rw [if_pos d,if_pos (show u.c.backend=3/\u.c.layers>0 from ⟨b3,d⟩)]
     . rw [if_neg d,if_neg (show ¬(u.c.backend=3/\u.c.layers>0) from fun h=>d h.2)]
   . rw [ZaC b3,if_neg (show ¬(u.c.backend=3/\u.c.layers>0) from fun h=>b3 h.1)];rfl
theorem ZAe {u:Turn} (h:FitM u):Zgs u=some (Zbs u):=by
 by_cases p:17<=u.th.phase
 . exact ZzE ⟨h.g,h.item,h.layer p,h.tape,h.draws,h.width⟩
 . have hp:u.th.phase≠17/\u.th.phase≠18/\u.th.phase≠19/\u.th.phase≠20/\u.th.phase≠21/\u.th.phase≠22/\u.th.phase≠23/\u.th.phase≠24/\u.th.phase≠26:=by omega
   obtain ⟨h1,h2⟩:=ZqT hp
   rw [h2]
   obtain ⟨p1,p2,p3,p4,p5,p6,p7,p8,p9⟩:=hp
   simp only [Zgs,ZaC p1,ZaC p2,ZaC p3,ZaC p4,ZaC p5,ZaC p6,ZaC p7,ZaC p8,ZaC p9,cond_false]
theorem Zzl {u:Turn} (h:FitM u):ZiF u=some (ZaG u):=by
 have hb:=h.beg
 unfold ZiF ZaG
 by_cases p:u.th.phase=0
 . rw [ZaT p,if_pos p];rfl
 rw [ZaC p,if_neg p]
 simp only [cond_false]
 by_cases p1:u.th.phase=1
 . have hl:=ZlQ h.g h.g.t.1 h.g.t.2
   have hcl:Zcj (begT u)=(ZeF (setW (begT u) (ZaY u.c u.t) 0),true):=if_pos p1
   rw [ZaT p1,hcl,if_pos rfl]
   simp only [cond_true,Zcq,ZiJ h.g.cfg,Zbn,Zcy hl.1 hl.2.1 h.g.wl,bne_self_eq_false,cond_false,ZkM,Zw0]
   rfl
 have hcl:Zcj (begT u)=(begT u,false):=if_neg p1
 rw [ZaC p1,hcl,if_neg (show ¬(((begT u,false):Turn×Bool).2=true) from fun x=>by cases x)]
 simp only [cond_false]
 have e2:Zm1 { u with log:=([]:List Mark),done:=false }=some (Zb1 (begT u)):=ZyN hb
 have e3:ZmR { u with log:=([]:List Mark),done:=false }=some (ZbF (begT u)):=ZyV hb rfl
 have e4:Zir { u with log:=([]:List Mark),done:=false }=some (Zcp (begT u)):=Zyo hb.fit
 have e5:Zfx { u with log:=([]:List Mark),done:=false }=some (Zca (begT u)):=Zyv hb.g
 have e6:ZcS { u with log:=([]:List Mark),done:=false }=some (Zbs (begT u)):=ZAe hb
 have hno:(Zbs (begT u)).2=false->(Zbs (begT u)).1=begT u:=by
   intro hc
   unfold Zbs at hc ⊢
   repeat (split at hc;· cases hc)
   (repeat' split) <;> first | rfl | (exfalso;simp_all)
 simp only [e2,e3,e4,e5,e6]
 cases h2:(Zb1 (begT u)).2 with
 | true=>rfl
 | false =>
 cases h3:(ZbF (begT u)).2 with
 | true=>rfl
 | false =>
 cases h4:(Zcp (begT u)).2 with
 | true=>rfl
 | false =>
 cases h5:(Zca (begT u)).2 with
 | true=>rfl
 | false =>
 cases h6:(Zbs (begT u)).2 with
 | true=>rfl
 | false =>
   simp only [Bool.not_false,cond_true,hno h6]
   rfl
theorem ZBD:((List.range 5).all fun (d:Nat)=>(List.range 16).all fun (t:Nat)=>decide (ZlW (d:Int) (t:Int)=ZeC (d:Int) (t:Int)))=true:=by kernel_rfl
theorem ZzP {c:Config} (h:CfgOK c) {t:Int} (h0:0<=t) (h1:t<c.threads):ZlW c.depth t=some (Zl5 c t):=by
 have hd:=h.depth
 have ht:=h.threads
 have k:=List.all_eq_true.1 ZBD c.depth.toNat (List.mem_range.2 (show c.depth.toNat<5 by omega))
 have k2:=List.all_eq_true.1 k t.toNat (List.mem_range.2 (show t.toNat<16 by omega))
 have k3:=of_decide_eq_true k2
 rw [show ((c.depth.toNat:Nat):Int)=c.depth by omega,show ((t.toNat:Nat):Int)=t by omega] at k3
 rw [k3,Zt3 h]
theorem Zxh {c:Config} (h:CfgOK c) {t:Int} (h0:0<=t) (h1:t<c.threads) (th:Thread) (item:Int) (op:Op) (now:Int):ZkL c t th item op now=some (ZfQ c t item op now th.width):=by
 unfold ZkL ZfQ
 simp only [Zmn,ZzP h h0 h1,Zap]
 by_cases e:c.wait>0
 . rw [if_pos e,if_pos e]
 . rw [if_neg e,if_neg e]
theorem Zo8 {w:Wld} {e:Event} (h:w.hist.length+1<=4294967296):ZgG (w,e)=some { w with hist:=w.hist++[{ e with step:=w.steps }] }:=by
 show Zne w e=_
 unfold Zne
 rw [Nat.zero_add,ZaX (by omega),cond_true,ZaX (by simp;omega),cond_true]
theorem Zqt {w:Wld} {t:Int} {th:Thread} (h0:0<=t) (h1:t<(w.t.length:Int)) (h:w.t.length<=4294967296):ZgW (w,t,th)=some { w with t:=w.t.set t.toNat th }:=by
 show ZjL w t th=_
 unfold ZjL
 simp only [Zap]
 rw [Nat.zero_add,ZaX h,cond_true,if_pos h0,if_pos h1]
theorem ZwW {w z:Wld} {t:Int} {u:Turn} (hl:w.log.length+u.log.length<=4294967296):ZoB (t,w,z,u,w.log,0)=some (t,w,z,u,w.log++u.log.map (Zcn w.steps)):=by
 have h0:=Zbi (step:=Zhe) (fun i=>(t,w,z,u,w.log++(u.log.take i).map (Zcn w.steps),(i:Int))) u.log.length (y:=(t,w,z,u,w.log++u.log.map (Zcn w.steps))) (fun i hi=>?_) ?_
 . rw [List.take_zero,List.map_nil,List.append_nil] at h0
   exact h0
 . show Zfy _ _ _ _ _ _=_
   unfold Zfy
   simp only [Zap]
   have e2:(u.log.take i).map (Zcn w.steps)++[{ u.log.getD i Za4 with step:=w.steps }]=(u.log.take (i+1)).map (Zcn w.steps):=by
     rw [<- ZcO u.log Za4 i hi,List.map_append];rfl
   rw [if_pos (show (i:Int)<(u.log.length:Int) by omega),if_pos (show (0:Int)<=(i:Int) by omega),if_pos (show (i:Int)<(u.log.length:Int) by omega),Int.toNat_natCast,ZaX (by simp;omega),cond_true,List.append_assoc,e2,Zat (by omega) (by omega)]
   rfl
 . show Zfy _ _ _ _ _ _=_
   unfold Zfy
   simp only [Zap]
   rw [if_neg (by omega),List.take_length]
theorem ZyI {w:Wld} {t:Int} {u:Turn} (h0:0<=t) (h1:t<(w.t.length:Int)) (hT:w.t.length<=4294967296) (hf:FitM (Za7 w t)) (hu:ZaG (Za7 w t)=u) (hlog:w.log.length+u.log.length<=4294967296) (hh:w.hist.length+1<=4294967296):Zl2 (w,t)=some (Zcg w t u):=by
 show Zmv w t=_
 unfold Zmv
 simp only [Zap]
 rw [if_pos h0,if_pos h1]
 have e1:Zl7 (Turn.mk w.c t w.now w.m (w.t.getD t.toNat Zaw) w.tape ([]:List Mark) false)=some u:=by
   show ZiF (Za7 w t)=_
   rw [Zzl hf,hu]
 rw [e1]
 simp only []
 rw [Zqt (w:={ w with steps:=Zaf IntKind.i64 (w.steps+(1:Int)) }) h0 h1 hT]
 simp only [Nat.zero_add]
 rw [ZaX (by show w.log.length<=_;omega),cond_true]
 have e3:=fun z=>ZwW (w:={ w with m:=u.m,t:=w.t.set t.toNat u.th,steps:=Zdr w,tape:=u.tape }) (z:=z) (t:=t) (u:=u) hlog
 simp only [Zdr] at e3
 rw [e3]
 unfold Zcg
 cases hd:u.done with
 | false =>
   simp only [hd,Bool.not_false,cond_true]
   rfl
 | true =>
   simp only [hd,Bool.not_true,cond_false,ZcH,Zhs]
   rw [Zo8 (by show w.hist.length+1<=_;omega)]
   rfl
section
variable {c:Config} {w:Wld} {n:Nat} {ro pa rt:Int->Int} {co:Int->Option Int} {t:Int}
theorem ZyY (W:WInv c w n ro pa rt co) (hC:CfgOK c) (hlo:Num c.lo) (hhi:Num c.hi) (hn:n<=190000) (e:SEntry):ZmV (w,e)=some (Zrs w e):=by
 show Zmq w e=_
 unfold Zmq Zrs
 rw [ZrK]
 simp only []
 by_cases k:Zby w.c e=0
 case neg=>rw [Zdj k,if_pos k];rfl
 rw [ZdP k,if_neg (fun x=>x k)]
 have hlT:=W.lenT
 have hT:=hC.threads
 have hlo1:=W.log
 have hh:=W.hist
 have k':Zby c e=0:=by rw [<- W.cE];exact k
 simp only [cond_false,Zap,ZeE,ZiB]
 rcases Zo9 k' with ⟨k1,ht,hi,ho⟩ | ⟨k1,ht⟩ | k1
 . have h0:=ht.1
   have h1:=ht.2
   rw [ZaC (show ¬e.kind=3 by omega),cond_false,if_pos h0,if_pos (by omega),ZaT k1,cond_true]
   by_cases p:(w.t.getD e.t.toNat Zaw).phase=0
   . have ec:Zrj w e=0:=if_neg (fun x=>x.2 p)
     have es:Zb5 w e={ w with t:=w.t.set e.t.toNat (ZfQ w.c e.t e.item e.op w.now (w.t.getD e.t.toNat Zaw).width),hist:=w.hist++[⟨1,e.t,e.item,e.op,0,false,w.steps⟩] }:=by
       unfold Zb5 invT
       rw [if_pos k1,if_neg (fun x=>x p)]
     rw [ec,es,ZdP p,cond_false]
     have hb:Zlk (w.c,e.t,w.t.getD e.t.toNat Zaw,e.item,e.op,w.now)=some (ZfQ w.c e.t e.item e.op w.now (w.t.getD e.t.toNat Zaw).width):=Zxh (by rw [W.cE];exact hC) h0 (by rw [W.cE];exact h1) _ _ _ _
     rw [hb]
     simp only []
     rw [Zqt h0 (by omega) (by omega)]
     simp only []
     rw [Zo8 (by show w.hist.length+1<=_;omega)]
   . have ec:Zrj w e=170:=if_pos ⟨k1,p⟩
     have es:Zb5 w e={ w with hist:=w.hist++[⟨3,e.t,e.item,e.op,0,false,w.steps⟩] }:=by
       unfold Zb5 invT
       rw [if_pos k1,if_pos p]
     rw [ec,es,Zdj p,cond_true,Zo8 (by omega)]
 . have h0:=ht.1
   have h1:=ht.2
   have ec:Zrj w e=0:=if_neg (fun x=>by omega)
   rw [ec,ZaC (show ¬e.kind=3 by omega),cond_false,if_pos h0,if_pos (by omega),ZaC (show ¬e.kind=1 by omega),cond_false]
   unfold Zb5
   rw [if_neg (show ¬e.kind=1 by omega),if_pos k1]
   by_cases p:(w.t.getD e.t.toNat Zaw).phase=0
   . rw [ZdP p,if_pos p];rfl
   . have hf:=W.fit hC hlo hhi ht p
     obtain ⟨_,ro',pa',rt',co1,W',_⟩:=W.pick hC hlo hhi (by omega) ht p
     have hl2:((w.log++(ZaG (Za7 w e.t)).log.map (Zcn (Zdr w))).length)<=16*(n+1):=W'.log
     rw [List.length_append,List.length_map] at hl2
     rw [Zdj p,if_neg p,ZyI h0 (by omega) (by omega) hf rfl (by omega) (by omega)]
     rfl
 . have ec:Zrj w e=0:=if_neg (fun x=>by omega)
   have es:Zb5 w e={ w with now:=Zaf .i64 (w.now+1) }:=by
     unfold Zb5
     rw [if_neg (by omega),if_neg (by omega),if_pos k1]
   rw [ec,es,ZaT k1,cond_true]
end
theorem ZxB {c:Config} (h:CfgOK c):ZkO c=some (Zcw c):=by
 have hs:=Zhv h
 have ht:=h.threads
 have hi:=h.items
 have hl:=Za3 h
 show ZkS c=_
 unfold ZkS
 have e2:Zom (sizeOf c,c.threads)=some ⟨List.replicate (sizeOf c).toNat 0,List.replicate c.threads.toNat []⟩:=by
   show Zof _ _=_
   unfold Zof
   have a1:ZpR (sizeOf c,c.threads,⟨[],[]⟩,⟨[],[]⟩,0)=some (c.threads,⟨[],[]⟩,⟨List.replicate (sizeOf c).toNat 0,[]⟩):=by
     refine Zbi (step:=ZhN) (fun k=>(sizeOf c,c.threads,(⟨[],[]⟩:Memo),(⟨List.replicate k 0,[]⟩:Memo),(k:Int))) (sizeOf c).toNat (fun k hk=>?_) ?_
     . show Zf3 _ _ _ _ _=_
       unfold Zf3
       simp only [Zap]
       rw [if_pos (by omega),if_pos (by omega),ZaX (by simp;omega),cond_true,Zat (by omega) (by omega)]
       simp only [List.replicate_succ']
       rfl
     . show Zf3 _ _ _ _ _=_
       unfold Zf3
       simp only [Zap]
       rw [if_neg (by omega)]
   have a2:Zp8 (c.threads,⟨[],[]⟩,⟨List.replicate (sizeOf c).toNat 0,[]⟩,0)=some (⟨[],[]⟩,⟨List.replicate (sizeOf c).toNat 0,List.replicate c.threads.toNat []⟩):=by
     refine Zbi (step:=ZhT) (fun k=>(c.threads,(⟨[],[]⟩:Memo),(⟨List.replicate (sizeOf c).toNat 0,List.replicate k []⟩:Memo),(k:Int))) c.threads.toNat (fun k hk=>?_) ?_
     . show ZfS _ _ _ _=_
       unfold ZfS
       simp only [Zap]
       rw [if_pos (by omega),if_pos (by omega),ZaX (by simp;omega),cond_true,Zat (by omega) (by omega)]
       simp only [List.replicate_succ']
       rfl
     . show ZfS _ _ _ _=_
       unfold ZfS
       simp only [Zap]
       rw [if_neg (by omega)]
   rw [a1]
   simp only []
   rw [a2]
 simp only [Zfk,Zzq h,e2]
 have hw:ZnR (c,⟨[],[]⟩,⟨List.replicate (sizeOf c).toNat 0,List.replicate c.threads.toNat []⟩,0)=some (⟨[],[]⟩,Zcw c):=by
   have h0:=Zbi (step:=Zgh) (fun k=>(c,⟨[],[]⟩,(⟨ZdN c k,List.replicate c.threads.toNat []⟩:Memo),(k:Int))) c.items.toNat (y:=(⟨[],[]⟩,Zcw c)) (fun k hk=>?_) ?_
   . exact h0
   . show ZeZ _ _ _ _=_
     unfold ZeZ
     have hkc:=ZoI h (i:=(k:Int)) (by omega) (by omega)
     have hcell:ZdC (c,(k:Int))=some ((k:Int)*ZaA c):=by
       show ZiD _ _=_
       rw [Ztc h]
       unfold cellAt
       rw [if_neg (by omega)]
     simp only [Zap,hcell,Zbn]
     rw [if_pos (by omega),Zcy hkc.1 (by show _<((ZdN c k).length:Int);rw [Zev];omega) (by show (ZdN c k).length<=_;rw [Zev];omega),Zat (by omega) (by omega)]
     rfl
   . show ZeZ _ _ _ _=_
     unfold ZeZ
     simp only [Zap]
     rw [if_neg (by omega)]
     rfl
 rw [hw]
theorem ZAv {c:Config} {d:List Int} (h:CfgOK c) (hd:d.length<=4294967296):Zn2 (c,d)=some (newW c d,0):=by
 obtain ⟨e,he,hE⟩:=Zg3 c
 have he0:=hE.2 h
 subst he0
 have ht:=h.threads
 show Zoc c d=_
 unfold Zoc
 simp only [Zdc,he,bne_self_eq_false,cond_false,ZxB h,Nat.zero_add]
 rw [ZaX hd,cond_true]
 have hw:∀ z:Wld,ZpW (c,z,Wld.mk c (Zcw c) ([]:List Thread) (0:Int) (0:Int) (Tape.mk d (0:Int)) ([]:List Mark) ([]:List Event),0)=some (z,newW c d):=by
   intro z
   refine Zbi (step:=Zh0) (fun k=>(c,z,Wld.mk c (Zcw c) (List.replicate k newT) (0:Int) (0:Int) (Tape.mk d (0:Int)) ([]:List Mark) ([]:List Event),(k:Int))) c.threads.toNat (fun k hk=>?_) ?_
   . show Zf4 _ _ _ _=_
     unfold Zf4
     simp only [Zap,Zog,ZrG]
     rw [if_pos (by omega),ZaX (by simp;omega),cond_true,Zat (by omega) (by omega)]
     simp only [List.replicate_succ']
     rfl
   . show Zf4 _ _ _ _=_
     unfold Zf4
     simp only [Zap]
     rw [if_neg (by omega)]
     rfl
 rw [hw]
theorem Zto {c:Config} {l:List SEntry} (hl:l.length<=4294967296):∀ (k i:Nat),i+k=l.length->Zlj (l,c,(i:Int))=some (match Zff c i (l.drop i) with | none=>.inl () | some y=>.inr y)
 | 0, i, hk => by
   rw [List.drop_of_length_le (by omega)]
   refine whileM_some.2 (.done _ _ ?_)
   show ZfT _ _ _=_
   unfold ZfT
   simp only [Zap]
   rw [if_neg (by omega)]
   rfl
 | k + 1, i, hk => by
   have hi:i<l.length:=by omega
   rw [Zrl Za6 hi]
   have e1:Zff c i (l.getD i Za6::l.drop (i+1))=if Zby c (l.getD i Za6)=0 then Zff c (i+1) (l.drop (i+1)) else some ((i:Int),Zby c (l.getD i Za6)):=rfl
   have hs:ZhL (l,c,(i:Int))=if Zby c (l.getD i Za6)=0 then some (.inl (l,c,((i+1:Nat):Int))) else some (.inr (.inr ((i:Int),Zby c (l.getD i Za6)))):=by
     show ZfT _ _ _=_
     unfold ZfT
     simp only [Zap,ZrK,Int.toNat_natCast]
     rw [if_pos (show (i:Int)<(l.length:Int) by omega),if_pos (show (0:Int)<=(i:Int) by omega),if_pos (show (i:Int)<(l.length:Int) by omega)]
     by_cases h0:Zby c (l.getD i Za6)=0
     . rw [if_pos h0,ZdP h0,Zat (by omega) (by omega)];rfl
     . rw [if_neg h0,Zdj h0];rfl
   rw [e1]
   by_cases h0:Zby c (l.getD i Za6)=0
   . rw [if_pos h0] at hs ⊢
     exact whileM_some.2 (.more _ _ _ hs (whileM_some.1 (Zto hl k (i+1) (by omega))))
   . rw [if_neg h0] at hs ⊢
     exact whileM_some.2 (.done _ _ hs)
theorem ZAM (c:Config) (l:List SEntry):Zoe (c,l)=some (allE c l):=by
 obtain ⟨e,he,hE⟩:=Zg3 c
 show Zov c l=_
 unfold Zov allE
 simp only [Zdc,he,Option.getD_some,Zap]
 by_cases h0:e=0
 . rw [ZdP h0,cond_false,if_neg (show ¬e≠0 from fun h=>h h0)]
   by_cases h1:l.length>65536
   . rw [if_pos h1,if_pos (show (l.length:Int)>65536 by omega)]
   . rw [if_neg h1,if_neg (show ¬(l.length:Int)>65536 by omega)]
     have:=Zto (c:=c) (l:=l) (by omega) l.length 0 (by omega)
     rw [List.drop_zero] at this
     rw [show Zlj (l,c,0)=_ from this]
     cases Zff c 0 l <;> rfl
 . rw [Zdj h0,cond_true,if_pos h0]
theorem Zs7 {c:Config} (hC:CfgOK c) (hlo:Num c.lo) (hhi:Num c.hi) {b:List SEntry} {y:Wld} (hb:b.length<=100000) (he:∀ e∈b,Zby c e=0/\Num e.op.v):∀ (k j:Nat) (w:Wld) (n:Nat) (ro pa rt:Int->Int) (co:Int->Option Int),j+k=b.length->WInv c w n ro pa rt co->n+k<=190000 ->
   Zlb (b,y,w,(j:Int))=some (y,(b.drop j).foldl Zb5 w)
 | 0, j, w, n, ro, pa, rt, co, hk, W, hn => by
   rw [List.drop_of_length_le (by omega)]
   refine whileM_some.2 (.done _ _ ?_)
   show ZfO _ _ _ _=_
   unfold ZfO
   simp only [Zap]
   rw [if_neg (by omega)]
   rfl
 | k + 1, j, w, n, ro, pa, rt, co, hk, W, hn => by
   have hj:j<b.length:=by omega
   have hm:b.getD j Za6∈b:=by
     rw [List.getD_eq_getElem?_getD,List.getElem?_eq_getElem hj,Option.getD_some]
     exact List.getElem_mem hj
   rw [Zrl Za6 hj]
   have hw:Zaf IntKind.i64 ((j:Int)+1)=((j+1:Nat):Int):=by rw [Zat (by omega) (by omega)];omega
   obtain ⟨_,ro',pa',rt',co',W'⟩:=W.entry hC hlo hhi (by omega) (he _ hm).1 (he _ hm).2
   have hst:=ZyY W hC hlo hhi (by omega) (b.getD j Za6)
   have hR:Zrs w (b.getD j Za6)=(Zb5 w (b.getD j Za6),Zrj w (b.getD j Za6)):=by
     unfold Zrs
     rw [if_neg (fun x=>x (by rw [W.cE];exact (he _ hm).1))]
   rw [hR] at hst
   have hs:ZhQ (b,y,w,(j:Int))=some (.inl (b,y,Zb5 w (b.getD j Za6),((j+1:Nat):Int))):=by
     show ZfO _ _ _ _=_
     unfold ZfO
     have a1:(j:Int)<(b.length:Int):=by omega
     have a2:(0:Int)<=(j:Int):=by omega
     simp only [Zap,a1,a2,if_true,Int.toNat_natCast,hst,hw]
   exact whileM_some.2 (.more _ _ _ hs (whileM_some.1 (Zs7 hC hlo hhi hb he k (j+1) _ (n+1) ro' pa' rt' co' (by omega) W' (by omega))))
theorem Zz4 {c:Config} {l:List SEntry} {d:List Int} (hc:ZAF c) (hl:∀ e∈l,Num e.op.v) (hd:d.length<=4294967296) (hn:l.length<=2000):Zoa (c,l,d)=ZhG (c,l,d):=by
 show Zoh c l d=_
 unfold Zoh
 rw [ZAM]
 rcases ZCT (c:=c) (l:=l) (d:=d) hc hl hd hn with ⟨r1,r2⟩ | ⟨w,hw,r1,r2,hC,hck,_⟩
 . rw [r1]
   simp only []
   rw [Zdj r2]
   rfl
 . rw [r1,r2]
   simp only [bne_self_eq_false,cond_false,ZAv hC hd]
   have:=fun y=>Zs7 hC hc.2.1 hc.2.2 (b:=l) (y:=y) (by omega) (fun e he=>⟨hck e he,hl e he⟩) l.length 0 (newW c d) 0 _ _ _ _ (by omega) (Zr8 hC hc.1 hd) (by omega)
   rw [List.drop_zero,<- hw] at this
   rw [show Zlb (l,_,newW c d,0)=_ from this _]
end Go.Proofs.Mill
