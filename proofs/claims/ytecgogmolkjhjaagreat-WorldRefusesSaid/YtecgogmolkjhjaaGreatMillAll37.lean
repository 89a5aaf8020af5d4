/- Parts of the proof: MillRLin2, MillRRunAll, MillRSame, MillRWld, MillRCommon. -/
import Derived.Test.YtecgogmolkjhjaaGreatMillAll36
import Derived.Test.YtecgogmolkjhjaaGreatMillAll4
import Derived.Test.YtecgogmolkjhjaaGreatMillAll34
import Derived.Test.YtecgogmolkjhjaaGreatMillFDa
set_option linter.all false
noncomputable section
/- Whatever is done, the ops are as if done one after another: kept by every entry. -/
namespace Go.Proofs.Mill
theorem ZxD (h:Thread):(Zfk h).phase=4\/(Zfk h).phase=7\/(Zfk h).phase=11\/(Zfk h).phase=2:=by
 unfold Zfk
 split
 . exact .inl rfl
 . have:=Ze6 { h with phase:=4,held:=h.held++[h.node],node:=h.node / 2,at_:=0 }
   have e:(Zkg { h with phase:=4,held:=h.held++[h.node],node:=h.node / 2 }).phase=(Ze5 { h with phase:=4,held:=h.held++[h.node],node:=h.node / 2,at_:=0 }).phase:=rfl
   rw [e]
   omega
theorem Zjh (h:Thread):(Ze5 h).phase=7\/(Ze5 h).phase=11\/(Ze5 h).phase=2:=by
 have:=Ze6 h
 omega
section
variable {c:Config} {t:Int} {v v':Vw} {h:Thread} {log:List Mark} {done:Bool}
theorem Zbg {h':Thread}:(put v t h').th t=h':=Zam
theorem Zi7 (g:Thread):((Zbv g).phase=0↔Zeb g=true):=by
 have:=ZhN g
 cases hd:Zeb g with
 | true=>rw [hd] at this;simp at this ⊢;exact this.1
 | false=>rw [hd] at this;simp at this ⊢;omega
theorem Tr.idle (T:Tr c t v h v' log done) (hv:v.th t=h) (hp:h.phase≠0):((v'.th t).phase=0↔done=true):=by
 have no:∀ {p:Int},p≠0->(p=0↔false=true):=fun h=>⟨fun x=>(h x).elim,fun x=>by cases x⟩
 cases T with
 | nop s=>rw [hv];exact no hp
 | start p s=>rw [Zbg];cases s <;> exact no (by dsimp only;decide)
 | load p=>rw [Zbg];exact no (by dsimp only;decide)
 | casF p hw hw2=>rw [Zbg];exact no (by dsimp only;decide)
 | same p e=>rw [Zbg];exact Zi7 _
 | cas p e=>rw [Zbg];exact Zi7 _
 | on25 p o=>rw [Zbg];cases o <;> exact no (by dsimp only;decide)
 | look1 p k=>rw [Zbg];exact no (by dsimp only;decide)
 | look0 p=>rw [Zbg];exact no (by dsimp only;decide)
 | lookL p=>rw [Zbg];exact no (by have:=Zjh { h with at_:=0 };show (Ze5 { h with at_:=0 }).phase≠0;omega)
 | take p n e=>rw [Zbg];exact no (by have:=ZxD h;omega)
 | takeF p=>rw [Zbg];exact no (by dsimp only;decide)
 | join p n e=>rw [Zbg];exact no (by have:=Zjh { h with phase:=4,stop:=h.node,at_:=0 };show (Ze5 { h with phase:=4,stop:=h.node,at_:=0 }).phase≠0;omega)
 | joinF p=>rw [Zbg];exact no (by dsimp only;decide)
 | seeF p a e=>rw [Zbg];exact no (by dsimp only;decide)
 | seeD p a k=>rw [Zbg];exact no (by dsimp only;decide)
 | close p a e=>rw [Zbg];exact no (by have:=Zjh { h with at_:=Zaf IntKind.i64 (h.at_+1) };show (Ze5 { h with at_:=Zaf IntKind.i64 (h.at_+1) }).phase≠0;omega)
 | closeF p=>rw [Zbg];exact no (by dsimp only;decide)
 | takeB p w=>rw [Zbg];exact no (by dsimp only;decide)
 | clear p a=>rw [Zbg];exact no (by have:=Zjh { h with at_:=Zaf IntKind.i64 (h.at_+1) };show (Ze5 { h with at_:=Zaf IntKind.i64 (h.at_+1) }).phase≠0;omega)
 | box11 p=>rw [Zbg];exact no (by dsimp only;decide)
 | dep p n=>rw [Zbg];exact no (by dsimp only;decide)
 | told p e=>rw [Zbg];exact no (by dsimp only;decide)
 | res p=>rw [Zbg];exact Zi7 _
 | tell1 p a w=>rw [Zbg];exact no (by dsimp only;decide)
 | tell2 p a w=>rw [Zbg];exact Zi7 _
 | box17 p=>rw [Zbg];exact no (by dsimp only;decide)
 | open18 p=>rw [Zbg];exact no (by dsimp only;decide)
 | swap20 p s w=>rw [Zbg];exact no (by dsimp only;decide)
 | swap23 p s=>rw [Zbg];exact no (by dsimp only;decide)
 | shut20 p e=>rw [Zbg];exact no (by dsimp only;decide)
 | shutF p e=>rw [Zbg];exact no (by dsimp only;decide)
 | cap21 p w e=>rw [Zbg];exact no (by dsimp only;decide)
 | capF p=>rw [Zbg];exact no (by dsimp only;decide)
 | absorb p w=>rw [Zbg];exact no (by dsimp only;decide)
 | spinF p e=>rw [Zbg];exact no (by dsimp only;decide)
 | spinL p e=>rw [Zbg];exact no (by dsimp only;omega)
 | spinO p e=>rw [Zbg];exact no (by dsimp only;decide)
 | open24 p=>rw [Zbg];exact no (by dsimp only;decide)
 | leave p e hw hw2 o=>rw [Zbg];cases o <;> exact no (by dsimp only;decide)
 | leaveF p e=>rw [Zbg];exact no (by dsimp only;decide)
def ZCs (c:Config) (v v':Vw) (h:Thread) (log:List Mark):Prop :=
 (log=[]/\∀ i,v'.b i 0=v.b i 0)\/(log=ZfL c h (v.b h.item 0)/\v'.b h.item 0=allT c.lo c.hi h.batch (v.b h.item 0)/\∀ i,i≠h.item->v'.b i 0=v.b i 0)
theorem Tr.cells (T:Tr c t v h v' log done) (hy:h.phase=3->h.y=allT c.lo c.hi h.batch h.x) (hn:0<=ZaO c) (hat:h.phase=8\/h.phase=10->ZbT h≠0):ZCs c v v' h log:=by
 have sm:∀ {a b:List Mark},(∀ i,v'.b i 0=v.b i 0)->ZCs c v v' h []:=fun x=>.inl ⟨rfl,x⟩
 have wn:∀ {i m w:Int},m≠0->∀ k,setb v.b i m w k 0=v.b k 0:=fun hm k=>Zdx (fun x=>hm x.2.symm)
 cases T with
 | same p e=>exact .inr ⟨rfl,e.symm,fun i _=>rfl⟩
 | cas p e =>
   refine .inr ⟨by rw [e],?_,fun i hi=>Zdx (fun x=>hi x.1)⟩
   show setb v.b h.item 0 h.y h.item 0=_
   rw [ZfR,hy p,e]
 | take p n e=>exact .inl ⟨rfl,wn (by omega)⟩
 | join p n e=>exact .inl ⟨rfl,wn (by omega)⟩
 | close p a e=>exact .inl ⟨rfl,wn (hat (.inl p))⟩
 | clear p a=>exact .inl ⟨rfl,wn (hat (.inr p))⟩
 | dep p n=>exact .inl ⟨rfl,wn (by omega)⟩
 | swap20 p s w=>exact .inl ⟨rfl,wn (by omega)⟩
 | swap23 p s=>exact .inl ⟨rfl,wn (by omega)⟩
 | nop s=>exact .inl ⟨rfl,fun i=>rfl⟩
 | start p s=>exact .inl ⟨rfl,fun i=>rfl⟩
 | load p=>exact .inl ⟨rfl,fun i=>rfl⟩
 | casF p hw hw2=>exact .inl ⟨rfl,fun i=>rfl⟩
 | on25 p o=>exact .inl ⟨rfl,fun i=>rfl⟩
 | look1 p k=>exact .inl ⟨rfl,fun i=>rfl⟩
 | look0 p=>exact .inl ⟨rfl,fun i=>rfl⟩
 | lookL p=>exact .inl ⟨rfl,fun i=>rfl⟩
 | takeF p=>exact .inl ⟨rfl,fun i=>rfl⟩
 | joinF p=>exact .inl ⟨rfl,fun i=>rfl⟩
 | seeF p a e=>exact .inl ⟨rfl,fun i=>rfl⟩
 | seeD p a k=>exact .inl ⟨rfl,fun i=>rfl⟩
 | closeF p=>exact .inl ⟨rfl,fun i=>rfl⟩
 | takeB p w=>exact .inl ⟨rfl,fun i=>rfl⟩
 | box11 p=>exact .inl ⟨rfl,fun i=>rfl⟩
 | told p e=>exact .inl ⟨rfl,fun i=>rfl⟩
 | res p=>exact .inl ⟨rfl,fun i=>rfl⟩
 | tell1 p a w=>exact .inl ⟨rfl,fun i=>rfl⟩
 | tell2 p a w=>exact .inl ⟨rfl,fun i=>rfl⟩
 | box17 p=>exact .inl ⟨rfl,fun i=>rfl⟩
 | open18 p=>exact .inl ⟨rfl,fun i=>rfl⟩
 | shut20 p e=>exact .inl ⟨rfl,fun i=>rfl⟩
 | shutF p e=>exact .inl ⟨rfl,fun i=>rfl⟩
 | cap21 p w e=>exact .inl ⟨rfl,fun i=>rfl⟩
 | capF p=>exact .inl ⟨rfl,fun i=>rfl⟩
 | absorb p w=>exact .inl ⟨rfl,fun i=>rfl⟩
 | spinF p e=>exact .inl ⟨rfl,fun i=>rfl⟩
 | spinL p e=>exact .inl ⟨rfl,fun i=>rfl⟩
 | spinO p e=>exact .inl ⟨rfl,fun i=>rfl⟩
 | open24 p=>exact .inl ⟨rfl,fun i=>rfl⟩
 | leave p e hw hw2 o=>exact .inl ⟨rfl,fun i=>rfl⟩
 | leaveF p e=>exact .inl ⟨rfl,fun i=>rfl⟩
end
structure LinT (c:Config) (w:Wld) (th:Thread) (ro:Int) (co:Option Int) (j:Int):Prop where
  ex:∃ (k:Nat) (op:Bool) (last:Event),ansL c.lo c.hi j (Zb5 j w.log) (0,false,Zbp) w.hist=some (k,op,last)/\(op=true↔ro≠0) /\
    (op=true->last.op=th.op/\last.item=th.item/\last.kind=1/\last.t=j/\last∈w.hist/\last.step<=w.steps) /\
    (co=none->(Zb5 j w.log).length=k) /\
    (∀ x,co=some x->(Zb5 j w.log).length=k+1/\((Zb5 j w.log).getD k ZaZ).op=th.op/\((Zb5 j w.log).getD k ZaZ).item=th.item/\((Zb5 j w.log).getD k ZaZ).prior=x/\last.step<((Zb5 j w.log).getD k ZaZ).step/\((Zb5 j w.log).getD k ZaZ).step<=w.steps)
structure Lin (c:Config) (w:Wld) (ro:Int->Int) (co:Int->Option Int):Prop where
  ans:∀ j,InT c j->LinT c w ((vw c w.m w.t).th j) (ro j) (co j) j
  cells:∀ i,0<=i->i<c.items->Zey c i c.init w.log=some ((vw c w.m w.t).b i 0)
  srt:w.log.Pairwise (fun a b=>a.step<=b.step)
  steps:∀ m∈w.log,1<=m.step/\m.step<=w.steps
  asked:∀ m∈w.log,∃ h∈w.hist,h.kind=1/\h.t=m.t/\h.item=m.item/\h.op=m.op/\h.step<m.step
  inlog:∀ m∈w.log,InT c m.t/\(0<=m.item/\m.item<c.items)/\Ze9 m.op c.bounded=true/\Num m.op.v
  ehist:∀ h∈w.hist,InT c h.t/\(h.kind=1\/h.kind=2\/h.kind=3)/\h.step<=w.steps/\0<=h.step/\Num h.op.v/\Num h.prior
  may:∀ j,InT c j->ro j≠0->Ze9 ((vw c w.m w.t).th j).op c.bounded=true
  hsrt:w.hist.Pairwise (fun a b=>a.step<=b.step)
section
variable {c:Config} {w:Wld} {n:Nat} {ro pa rt ro' pa' rt':Int->Int} {co co':Int->Option Int} {t:Int}
theorem LinT.skip {th:Thread} {r:Int} {cc:Option Int} {j:Int} (L:LinT c w th r cc j) {w':Wld} {h:Event} (hh:h.t≠j\/h.kind=3) (e1:w'.log=w.log) (e2:w'.hist=w.hist++[h]) (e3:w.steps<=w'.steps):LinT c w' th r cc j:=by
 obtain ⟨k,op,last,a,b,d,f,g⟩:=L.ex
 refine ⟨k,op,last,?_,b,fun x=>?_,by rw [e1];exact f,fun x hx=>?_⟩
 . rw [e1,e2,Zgx a,Zne]
   unfold ansE
   rw [if_pos hh]
 . obtain ⟨d1,d2,d3,d4,d5,d6⟩:=d x
   exact ⟨d1,d2,d3,d4,by rw [e2];exact List.mem_append_left _ d5,by omega⟩
 . rw [e1]
   obtain ⟨g1,g2,g3,g4,g5,g6⟩:=g x hx
   exact ⟨g1,g2,g3,g4,g5,by omega⟩
theorem LinT.same {th:Thread} {r:Int} {cc:Option Int} {j:Int} (L:LinT c w th r cc j) {w':Wld} (e1:Zb5 j w'.log=Zb5 j w.log) (e2:w'.hist=w.hist) (e3:w.steps<=w'.steps):LinT c w' th r cc j:=by
 obtain ⟨k,op,last,a,b,d,f,g⟩:=L.ex
 refine ⟨k,op,last,by rw [e1,e2];exact a,b,fun x=>?_,by rw [e1];exact f,fun x hx=>?_⟩
 . obtain ⟨d1,d2,d3,d4,d5,d6⟩:=d x
   exact ⟨d1,d2,d3,d4,by rw [e2];exact d5,by omega⟩
 . rw [e1]
   obtain ⟨g1,g2,g3,g4,g5,g6⟩:=g x hx
   exact ⟨g1,g2,g3,g4,g5,by omega⟩
theorem Lin.hist_more (Li:Lin c w ro co) {h:Event} (hs:w.steps<=h.step):(w.hist++[h]).Pairwise (fun a b=>a.step<=b.step):=by
 rw [List.pairwise_append]
 refine ⟨Li.hsrt,List.pairwise_singleton _ _,fun a ha b hb=>?_⟩
 rw [List.mem_singleton] at hb
 subst hb
 have:=(Li.ehist a ha).2.2.1
 omega
theorem Lin.invoke (Li:Lin c w ro co) (W:WInv c w n ro pa rt co) (hC:CfgOK c) {e:SEntry} (ht:InT c e.t) (ho:Ze9 e.op c.bounded=true) (hop:Num e.op.v):(¬(w.t.getD e.t.toNat Zax).phase=0->Lin c (invT w e) ro co)/\((w.t.getD e.t.toNat Zax).phase=0->Lin c (invT w e) (seta ro e.t 1) co):=by
 have hth:(vw c w.m w.t).th e.t=w.t.getD e.t.toNat Zax:=Zhv ht
 have hst:=W.steps
 constructor
 . intro hp
   have e0:invT w e={ w with hist:=w.hist++[⟨3,e.t,e.item,e.op,0,false,w.steps⟩] }:=by unfold invT;rw [if_pos hp]
   rw [e0]
   refine ⟨fun j hj=>(Li.ans j hj).skip (.inr rfl) rfl rfl (Int.le_refl _),Li.cells,Li.srt,Li.steps,fun m hm=>?_,Li.inlog,fun h hh=>?_,Li.may,Li.hist_more (Int.le_refl _)⟩
   . obtain ⟨h,h1,h2⟩:=Li.asked m hm
     exact ⟨h,List.mem_append_left _ h1,h2⟩
   . rcases List.mem_append.1 hh with hh | hh
     . exact Li.ehist h hh
     . rw [List.mem_singleton] at hh;subst hh
       exact ⟨ht,.inr (.inr rfl),Int.le_refl _,hst.1,hop,ZbW (show (-1000000:Int)<=0/\(0:Int)<=1000000 by decide)⟩
 . intro hp
   have h0:ro e.t=0:=(W.inv.busy ht).2 (by rw [hth];exact hp)
   have e0:invT w e={ w with t:=w.t.set e.t.toNat (ZgD w.c e.t e.item e.op w.now (w.t.getD e.t.toNat Zax).width),hist:=w.hist++[⟨1,e.t,e.item,e.op,0,false,w.steps⟩] }:=by unfold invT;rw [if_neg (fun x=>x hp)]
   rw [e0]
   obtain ⟨b,hb⟩:∃ b,b=ZgD w.c e.t e.item e.op w.now (w.t.getD e.t.toNat Zax).width:=⟨_,rfl⟩
   rw [<- hb]
   have hvt:(vw c w.m (w.t.set e.t.toNat b)).th=seta (vw c w.m w.t).th e.t b:=by
     rw [Zq4 W.lenT ht];rfl
   refine ⟨fun j hj=>?_,Li.cells,Li.srt,Li.steps,fun m hm=>?_,Li.inlog,fun h hh=>?_,fun j hj hr=>?_,Li.hist_more (Int.le_refl _)⟩
   . show LinT c _ ((vw c w.m (w.t.set e.t.toNat b)).th j) (seta ro e.t 1 j) (co j) j
     rw [hvt]
     by_cases ej:j=e.t
     . rw [ej,Zam,Zam]
       obtain ⟨k,op,last,a,b1,d,f,g⟩:=(Li.ans e.t ht).ex
       have hop:op=false:=by
         cases op with
         | false=>rfl
         | true=>exact (b1.1 rfl h0).elim
       have hct:co e.t=none:=(W.inv.core.k0 e.t h0).1
       refine ⟨k,true,⟨1,e.t,e.item,e.op,0,false,w.steps⟩,?_,⟨fun _=>by decide,fun _=>rfl⟩,fun _=>⟨by rw [hb];rfl,by rw [hb];rfl,rfl,rfl,List.mem_append_right _ (List.mem_singleton.2 rfl),Int.le_refl _⟩,f,fun x hx=>by rw [hct] at hx;cases hx⟩
       rw [Zgx a,Zne,hop]
       unfold ansE
       rw [if_neg (by show ¬(e.t≠e.t\/(1:Int)=3);simp),if_pos rfl,if_neg (show ¬(false=true) by decide)]
     . rw [Zah ej,Zah ej]
       exact (Li.ans j hj).skip (.inl (Ne.symm ej)) rfl rfl (Int.le_refl _)
   . obtain ⟨h,h1,h2⟩:=Li.asked m hm
     exact ⟨h,List.mem_append_left _ h1,h2⟩
   . rcases List.mem_append.1 hh with hh | hh
     . exact Li.ehist h hh
     . rw [List.mem_singleton] at hh;subst hh
       exact ⟨ht,.inl rfl,Int.le_refl _,hst.1,hop,ZbW (show (-1000000:Int)<=0/\(0:Int)<=1000000 by decide)⟩
   . show Ze9 ((vw c w.m (w.t.set e.t.toNat b)).th j).op c.bounded=true
     rw [hvt]
     by_cases ej:j=e.t
     . rw [ej,Zam,hb];exact ho
     . rw [Zah ej] at hr ⊢;exact Li.may j hj hr
theorem Core.inBatch {ba:Int->List Entry} {ks:Int->List Kid} {opf:Int->Op} {it:Int->Int} (C:Core c ba ks opf it ro pa rt co) {r:Int} (hr:ro r=1) (j:Int):(ro j≠0/\co j=none/\rt j=r)↔idxOf (ba r) j<(ba r).length:=by
 obtain ⟨cr,rr⟩:=C.k1 r (by omega)
 constructor
 . rintro ⟨a,b,d⟩
   obtain ⟨_,_,o,hs⟩:=C.k5 j a b
   rw [d] at hs
   obtain ⟨r1,hr1⟩:=C.k3 j a
   have hm:(⟨j,opf j⟩:Entry)∈ba r:=hs.mem (by rw [hr1];exact List.mem_cons_self ..)
   exact ZD2 hm
 . intro h
   unfold idxOf at h
   have h':((ba r).map (·.t)).findIdx (fun t=>t == j)<((ba r).map (·.t)).length:=by rwa [List.length_map]
   have h2:=List.findIdx_getElem (w:=h')
   have h3:j∈(ba r).map (·.t):=by
     rw [<- eq_of_beq h2];exact List.getElem_mem h'
   obtain ⟨e,he,rfl⟩:=List.mem_map.1 h3
   obtain ⟨a,b,d,f,g⟩:=C.k4 r (by omega) cr e he
   exact ⟨a,f,by rw [g,rr]⟩
theorem Lin.pick (Li:Lin c w ro co) (W:WInv c w n ro pa rt co) (hC:CfgOK c) (hlo:Num c.lo) (hhi:Num c.hi) (hn:n<=200000) (hci:Inb c c.init) (ht:InT c t) (hp:(w.t.getD t.toNat Zax).phase≠0) :
   ∃ ro' pa' rt' co',WInv c (Zcq w t (ZaL (Zbb w t))) (n+1) ro' pa' rt' co'/\Lin c (Zcq w t (ZaL (Zbb w t))) ro' co':=by
 obtain ⟨_,ro',pa',rt',co1,W',info,T⟩:=W.pick hC hlo hhi hn ht hp
 refine ⟨ro',pa',rt',_,W',?_⟩
 have hth:(vw c w.m w.t).th t=w.t.getD t.toNat Zax:=Zhv ht
 have hkp:=ZnB (Zbb w t)
 have hL:=W.inv.loc t ht
 have hro:ro t≠0:=by
   intro h0
   have:=(W.inv.busy ht).1 h0
   rw [hth] at this
   exact hp this
 have hop1:(ZaL (Zbb w t)).th.op=(w.t.getD t.toNat Zax).op:=ZwR hkp
 have hit1:(ZaL (Zbb w t)).th.item=(w.t.getD t.toNat Zax).item:=ZAg hkp
 obtain ⟨u,hu⟩:∃ u,u=ZaL (Zbb w t):=⟨_,rfl⟩
 rw [<- hu] at W' info T hop1 hit1 ⊢
 have hst:=W.steps
 have hs:Zed w=w.steps+1:=by unfold Zed;rw [Zaz (by omega) (by omega)]
 have hvth:(vw c (Zcq w t u).m (Zcq w t u).t).th=seta (vw c w.m w.t).th t u.th:=by
   show vwT c (w.t.set t.toNat u.th)=_
   rw [ZzR W.lenT ht];rfl
 have hidle:=T.idle hth hp
 rw [hvth,Zam] at hidle
 have hcells:=T.cells (fun p=>by rw [<- hth] at p ⊢;exact hL.y p) (ZbI c).1 (fun p=>by
   rw [<- hth] at p ⊢
   have ha:=hL.ari.2.2.2.2.2.2.1 (by omega)
   have:=(W.inv.nodes t ht).1 _ (Zg6 (by omega) ha)
   omega)
 have hbz:∀ j,InT c j->j≠t->(ro' j=0↔ro j=0):=by
   intro j hj hjt
   rw [W'.inv.busy hj,W.inv.busy hj,hvth,Zah hjt]
 have hbt:ro' t=0↔u.done=true:=by
   rw [W'.inv.busy ht,hvth,Zam];exact hidle
 obtain ⟨co',hco'⟩:∃ co',co'=if u.done=true then seta co1 t none else co1:=⟨_,rfl⟩
 rw [<- hco'] at W' ⊢
 have hcoj:∀ j,j≠t->co' j=co1 j:=by
   intro j hj;rw [hco'];split
   . rw [Zah hj]
   . rfl
 obtain ⟨ms,hms⟩:∃ ms,ms=u.log.map (ZcJ (Zed w)):=⟨_,rfl⟩
 have hlog:(Zcq w t u).log=w.log++ms:=by rw [hms];rfl
 have hsteps:(Zcq w t u).steps=w.steps+1:=hs
 have own:∀ j,InT c j->∃ (k:Nat) (op:Bool) (last:Event),ansL c.lo c.hi j (Zb5 j (w.log++ms)) (0,false,Zbp) w.hist=some (k,op,last)/\(op=true↔ro j≠0) /\
     (op=true->last.op=((vw c w.m w.t).th j).op/\last.item=((vw c w.m w.t).th j).item/\last.kind=1/\last.t=j/\last∈w.hist/\last.step<=w.steps) /\
     (co1 j=none->(Zb5 j (w.log++ms)).length=k) /\
     (∀ x,co1 j=some x->(Zb5 j (w.log++ms)).length=k+1/\((Zb5 j (w.log++ms)).getD k ZaZ).op=((vw c w.m w.t).th j).op/\((Zb5 j (w.log++ms)).getD k ZaZ).item=((vw c w.m w.t).th j).item/\((Zb5 j (w.log++ms)).getD k ZaZ).prior=x/\last.step<((Zb5 j (w.log++ms)).getD k ZaZ).step/\((Zb5 j (w.log++ms)).getD k ZaZ).step<=w.steps+1):=by
   intro j hj
   obtain ⟨k,op,last,a,b,d,f,g⟩:=(Li.ans j hj).ex
   rcases info.1 with ⟨e1,e2⟩ | ⟨hr1,e1,e2⟩
   . have:ms=[]:=by rw [hms,e1];rfl
     rw [this,List.append_nil,e2]
     exact ⟨k,op,last,a,b,d,f,fun x hx=>by obtain ⟨g1,g2,g3,g4,g5,g6⟩:=g x hx;exact ⟨g1,g2,g3,g4,g5,by omega⟩⟩
   . have hmo:Zb5 j ms=if idxOf ((vw c w.m w.t).th t).batch j<((vw c w.m w.t).th t).batch.length then [⟨j,((vw c w.m w.t).th t).item,(((vw c w.m w.t).th t).batch.getD (idxOf ((vw c w.m w.t).th t).batch j) ⟨0,⟨0,0⟩⟩).op,allT c.lo c.hi (((vw c w.m w.t).th t).batch.take (idxOf ((vw c w.m w.t).th t).batch j)) ((vw c w.m w.t).b ((vw c w.m w.t).th t).item 0),Zed w⟩] else []:=by
       rw [hms,e1]
       exact ZsC _ _ j _ _ (W.inv.core.nod t hro)
     have hib:=W.inv.core.inBatch hr1 j
     rw [Zya,hmo]
     by_cases hlt:idxOf ((vw c w.m w.t).th t).batch j<((vw c w.m w.t).th t).batch.length
     . obtain ⟨q1,q2,q3⟩:=hib.2 hlt
       have hf:=f q2
       have hc1:co1 j=some (allT c.lo c.hi (((vw c w.m w.t).th t).batch.take (idxOf ((vw c w.m w.t).th t).batch j)) ((vw c w.m w.t).b ((vw c w.m w.t).th t).item 0)):=by
         rw [e2];exact if_pos ⟨q1,q2,q3⟩
       have hd:=d (b.2 q1)
       have hget:(((vw c w.m w.t).th t).batch.getD (idxOf ((vw c w.m w.t).th t).batch j) ⟨0,⟨0,0⟩⟩)∈((vw c w.m w.t).th t).batch:=by
         rw [List.getD_eq_getElem?_getD,List.getElem?_eq_getElem hlt];exact List.getElem_mem hlt
       have hgt:(((vw c w.m w.t).th t).batch.getD (idxOf ((vw c w.m w.t).th t).batch j) ⟨0,⟨0,0⟩⟩).t=j:=by
         rw [List.getD_eq_getElem?_getD,List.getElem?_eq_getElem hlt]
         have h':(((vw c w.m w.t).th t).batch.map (·.t)).findIdx (fun t=>t == j)<(((vw c w.m w.t).th t).batch.map (·.t)).length:=by rw [List.length_map];exact hlt
         have h2:=List.findIdx_getElem (w:=h')
         have:=eq_of_beq h2
         rw [List.getElem_map] at this
         exact this
       have hk4:=W.inv.core.k4 t hro (W.inv.core.k1 t (by omega)).1 _ hget
       rw [hgt] at hk4
       rw [if_pos hlt]
       refine ⟨k,op,last,Zst a,b,d,fun x=>(by rw [hc1] at x;cases x),fun x hx=>?_⟩
       rw [hc1] at hx
       have hx:=Option.some.inj hx
       have hg:(Zb5 j w.log++[(⟨j,((vw c w.m w.t).th t).item,(((vw c w.m w.t).th t).batch.getD (idxOf ((vw c w.m w.t).th t).batch j) ⟨0,⟨0,0⟩⟩).op,allT c.lo c.hi (((vw c w.m w.t).th t).batch.take (idxOf ((vw c w.m w.t).th t).batch j)) ((vw c w.m w.t).b ((vw c w.m w.t).th t).item 0),Zed w⟩:Mark)]).getD k ZaZ=⟨j,((vw c w.m w.t).th t).item,(((vw c w.m w.t).th t).batch.getD (idxOf ((vw c w.m w.t).th t).batch j) ⟨0,⟨0,0⟩⟩).op,allT c.lo c.hi (((vw c w.m w.t).th t).batch.take (idxOf ((vw c w.m w.t).th t).batch j)) ((vw c w.m w.t).b ((vw c w.m w.t).th t).item 0),Zed w⟩:=by
         rw [List.getD_eq_getElem?_getD,List.getElem?_append_right (by omega),hf,Nat.sub_self];rfl
       rw [hg]
       refine ⟨by rw [List.length_append,hf];rfl,hk4.2.1.symm,hk4.2.2.1.symm,hx,?_,?_⟩
       . show last.step<Zed w
         rw [hs];omega
       . show Zed w<=w.steps+1
         rw [hs];exact Int.le_refl _
     . rw [if_neg hlt,List.append_nil]
       have hc1:co1 j=co j:=by rw [e2];exact if_neg (fun x=>hlt (hib.1 x))
       rw [hc1]
       exact ⟨k,op,last,a,b,d,f,fun x hx=>by obtain ⟨g1,g2,g3,g4,g5,g6⟩:=g x hx;exact ⟨g1,g2,g3,g4,g5,by omega⟩⟩
 have hmst:∀ m∈ms,m.step=w.steps+1:=by
   intro m hm
   rw [hms] at hm
   obtain ⟨m0,_,rfl⟩:=List.mem_map.1 hm
   exact hs
 have hment:∀ m∈ms,∃ e∈((vw c w.m w.t).th t).batch,ro t=1/\m.t=e.t/\m.op=e.op/\m.item=((vw c w.m w.t).th t).item:=by
   intro m hm
   rw [hms] at hm
   obtain ⟨m0,hm0,rfl⟩:=List.mem_map.1 hm
   rcases info.1 with ⟨e1,_⟩ | ⟨hr1,e1,_⟩
   . rw [e1] at hm0;cases hm0
   . rw [e1] at hm0
     unfold ZfL at hm0
     obtain ⟨i,hi,hg⟩:=List.mem_iff_getElem.1 hm0
     rw [List.getElem_zipWith] at hg
     rw [List.length_zipWith] at hi
     exact ⟨((vw c w.m w.t).th t).batch[i]'(by omega),List.getElem_mem _,hr1,by rw [<- hg];rfl,by rw [<- hg];rfl,by rw [<- hg];rfl⟩
 have hk4m:∀ m∈ms,InT c m.t/\ro m.t≠0/\((vw c w.m w.t).th m.t).op=m.op/\((vw c w.m w.t).th m.t).item=m.item:=by
   intro m hm
   obtain ⟨e,he,hr1,a,b,d⟩:=hment m hm
   have hk:=W.inv.core.k4 t hro (W.inv.core.k1 t (by omega)).1 e he
   rw [a,b,d]
   exact ⟨W.inv.core.ent t hro e he,hk.1,hk.2.1,hk.2.2.1⟩
 have hopt:((vw c w.m w.t).th t).op=u.th.op:=by rw [hop1,hth]
 have hitt:((vw c w.m w.t).th t).item=u.th.item:=by rw [hit1,hth]
 refine ⟨fun j hj=>?_,fun i h0 h1=>?_,?_,fun m hm=>?_,fun m hm=>?_,fun m hm=>?_,fun h hh=>?_,fun j hj hr=>?_,?_⟩
 . rw [hvth]
   obtain ⟨k,op,last,a,b,d,f,g⟩:=own j hj
   by_cases ej:j=t
   . rw [ej] at a b d f g hj ⊢
     rw [Zam]
     have hopen:op=true:=b.2 hro
     obtain ⟨d1,d2,d3,d4,d5,d6⟩:=d hopen
     cases hd:u.done with
     | false =>
       have hh:(Zcq w t u).hist=w.hist:=by show (if u.done=true then _ else _)=_;rw [hd];rfl
       have hct:co' t=co1 t:=by rw [hco',hd];rfl
       refine ⟨k,op,last,by rw [hlog,hh];exact a,⟨fun _ x=>?_,fun _=>hopen⟩,fun _=>⟨by rw [<- hopt];exact d1,by rw [<- hitt];exact d2,d3,d4,by rw [hh];exact d5,by rw [hsteps];omega⟩,fun x=>?_,fun x hx=>?_⟩
       . have:=hbt.1 x;rw [hd] at this;cases this
       . rw [hlog];exact f (by rw [<- hct];exact x)
       . rw [hlog,hsteps]
         have:=g x (by rw [<- hct];exact hx)
         rw [hopt,hitt] at this
         exact this
     | true =>
       have hh:(Zcq w t u).hist=w.hist++[Zke w t u]:=by show (if u.done=true then _ else _)=_;rw [hd];rfl
       have hc1:co1 t=some u.th.x:=by
         have:=info.2 hd
         rw [hvth,Zam] at this
         exact this
       have hct:co' t=none:=by rw [hco',hd,if_pos rfl,Zam]
       obtain ⟨g1,g2,g3,g4,g5,g6⟩:=g _ hc1
       have hfit:Fits c.lo c.hi (Zb5 t (w.log++ms)) k last (Zke w t u):=by
         refine ⟨by omega,by rw [g2,hopt];rfl,by rw [g3,hitt];rfl,g4,?_,by rw [d1,hopt];rfl,by rw [d2,hitt];rfl,g5,?_⟩
         . show (App u.th.op u.th.x w.c.lo w.c.hi).2=(App u.th.op u.th.x c.lo c.hi).2
           rw [W.cE]
         . show _<=Zed w
           rw [hs];exact g6
       refine ⟨k+1,false,last,?_,⟨fun x=>(by cases x),fun x=>(x (hbt.2 hd)).elim⟩,fun x=>(by cases x),fun _=>?_,fun x hx=>by rw [hct] at hx;cases hx⟩
       . rw [hlog,hh,Zgx a,Zne]
         unfold ansE
         rw [if_neg (by show ¬(t≠t\/(2:Int)=3);simp),if_neg (by show ¬(2:Int)=1;decide),if_pos ⟨hopen,hfit⟩]
       . rw [hlog];exact g1
   . rw [Zah ej,hcoj j ej]
     have hskip:ansL c.lo c.hi j (Zb5 j (Zcq w t u).log) (0,false,Zbp) (Zcq w t u).hist=some (k,op,last):=by
       rw [hlog]
       show ansL c.lo c.hi j (Zb5 j (w.log++ms)) (0,false,Zbp) (if u.done=true then w.hist++[Zke w t u] else w.hist)=_
       split
       . rw [Zgx a,Zne]
         unfold ansE
         rw [if_pos (.inl (by show t≠j;exact Ne.symm ej))]
       . exact a
     have hb:=hbz j hj ej
     refine ⟨k,op,last,hskip,⟨fun x=>fun y=>b.1 x (hb.1 y),fun x=>b.2 (fun y=>x (hb.2 y))⟩,fun x=>?_,fun x=>by rw [hlog];exact f x,fun x hx=>by rw [hlog,hsteps];exact g x hx⟩
     obtain ⟨d1,d2,d3,d4,d5,d6⟩:=d x
     refine ⟨d1,d2,d3,d4,?_,by rw [hsteps];omega⟩
     show last∈(if u.done=true then w.hist++[Zke w t u] else w.hist)
     split
     . exact List.mem_append_left _ d5
     . exact d5
 . rw [hlog]
   have old:=Li.cells i h0 h1
   rw [Zlr old]
   have hCin:Inb c ((vw c w.m w.t).b i 0):=Zqb old hci
   have hnx:=W.inv.num.1 i 0
   rcases hcells with ⟨e1,e2⟩ | ⟨e1,e2,e3⟩
   . rw [hms,e1]
     show some _=some _
     rw [e2 i]
   . by_cases ei:i=(w.t.getD t.toNat Zax).item
     . have hr1:ro t=1:=by
         rcases info.1 with ⟨x,_⟩ | ⟨x,_,_⟩
         . exfalso
           rw [x] at e1
           have hb:=W.inv.core.k3 t hro
           obtain ⟨r,hb⟩:=hb
           have hb:((vw c w.m w.t).th t).batch=⟨t,((vw c w.m w.t).th t).op⟩::r:=hb
           rw [hth] at hb
           unfold ZfL at e1
           rw [hb] at e1
           cases e1
         . exact x
       rw [hms,e1,ei,e2]
       unfold ZfL
       rw [<- ei]
       have:=Zqi hlo i (Zed w) (w.t.getD t.toNat Zax).batch ((vw c w.m w.t).b i 0) hnx hCin (fun e he=>by
         rw [<- hth] at he
         have hk:=W.inv.core.k4 t hro (W.inv.core.k1 t (by omega)).1 e he
         refine ⟨hL.ops (by rw [hth];exact hp) e he,?_⟩
         have:=Li.may e.t (W.inv.core.ent t hro e he) hk.1
         have h2:((vw c w.m w.t).th e.t).op=e.op:=hk.2.1
         rwa [h2] at this)
       exact this
     . rw [hms,e1,e3 i ei]
       exact Zpj (Ne.symm ei) _ (fun _ _=>rfl) _ _ _
 . rw [hlog,List.pairwise_append]
   refine ⟨Li.srt,?_,fun a ha b hb=>?_⟩
   . rw [List.pairwise_iff_getElem]
     intro i j hi hj _
     rw [hmst _ (List.getElem_mem hi),hmst _ (List.getElem_mem hj)]
     exact Int.le_refl _
   . rw [hmst b hb]
     have:=(Li.steps a ha).2
     omega
 . rw [hsteps]
   rw [hlog] at hm
   rcases List.mem_append.1 hm with hm | hm
   . have:=Li.steps m hm;omega
   . rw [hmst m hm];omega
 . rw [hlog] at hm
   have hsub:∀ h∈w.hist,h∈(Zcq w t u).hist:=by
     intro h hh
     show h∈(if u.done=true then w.hist++[Zke w t u] else w.hist)
     split
     . exact List.mem_append_left _ hh
     . exact hh
   rcases List.mem_append.1 hm with hm | hm
   . obtain ⟨h,h1,h2⟩:=Li.asked m hm
     exact ⟨h,hsub h h1,h2⟩
   . obtain ⟨q1,q2,q3,q4⟩:=hk4m m hm
     obtain ⟨k,op,last,a,b,d,_,_⟩:=(Li.ans m.t q1).ex
     obtain ⟨d1,d2,d3,d4,d5,d6⟩:=d (b.2 q2)
     exact ⟨last,hsub _ d5,d3,d4,by rw [d2,q4],by rw [d1,q3],by rw [hmst m hm];omega⟩
 . rw [hlog] at hm
   rcases List.mem_append.1 hm with hm | hm
   . exact Li.inlog m hm
   . obtain ⟨q1,q2,q3,q4⟩:=hk4m m hm
     have hLm:=W.inv.loc m.t q1
     have hpm:((vw c w.m w.t).th m.t).phase≠0:=fun x=>q2 ((W.inv.busy q1).2 x)
     refine ⟨q1,by rw [<- q4];exact hLm.item hpm,by rw [<- q3];exact Li.may m.t q1 q2,?_⟩
     obtain ⟨e,he,_,_,b,_⟩:=hment m hm
     rw [b]
     exact hL.ops (by rw [hth];exact hp) e he
 . have hh:h∈(if u.done=true then w.hist++[Zke w t u] else w.hist):=hh
   rw [hsteps]
   have old:h∈w.hist->_:=fun hh=>Li.ehist h hh
   split at hh
   . rcases List.mem_append.1 hh with hh | hh
     . have:=old hh;exact ⟨this.1,this.2.1,by omega,this.2.2.2⟩
     . rw [List.mem_singleton] at hh;subst hh
       refine ⟨ht,.inr (.inl rfl),by show Zed w<=_;rw [hs];exact Int.le_refl _,by show 0<=Zed w;rw [hs];omega,?_,?_⟩
       . show Num u.th.op.v
         obtain ⟨r,hb⟩:=W.inv.core.k3 t hro
         have hb:((vw c w.m w.t).th t).batch=⟨t,((vw c w.m w.t).th t).op⟩::r:=hb
         have:=hL.ops (by rw [hth];exact hp) ⟨t,((vw c w.m w.t).th t).op⟩ (by rw [hb];exact List.mem_cons_self ..)
         rw [<- hopt];exact this
       . show Num u.th.x
         have:=(W'.inv.loc t ht).nx
         rw [hvth,Zam] at this
         exact this
   . have:=old hh;exact ⟨this.1,this.2.1,by omega,this.2.2.2⟩
 . rw [hvth]
   by_cases ej:j=t
   . rw [ej,Zam,hop1,<- hth];exact Li.may t ht hro
   . rw [Zah ej];exact Li.may j hj (fun x=>hr ((hbz j hj ej).2 x))
 . show (if u.done=true then w.hist++[Zke w t u] else w.hist).Pairwise _
   split
   . exact Li.hist_more (by show w.steps<=Zed w;rw [hs];omega)
   . exact Li.hsrt
theorem Lin.entry (Li:Lin c w ro co) (W:WInv c w n ro pa rt co) (hC:CfgOK c) (hlo:Num c.lo) (hhi:Num c.hi) (hn:n<=200000) (hci:Inb c c.init) {e:SEntry} (he:Zbn c e=0) (hop:Num e.op.v) :
   ∃ ro' pa' rt' co',WInv c (Zch w e) (n+1) ro' pa' rt' co'/\Lin c (Zch w e) ro' co':=by
 have hE:=(W.entry hC hlo hhi hn he hop).2
 rcases Znl he with ⟨k,ht,hi,ho⟩ | ⟨k,ht⟩ | k
 . unfold Zch
   rw [if_pos k]
   have hI:=Li.invoke W hC ht ho hop
   by_cases hp:(w.t.getD e.t.toNat Zax).phase=0
   . have h2:=hI.2 hp
     have hth:(vw c w.m w.t).th e.t=w.t.getD e.t.toNat Zax:=Zhv ht
     have hl:=W.log;have hh:=W.hist;have hst:=W.steps;have hnw:=W.now
     refine ⟨seta ro e.t 1,pa,seta rt e.t e.t,co,?_,h2⟩
     have hv:=W.inv.invoke hC ht (by rw [hth];exact hp) (i:=e.item) (op:=e.op) (now:=w.now) (wd:=(w.t.getD e.t.toNat Zax).width) hi hop (by rw [hth])
     unfold invT
     rw [if_neg (fun x=>x hp)]
     refine ⟨W.cE,?_,W.lenW,W.lenB,W.tape,?_,?_,?_,?_,?_⟩
     . show ((w.t.set _ _).length:Int)=_
       rw [List.length_set];exact W.lenT
     . show w.log.length<=_;omega
     . show (w.hist++[_]).length<=_
       rw [List.length_append,List.length_singleton];omega
     . show 0<=w.steps/\w.steps<=((n+1:Nat):Int);omega
     . show 0<=w.now/\w.now<=((n+1:Nat):Int);omega
     . show Inv c (vw c w.m (w.t.set _ _)) _ _ _ _
       rw [Zq4 W.lenT ht,W.cE]
       exact hv
   . have h2:=hI.1 hp
     have hl:=W.log;have hh:=W.hist;have hst:=W.steps;have hnw:=W.now
     refine ⟨ro,pa,rt,co,?_,h2⟩
     unfold invT
     rw [if_pos hp]
     refine ⟨W.cE,W.lenT,W.lenW,W.lenB,W.tape,?_,?_,?_,?_,W.inv⟩
     . show w.log.length<=_;omega
     . show (w.hist++[_]).length<=_
       rw [List.length_append,List.length_singleton];omega
     . show 0<=w.steps/\w.steps<=((n+1:Nat):Int);omega
     . show 0<=w.now/\w.now<=((n+1:Nat):Int);omega
 . unfold Zch
   rw [if_neg (show ¬e.kind=1 by omega),if_pos k]
   have hl:=W.log;have hh:=W.hist;have hst:=W.steps;have hnw:=W.now
   by_cases hp:(w.t.getD e.t.toNat Zax).phase=0
   . rw [if_pos hp]
     exact ⟨ro,pa,rt,co,⟨W.cE,W.lenT,W.lenW,W.lenB,W.tape,by omega,by omega,by omega,by omega,W.inv⟩,Li⟩
   . rw [if_neg hp]
     exact Li.pick W hC hlo hhi hn hci ht hp
 . have hl:=W.log;have hh:=W.hist;have hst:=W.steps;have hnw:=W.now
   unfold Zch
   rw [if_neg (show ¬e.kind=1 by omega),if_neg (show ¬e.kind=2 by omega),if_pos k]
   refine ⟨ro,pa,rt,co,⟨W.cE,W.lenT,W.lenW,W.lenB,W.tape,?_,?_,?_,?_,W.inv⟩,⟨fun j hj=>(Li.ans j hj).same rfl rfl (Int.le_refl _),Li.cells,Li.srt,Li.steps,Li.asked,Li.inlog,Li.ehist,Li.may,Li.hsrt⟩⟩
   . show w.log.length<=_;omega
   . show w.hist.length<=_;omega
   . show 0<=w.steps/\w.steps<=((n+1:Nat):Int);omega
   . show 0<=Zaf .i64 (w.now+1)/\Zaf .i64 (w.now+1)<=((n+1:Nat):Int)
     rw [Zaz (by omega) (by omega)];omega
theorem Lin.entries (hC:CfgOK c) (hlo:Num c.lo) (hhi:Num c.hi) (hci:Inb c c.init):∀ {l:List SEntry} {w:Wld} {n:Nat} {ro pa rt:Int->Int} {co:Int->Option Int},WInv c w n ro pa rt co->Lin c w ro co->n+l.length<=200000->(∀ e∈l,Zbn c e=0/\Num e.op.v) ->
   ∃ ro' pa' rt' co',WInv c (l.foldl Zch w) (n+l.length) ro' pa' rt' co'/\Lin c (l.foldl Zch w) ro' co'
 | [],w,n,ro,pa,rt,co,W,Li,_,_=>⟨ro,pa,rt,co,W,Li⟩
 | e :: l, w, n, ro, pa, rt, co, W, Li, hn, he => by
   rw [List.length_cons] at hn
   obtain ⟨ro',pa',rt',co',W',Li'⟩:=Li.entry W hC hlo hhi (by omega) hci (he e (List.mem_cons_self ..)).1 (he e (List.mem_cons_self ..)).2
   have:=Lin.entries hC hlo hhi hci W' Li' (by omega) (fun x hx=>he x (List.mem_cons_of_mem _ hx))
   rw [List.length_cons,show n+(l.length+1)=n+1+l.length by omega]
   exact this
theorem ZAp (hC:CfgOK c) (hci:Num c.init) {d:List Int}:Lin c (newW c d) (fun _=>0) (fun _=>none):=by
 have hth:=hC.threads
 have hit:=hC.items
 refine ⟨fun j hj=>⟨0,false,Zbp,rfl,⟨fun x=>(by cases x),fun x=>(x rfl).elim⟩,fun x=>(by cases x),fun _=>rfl,fun x hx=>(by cases hx)⟩,fun i h0 h1=>?_,List.Pairwise.nil,fun m hm=>(by cases hm),fun m hm=>(by cases hm),fun m hm=>(by cases hm),fun h hh=>(by cases hh),fun j _ h=>(h rfl).elim,List.Pairwise.nil⟩
 show some c.init=some (vwB c (ZcV c).words i 0)
 have hb:=Zc2 hC
 unfold vwB
 rw [if_pos ⟨⟨h0,h1⟩,Int.le_refl 0,by omega⟩]
 rw [(ZoA (t:=0) (i:=0) hC hci ⟨by omega,by omega⟩ ⟨by omega,by omega⟩).cells i h0 h1]
end
end Go.Proofs.Mill
/- Any script, run. -/
namespace Go.Proofs.Mill
theorem ZzO {e:SEntry} (h:Ty.Ok .sentry e):Num e.op.v:=by
 have:=h (.int .i64 e.op.v) (by simp [Ty.enc,ZlM])
 cases this with
 | int h=>exact Zuk h
theorem ZwL {l:List SEntry} (h:(Zau .sentry).Ok l):∀ e∈l,Num e.op.v:=fun e he=>ZzO (h.2 e he)
def ZyK:Wld:=Wld.mk (Config.mk (0:Int) (0:Int) (0:Int) (0:Int) (0:Int) (0:Int) (0:Int) (0:Int) false (0:Int) (0:Int) (0:Int)) (Memo.mk ([]:List Int) ([]:List (List Entry))) ([]:List Thread) (0:Int) (0:Int) (Tape.mk ([]:List Int) (0:Int)) ([]:List Mark) ([]:List Event)
theorem Zza {c:Config} {l:List SEntry} (h:(allE c l).2=0):CfgOK c/\l.length<=65536/\∀ e∈l,Zbn c e=0:=by
 obtain ⟨e,he,hE⟩:=Zie c
 unfold allE at h
 rw [he,Option.getD_some] at h
 by_cases h0:e≠0
 . rw [if_pos h0] at h;exact (h0 h).elim
 rw [if_neg h0] at h
 have h0:=Classical.not_not.1 h0
 by_cases h1:l.length>65536
 . rw [if_pos h1] at h;exact absurd h (by decide)
 rw [if_neg h1] at h
 refine ⟨hE.1 h0,by omega,?_⟩
 cases hb:Zeu c 0 l with
 | none=>exact ZsW hb
 | some y =>
   rw [hb] at h
   have key:∀ (l:List SEntry) (i:Nat),Zeu c i l=some y->y.2≠0:=by
     intro l
     induction l with
     | nil=>intro i h;cases h
     | cons e l ih =>
       intro i h
       unfold Zeu at h
       by_cases g:Zbn c e=0
       . rw [if_pos g] at h;exact ih _ h
       . rw [if_neg g] at h;rw [<- Option.some.inj h];exact g
   exact (key l 0 hb h).elim
theorem ZC1 {c:Config} {l:List SEntry} {d:List Int} (hc:Num c.init/\Num c.lo/\Num c.hi) (hl:∀ e∈l,Num e.op.v) (hd:d.length<=4294967296) :
   (Zfu c l d=some (ZyK,allE c l)/\(allE c l).2≠0) \/
   (Zfu c l d=some (l.foldl Zch (newW c d),0,0)/\allE c l=(0,0)/\CfgOK c/\l.length<=65536/\(∀ e∈l,Zbn c e=0)/\∃ ro pa rt co,WInv c (l.foldl Zch (newW c d)) l.length ro pa rt co/\Lin c (l.foldl Zch (newW c d)) ro co):=by
 by_cases h:(allE c l).2=0
 . obtain ⟨hC,h1,h2⟩:=Zza h
   have hB:Inb c c.init:=fun hb=>hC.bounds hb
   have hW:=ZtY hC hc.1 hd
   have hE:=WInv.entries hC hc.2.1 hc.2.2 hW (l:=l) (by omega) (fun e he=>⟨h2 e he,hl e he⟩)
   obtain ⟨ro,pa,rt,co,w1,w2⟩:=Lin.entries hC hc.2.1 hc.2.2 hB hW (ZAp hC hc.1 (d:=d)) (l:=l) (by omega) (fun e he=>⟨h2 e he,hl e he⟩)
   rw [Nat.zero_add] at w1
   exact .inr ⟨Zz2 hC h1 h2 hd hE.1,Zxf hC h1 h2,hC,h1,h2,ro,pa,rt,co,w1,w2⟩
 . refine .inl ⟨?_,h⟩
   unfold Zfu
   rw [show Zh8 (c,l)=some (allE c l) from Zrv c l]
   simp only []
   rw [Zf8 h]
   rfl
end Go.Proofs.Mill
/- Worlds as the references have them, and alike (law17). -/
namespace Go.Proofs.Mill
theorem ZnD (l:List Entry) (h:l.length<=4294967296):ZfB l=some l:=by
 have hw:Zj9 (l,[],0)=some l:=by
   refine ZbS (fun i=>(l,l.take i,(i:Int))) l.length (fun i hi=>?_) ?_
   . have h1:(i:Int)<(l.length:Int):=by omega
     have h2:fewB (i+1)=true:=Zbj (by omega)
     have h3:min i l.length=i:=by omega
     simp only [ZdL,Zgs,Zaw,if_pos h1,if_pos (Int.natCast_nonneg i),List.length_take,List.length_cons,List.length_nil,h3,h2,cond_true,Int.toNat_natCast]
     rw [Zel l _ i hi,Zaz (by omega) (by omega)]
     rfl
   . simp [ZdL,Zgs]
 simp only [ZfB,hw]
theorem ZuL (m:Memo) (h:m.boxes.length<=4294967296) (hb:∀ b∈m.boxes,b.length<=4294967296):ZiE m=some m:=by
 have hw:Zlb (m,⟨[],[]⟩,{ m with boxes:=[] },0)=some (⟨[],[]⟩,m):=by
   refine ZbS (fun i=>(m,(⟨[],[]⟩:Memo),{ m with boxes:=m.boxes.take i },(i:Int))) m.boxes.length (fun i hi=>?_) ?_
   . have h1:(i:Int)<(m.boxes.length:Int):=by omega
     have h2:fewB (i+1)=true:=Zbj (by omega)
     have h3:min i m.boxes.length=i:=by omega
     have h4:ZfB (m.boxes.getD i ([]:List Entry))=some (m.boxes.getD i ([]:List Entry)):=by
       refine ZnD _ (hb _ ?_)
       rw [List.getD_eq_getElem?_getD,List.getElem?_eq_getElem hi,Option.getD_some]
       exact List.getElem_mem hi
     simp only [Zd0,ZgY,Zer,Zaw,if_pos h1,if_pos (Int.natCast_nonneg i),List.length_take,List.length_cons,List.length_nil,h3,h2,cond_true,Int.toNat_natCast,h4]
     rw [Zel m.boxes _ i hi,Zaz (by omega) (by omega)]
     rfl
   . simp [Zd0,ZgY]
 simp only [ZiE]
 rw [show (Memo.mk ([]:List Int) ([]:List (List Entry)))=⟨[],[]⟩ from rfl]
 simp only [hw]
theorem Zwz (t:Thread) (h:t.kids.length<=4294967296) (hb:t.batch.length<=4294967296):Zj0 t=some t:=by
 have hw:∀ z:Thread,ZlG (t,z,{ t with kids:=[] },0)=some (z,t):=by
   intro z
   refine ZbS (fun i=>(t,z,{ t with kids:=t.kids.take i },(i:Int))) t.kids.length (fun i hi=>?_) ?_
   . have h1:(i:Int)<(t.kids.length:Int):=by omega
     have h2:fewB (i+1)=true:=Zbj (by omega)
     have h3:min i t.kids.length=i:=by omega
     simp only [Zep,ZhR,Zaw,if_pos h1,if_pos (Int.natCast_nonneg i),List.length_take,List.length_cons,List.length_nil,h3,h2,cond_true,Int.toNat_natCast]
     rw [Zel t.kids _ i hi,Zaz (by omega) (by omega)]
     rfl
   . simp [Zep,ZhR]
 simp only [Zj0,Zer,ZnD _ hb]
 have:=hw (Thread.mk (0:Int) (0:Int) (Op.mk (0:Int) (0:Int)) ([]:List Entry) ([]:List Kid) ([]:List Int) (0:Int) (0:Int) (0:Int) (0:Int) (0:Int) (0:Int) (0:Int) (0:Int) (0:Int) (0:Int))
 split
 . rename_i y e
   have e2:=this.symm.trans e
   obtain rfl:=Option.some.inj e2
   rfl
 . rename_i e
   have e2:=this.symm.trans e
   cases e2
theorem ZwO (l:List Mark) (h:l.length<=4294967296):ZjL l=some l:=by
 have hw:ZlF (l,[],0)=some l:=by
   refine ZbS (fun i=>(l,l.take i,(i:Int))) l.length (fun i hi=>?_) ?_
   . have h1:(i:Int)<(l.length:Int):=by omega
     have h2:fewB (i+1)=true:=Zbj (by omega)
     have h3:min i l.length=i:=by omega
     simp only [Zeo,Zig,Zaw,if_pos h1,if_pos (Int.natCast_nonneg i),List.length_take,List.length_cons,List.length_nil,h3,h2,cond_true,Int.toNat_natCast]
     rw [Zel l _ i hi,Zaz (by omega) (by omega)]
     rfl
   . simp [Zeo,Zig]
 simp only [ZjL,hw]
theorem Zsp (l:List Int) (h:l.length<=4294967296):Zle l l=some true:=by
 have hw:ZmC (l,l,0)=some (.inl ()):=by
   refine ZbS (fun i=>(l,l,(i:Int))) l.length (fun i hi=>?_) ?_
   . have h1:(i:Int)<(l.length:Int):=by omega
     simp only [ZeI,Zim,Zaw,if_pos h1,if_pos (Int.natCast_nonneg i),bne_self_eq_false,cond_false]
     rw [Zaz (by omega) (by omega)]
     rfl
   . simp [ZeI,Zim]
 simp only [Zle,bne_self_eq_false,cond_false,hw]
theorem ZsF (l:List Entry) (h:l.length<=4294967296):Zhj l l=some true:=by
 have hw:Zmn (l,l,0)=some (.inl ()):=by
   refine ZbS (fun i=>(l,l,(i:Int))) l.length (fun i hi=>?_) ?_
   . have h1:(i:Int)<(l.length:Int):=by omega
     simp only [ZeF,Ziy,Zaw,if_pos h1,if_pos (Int.natCast_nonneg i),beq_self_eq_true,Bool.and_self,Bool.not_true,cond_false]
     rw [Zaz (by omega) (by omega)]
     rfl
   . simp [ZeF,Ziy]
 simp only [Zhj,bne_self_eq_false,cond_false,hw]
theorem ZA1 (m:Memo) (h:m.words.length<=4294967296) (h2:m.boxes.length<=4294967296) (hb:∀ b∈m.boxes,b.length<=4294967296):ZkS m m=some true:=by
 have hw:Zmu (m,m,0)=some (.inl ()):=by
   refine ZbS (fun i=>(m,m,(i:Int))) m.boxes.length (fun i hi=>?_) ?_
   . have h1:(i:Int)<(m.boxes.length:Int):=by omega
     have h4:Zhj (m.boxes.getD i ([]:List Entry)) (m.boxes.getD i ([]:List Entry))=some true:=by
       refine ZsF _ (hb _ ?_)
       rw [List.getD_eq_getElem?_getD,List.getElem?_eq_getElem hi,Option.getD_some]
       exact List.getElem_mem hi
     simp only [ZeH,ZiU,ZfQ,Zaw,if_pos h1,if_pos (Int.natCast_nonneg i),Int.toNat_natCast,h4,Bool.not_true,cond_false]
     rw [Zaz (by omega) (by omega)]
     rfl
   . simp [ZeH,ZiU]
 simp only [ZkS,ZfK,Zsp _ h,bne_self_eq_false,Bool.not_true,cond_false,hw]
theorem Zws (t:Thread) (h:t.kids.length<=4294967296) (hb:t.batch.length<=4294967296) (hh:t.held.length<=4294967296):ZkY t t=some true:=by
 have hw:Zmk (t,t,0)=some (.inl (t,t)):=by
   refine ZbS (fun i=>(t,t,(i:Int))) t.kids.length (fun i hi=>?_) ?_
   . have h1:(i:Int)<(t.kids.length:Int):=by omega
     simp only [ZeE,Zit,Zaw,if_pos h1,if_pos (Int.natCast_nonneg i),beq_self_eq_true,Bool.and_self,Bool.not_true,cond_false]
     rw [Zaz (by omega) (by omega)]
     rfl
   . simp [ZeE,Zit]
 simp only [ZkY,ZfQ,ZsF _ hb,ZfK,Zsp _ hh,bne_self_eq_false,Bool.not_true,cond_false,hw,beq_self_eq_true,Bool.and_self,cond_true]
theorem Zz5 (t:Tape) (h:t.l.length<=4294967296):ZkC t t=some true:=by
 have hw:Zmo (t,t,0)=some (.inl ()):=by
   refine ZbS (fun i=>(t,t,(i:Int))) t.l.length (fun i hi=>?_) ?_
   . have h1:(i:Int)<(t.l.length:Int):=by omega
     simp only [ZeX,Zip,Zaw,if_pos h1,if_pos (Int.natCast_nonneg i),bne_self_eq_false,cond_false]
     rw [Zaz (by omega) (by omega)]
     rfl
   . simp [ZeX,Zip]
 simp only [ZkC,bne_self_eq_false,cond_false,hw]
theorem ZxC (l:List Mark) (h:l.length<=4294967296):ZjQ l l=some true:=by
 have hw:ZlQ (l,l,0)=some (.inl ()):=by
   refine ZbS (fun i=>(l,l,(i:Int))) l.length (fun i hi=>?_) ?_
   . have h1:(i:Int)<(l.length:Int):=by omega
     simp only [Zex,ZhU,Zaw,if_pos h1,if_pos (Int.natCast_nonneg i),beq_self_eq_true,Bool.and_self,Bool.not_true,cond_false]
     rw [Zaz (by omega) (by omega)]
     rfl
   . simp [Zex,ZhU]
 simp only [ZjQ,bne_self_eq_false,cond_false,hw]
structure WSm (w:Wld):Prop where
  boxes:w.m.boxes.length<=4294967296
  box:∀ b∈w.m.boxes,b.length<=4294967296
  t:w.t.length<=4294967296
  batch:∀ t∈w.t,t.batch.length<=4294967296
  kids:∀ t∈w.t,t.kids.length<=4294967296
  log:w.log.length<=4294967296
  hist:w.hist.length<=4294967296
theorem Zvc {w:Wld} (h:WSm w):ZiK w=some w:=by
 have h3:∀ z:Wld,ZkG (w,z,{ w with t:=[],hist:=[] },0)=some (w,z,{ w with hist:=[] }):=by
   intro z
   refine ZbS (fun i=>(w,z,{ w with t:=w.t.take i,hist:=[] },(i:Int))) w.t.length (fun i hi=>?_) ?_
   . have h1:(i:Int)<(w.t.length:Int):=by omega
     have ht:=h.t
     have h2:fewB (i+1)=true:=Zbj (by omega)
     have h3:min i w.t.length=i:=by omega
     have hm:w.t.getD i Zax∈w.t:=by
       rw [List.getD_eq_getElem?_getD,List.getElem?_eq_getElem hi,Option.getD_some]
       exact List.getElem_mem hi
     simp only [ZdZ,Zhc,ZjI,Zaw,if_pos h1,if_pos (Int.natCast_nonneg i),List.length_take,List.length_cons,List.length_nil,h3,Int.toNat_natCast,Zwz _ (h.kids _ hm) (h.batch _ hm),h2,cond_true]
     rw [Zel w.t _ i hi,Zaz (by omega) (by omega)]
     rfl
   . simp [ZdZ,Zhc]
 have h7:∀ z:Wld,Zk1 (w,z,{ w with hist:=[] },0)=some (z,w):=by
   intro z
   refine ZbS (fun i=>(w,z,{ w with hist:=w.hist.take i },(i:Int))) w.hist.length (fun i hi=>?_) ?_
   . have h1:(i:Int)<(w.hist.length:Int):=by omega
     have ht:=h.hist
     have h2:fewB (i+1)=true:=Zbj (by omega)
     have h3:min i w.hist.length=i:=by omega
     simp only [ZdW,Zhe,Zaw,if_pos h1,if_pos (Int.natCast_nonneg i),List.length_take,List.length_cons,List.length_nil,h3,Int.toNat_natCast,h2,cond_true]
     rw [Zel w.hist _ i hi,Zaz (by omega) (by omega)]
     rfl
   . simp [ZdW,Zhe]
 simp only [ZiK,Ziq,ZuL _ h.boxes h.box,Zjv,ZwO _ h.log]
 have:=h3 (Wld.mk (Config.mk (0:Int) (0:Int) (0:Int) (0:Int) (0:Int) (0:Int) (0:Int) (0:Int) false (0:Int) (0:Int) (0:Int)) (Memo.mk ([]:List Int) ([]:List (List Entry))) ([]:List Thread) (0:Int) (0:Int) (Tape.mk ([]:List Int) (0:Int)) ([]:List Mark) ([]:List Event))
 obtain ⟨c,m,t,now,steps,tape,log,hist⟩:=w
 simp only at this h7 ⊢
 rw [this]
 simp only
 rw [h7]
theorem Zwt (l:List SEntry) (h:l.length<=4294967296):ZjY l=some l:=by
 have hw:ZlJ (l,[],0)=some l:=by
   refine ZbS (fun i=>(l,l.take i,(i:Int))) l.length (fun i hi=>?_) ?_
   . have h1:(i:Int)<(l.length:Int):=by omega
     have h2:fewB (i+1)=true:=Zbj (by omega)
     have h3:min i l.length=i:=by omega
     simp only [Zen,ZhW,Zaw,if_pos h1,if_pos (Int.natCast_nonneg i),List.length_take,List.length_cons,List.length_nil,h3,h2,cond_true,Int.toNat_natCast]
     rw [Zel l _ i hi,Zaz (by omega) (by omega)]
     rfl
   . simp [Zen,ZhW]
 simp only [ZjY,hw]
theorem Zwd (l:List Event) (h:l.length<=4294967296):ZiI l l=some true:=by
 have hw:Zk8 (l,l,0)=some (.inl ()):=by
   refine ZbS (fun i=>(l,l,(i:Int))) l.length (fun i hi=>?_) ?_
   . have h1:(i:Int)<(l.length:Int):=by omega
     simp only [Zd5,Zg1,Zaw,if_pos h1,if_pos (Int.natCast_nonneg i),beq_self_eq_true,Bool.and_self,Bool.not_true,cond_false]
     rw [Zaz (by omega) (by omega)]
     rfl
   . simp [Zd5,Zg1]
 simp only [ZiI,bne_self_eq_false,cond_false,hw]
structure WBig (w:Wld):Prop extends WSm w where
  words:w.m.words.length<=4294967296
  held:∀ t∈w.t,t.held.length<=4294967296
  tape:w.tape.l.length<=4294967296
theorem ZxQ {w:Wld} (h:WBig w):ZkE w w=some true:=by
 have ht:=h.t
 have hw:Zmp (w,w,0)=some (.inl ()):=by
   refine ZbS (fun i=>(w,w,(i:Int))) w.t.length (fun i hi=>?_) ?_
   . have h1:(i:Int)<(w.t.length:Int):=by omega
     have hm:w.t.getD i Zax∈w.t:=by
       rw [List.getD_eq_getElem?_getD,List.getElem?_eq_getElem hi,Option.getD_some]
       exact List.getElem_mem hi
     simp only [ZeZ,ZiM,Zib,Zaw,if_pos h1,if_pos (Int.natCast_nonneg i),Int.toNat_natCast,Zws _ (h.kids _ hm) (h.batch _ hm) (h.held _ hm),Bool.not_true,cond_false]
     rw [Zaz (by omega) (by omega)]
     rfl
   . simp [ZeZ,ZiM]
 unfold ZkE
 simp only [beq_self_eq_true,Bool.and_self,Bool.not_true,cond_false,bne_self_eq_false,Zhy,ZA1 _ h.words h.boxes h.box,Zh7,Zz5 _ h.tape,ZgQ,ZxC _ h.log,ZiV,Zwd _ h.hist,hw]
end Go.Proofs.Mill
/- A world's step as world.Step takes it; how long its lists are. -/
namespace Go.Proofs.Mill
theorem Zta {l:List Thread} (h:l.length<=4294967296):ZcC l=some l:=by
 simp only [ZcC,ZeJ,Nat.zero_add,Zbj h,cond_true]
theorem Zww {l:List Mark} (h:l.length<=4294967296):ZcQ l=some l:=by
 simp only [ZcQ,Zfn,Nat.zero_add,Zbj h,cond_true]
theorem Zvr {l:List Event} (h:l.length<=4294967296):ZcS l=some l:=by
 simp only [ZcS,Zfp,Nat.zero_add,Zbj h,cond_true]
def Zq6 (w:Wld) (e:SEntry):Int:=if e.kind=1/\(w.t.getD e.t.toNat Zax).phase≠0 then 170 else 0
def Zo8 (w:Wld) (e:SEntry):Wld×Int:=if Zbn w.c e≠0 then (w,Zbn w.c e) else (Zch w e,Zq6 w e)
section
variable {c:Config} {w:Wld} {n:Nat} {ro pa rt:Int->Int} {co:Int->Option Int} {t:Int}
theorem Zx6 (W:WInv c w n ro pa rt co) (hC:CfgOK c) (hlo:Num c.lo) (hhi:Num c.hi) (hn:n<=200000) (e:SEntry) (hop:Num e.op.v):ZkH (w,e)=some (Zo8 w e):=by
 show ZkZ w e=_
 unfold ZkZ Zo8
 rw [show ZeG (w.c,e)=some (Zbn w.c e) from Zom w.c e]
 simp only []
 by_cases k:Zbn w.c e=0
 case neg=>rw [Zf8 k,if_pos k];rfl
 rw [Zh1 k,if_neg (fun x=>x k)]
 have hlT:=W.lenT
 have hT:=hC.threads
 have hlo1:=W.log
 have hh:=W.hist
 have hE:=(W.entry hC hlo hhi hn (e:=e) (by rw [<- W.cE];exact k) hop).1
 have k':Zbn c e=0:=by rw [<- W.cE];exact k
 rw [Zta (by omega),Zww (by omega),Zvr (by omega)]
 simp only [cond_false,Zaw]
 rcases Znl k' with ⟨k1,ht,hi,ho⟩ | ⟨k1,ht⟩ | k1
 . have h0:=ht.1
   have h1:=ht.2
   rw [Zbi k1,cond_true,if_pos h0,if_pos (by omega)]
   simp only [Zbz,Zee]
   by_cases p:(w.t.getD e.t.toNat Zax).phase=0
   . have ec:Zq6 w e=0:=if_neg (fun x=>x.2 p)
     have es:Zch w e={ w with t:=w.t.set e.t.toNat (ZgD w.c e.t e.item e.op w.now (w.t.getD e.t.toNat Zax).width),hist:=w.hist++[⟨1,e.t,e.item,e.op,0,false,w.steps⟩] }:=by
       unfold Zch invT
       rw [if_pos k1,if_neg (fun x=>x p)]
     rw [ec,es,Zh1 p,cond_false]
     have hb:ZcA (w.c,e.t,w.t.getD e.t.toNat Zax,e.item,e.op,w.now)=some (ZgD w.c e.t e.item e.op w.now (w.t.getD e.t.toNat Zax).width):=Zou (by rw [W.cE];exact hC) _ _ _ _ _
     rw [hb]
     simp only []
     rw [Zbj (by simp;omega),cond_true]
   . have ec:Zq6 w e=170:=if_pos ⟨k1,p⟩
     have es:Zch w e={ w with hist:=w.hist++[⟨3,e.t,e.item,e.op,0,false,w.steps⟩] }:=by
       unfold Zch invT
       rw [if_pos k1,if_pos p]
     rw [ec,es,Zf8 p,cond_true,Zbj (by simp;omega),cond_true]
 . have ec:Zq6 w e=0:=if_neg (fun x=>by omega)
   rw [ec,ZaU (show ¬e.kind=1 by omega),cond_false,Zbi k1,cond_true]
   unfold ZeT at hE
   rw [if_neg (by omega),if_pos k1] at hE
   rw [hE]
 . have ec:Zq6 w e=0:=if_neg (fun x=>by omega)
   have es:Zch w e={ w with now:=Zaf .i64 (w.now+1) }:=by
     unfold Zch
     rw [if_neg (by omega),if_neg (by omega),if_pos k1]
   rw [ec,es,ZaU (show ¬e.kind=1 by omega),cond_false,ZaU (show ¬e.kind=2 by omega),cond_false,Zbi k1,cond_true]
end
def ZEg (h:Thread):Prop:=h.batch.length<=1000000/\h.kids.length<=1000000/\h.held.length<=4294967295
theorem Zhs (g:Thread):(Zbv g).batch=g.batch/\(Zbv g).kids=g.kids/\(Zbv g).held=g.held:=by
 unfold Zbv
 split <;> exact ⟨rfl,rfl,rfl⟩
theorem Tr.done_lists {c:Config} {t:Int} {v v':Vw} {h:Thread} {log:List Mark} (T:Tr c t v h v' log true):(v'.th t).batch=h.batch/\(v'.th t).kids=h.kids/\(v'.th t).held=h.held:=by
 generalize hd:true=d at T
 cases T with
 | same p e=>rw [Zbg];exact Zhs _
 | cas p e=>rw [Zbg];exact Zhs _
 | res p=>rw [Zbg];exact Zhs _
 | tell2 p a w=>rw [Zbg];exact Zhs _
 | _=>cases hd
def Shorts (w:Wld):Prop:=∀ h∈w.t,ZEg h
theorem Zw4 {α:Type} {l:List α} {i:Nat} {x y:α} (h:y∈l.set i x):y=x\/y∈l:=by
 rcases List.mem_or_eq_of_mem_set h with h | h
 . exact .inr h
 . exact .inl h
section
variable {c:Config} {w:Wld} {n:Nat} {ro pa rt:Int->Int} {co:Int->Option Int} {t:Int}
theorem Shorts.entry (S:Shorts w) (W:WInv c w n ro pa rt co) (hC:CfgOK c) (hlo:Num c.lo) (hhi:Num c.hi) (hn:n<=190000) {e:SEntry} (he:Zbn c e=0):Shorts (Zch w e):=by
 unfold Zch
 rcases Znl he with ⟨k,ht,hi,ho⟩ | ⟨k,ht⟩ | k
 . rw [if_pos k]
   unfold invT
   split
   . exact S
   . intro h hh
     rcases Zw4 hh with rfl | hh
     . exact ⟨by show ([_]:List Entry).length<=_;simp,by show ([]:List Kid).length<=_;simp,by show ([]:List Int).length<=_;simp⟩
     . exact S h hh
 . rw [if_neg (by omega),if_pos k]
   split
   . exact S
   . rename_i hp
     obtain ⟨_,ro',pa',rt',co1,W',_,T⟩:=W.pick hC hlo hhi (by omega) ht hp
     intro h hh
     have hth:((vw c (Zcq w e.t (ZaL (Zbb w e.t))).m (Zcq w e.t (ZaL (Zbb w e.t))).t).th e.t)=(ZaL (Zbb w e.t)).th:=by
       have h0:=ht.1
       have h1:=ht.2
       have:=W.lenT
       rw [Zhv ht]
       have e2:(Zcq w e.t (ZaL (Zbb w e.t))).t=w.t.set e.t.toNat (ZaL (Zbb w e.t)).th:=by unfold Zcq;split <;> rfl
       rw [e2,List.getD_eq_getElem?_getD,List.getElem?_set_self (by omega)]
       rfl
     have hh:h∈(Zcq w e.t (ZaL (Zbb w e.t))).t:=hh
     have e2:(Zcq w e.t (ZaL (Zbb w e.t))).t=w.t.set e.t.toNat (ZaL (Zbb w e.t)).th:=by unfold Zcq;split <;> rfl
     rw [e2] at hh
     rcases Zw4 hh with rfl | hh
     . by_cases hz:(ZaL (Zbb w e.t)).th.phase=0
       . have hd:(ZaL (Zbb w e.t)).done=true:=by
           have:=(T.idle (by rw [Zhv ht]) hp).1
           rw [hth] at this
           exact this hz
         rw [hd] at T
         obtain ⟨a,b,d⟩:=T.done_lists
         rw [hth] at a b d
         have hm:w.t.getD e.t.toNat Zax∈w.t:=by
           have h0:=ht.1
           have h1:=ht.2
           have:=W.lenT
           rw [List.getD_eq_getElem?_getD,List.getElem?_eq_getElem (by omega),Option.getD_some]
           exact List.getElem_mem _
         obtain ⟨s1,s2,s3⟩:=S _ hm
         exact ⟨by rw [a];exact s1,by rw [b];exact s2,by rw [d];exact s3⟩
       . have hg:(Zcq w e.t (ZaL (Zbb w e.t))).t.getD e.t.toNat Zax=(ZaL (Zbb w e.t)).th:=by rw [<- Zhv ht];exact hth
         have hf:=W'.fit hC hlo hhi ht (by rw [hg];exact hz)
         have e3:(Zbb (Zcq w e.t (ZaL (Zbb w e.t))) e.t).th=(ZaL (Zbb w e.t)).th:=hg
         have f1:=hf.g.batch
         have f2:=hf.g.kids
         have f3:=hf.held
         rw [e3] at f1 f2 f3
         exact ⟨f1,f2,f3⟩
     . exact S h hh
 . rw [if_neg (by omega),if_neg (by omega),if_pos k]
   exact S
theorem Shorts.entries (hC:CfgOK c) (hlo:Num c.lo) (hhi:Num c.hi):∀ {l:List SEntry} {w:Wld} {n:Nat} {ro pa rt:Int->Int} {co:Int->Option Int},Shorts w->WInv c w n ro pa rt co->n+l.length<=190000->(∀ e∈l,Zbn c e=0/\Num e.op.v)->Shorts (l.foldl Zch w)
 | [],w,n,ro,pa,rt,co,S,_,_,_=>S
 | e :: l, w, n, ro, pa, rt, co, S, W, hn, he => by
   rw [List.length_cons] at hn
   obtain ⟨_,ro',pa',rt',co',b⟩:=W.entry hC hlo hhi (by omega) (he e (List.mem_cons_self ..)).1 (he e (List.mem_cons_self ..)).2
   show Shorts (l.foldl Zch (Zch w e))
   exact Shorts.entries hC hlo hhi (S.entry W hC hlo hhi (by omega) (he e (List.mem_cons_self ..)).1) b (by omega) (fun x hx=>he x (List.mem_cons_of_mem _ hx))
theorem Zwu (d:List Int):Shorts (newW c d):=by
 intro h hh
 have hh:h∈List.replicate c.threads.toNat newT:=hh
 rw [(List.mem_replicate.1 hh).2]
 exact ⟨by show ([]:List Entry).length<=_;simp,by show ([]:List Kid).length<=_;simp,by show ([]:List Int).length<=_;simp⟩
theorem WInv.big (W:WInv c w n ro pa rt co) (S:Shorts w) (hC:CfgOK c) (hn:n<=190000):WBig w:=by
 have hlT:=W.lenT
 have hlB:=W.lenB
 have hlW:=W.lenW
 have hT:=hC.threads
 have hs:=Zjc hC
 have hl:=W.log
 have hh:=W.hist
 refine ⟨⟨by omega,fun b hb=>?_,by omega,fun h hm=>by have:=(S h hm).1;omega,fun h hm=>by have:=(S h hm).2.1;omega,by omega,by omega⟩,by omega,fun h hm=>by have:=(S h hm).2.2;omega,W.tape.2⟩
 obtain ⟨i,hi',rfl⟩:=List.mem_iff_getElem.1 hb
 have hin:InT c (i:Int):=⟨by omega,by omega⟩
 have:=(W.inv.loc i hin).boxl
 rw [rd_X hin,Int.toNat_natCast,List.getD_eq_getElem?_getD,List.getElem?_eq_getElem hi'] at this
 have this:(w.m.boxes[i]).length<=16:=this
 omega
end
end Go.Proofs.Mill
/- What the laws of layer 17 have in common. -/
namespace Go.Proofs.Mill
def ZDS (c:Config):Prop:=Num c.init/\Num c.lo/\Num c.hi
theorem ZC5 {c:Config} (o:(Zap celConfig).Ok c):ZDS c:=by
 have h1:∀ x:Int,AV.int .i64 x∈celConfig.enc c->Num x:=fun x hx=>Zuk (o _ hx)
 refine ⟨h1 _ ?_,h1 _ ?_,h1 _ ?_⟩ <;> simp [celConfig,Za5,Zae,Zao,celBool]
theorem ZCP:Zfe ()=some true:=rfl
theorem ZD7 (l:List SEntry) (d:List Int):Zlg (l,d)=some (decide (400<l.length\/200<d.length)):=by
 show Zk2 l d=_
 unfold Zk2
 rw [Zaw]
 by_cases h:400<l.length
 . rw [if_pos (by omega),decide_eq_true (.inl h)]
 . rw [if_neg (by omega)]
   congr 1
   exact decide_eq_decide.2 ⟨fun x=>.inr (by omega),fun x=>by omega⟩
theorem Zv2 (c:Config) (e:SEntry):Zfc (c,e)=some (Zbn c e):=by
 show ZjA c e=_
 unfold ZjA Zbn
 simp only [Zaw,Zja,Zu5]
 by_cases h1:e.kind<1
 . rw [if_pos h1,if_pos (.inl h1)]
 rw [if_neg h1]
 by_cases h2:e.kind>3
 . rw [if_pos h2,if_pos (.inr h2)]
 rw [if_neg h2,if_neg (show ¬(e.kind<1\/e.kind>3) by omega)]
 by_cases h3:e.kind=3
 . rw [Zbi h3,if_pos h3];rfl
 rw [ZaU h3,if_neg h3,cond_false]
 by_cases h4:e.t<0
 . rw [if_pos h4,if_pos (.inl h4)]
 rw [if_neg h4]
 by_cases h5:e.t>=c.threads
 . rw [if_pos h5,if_pos (.inr h5)]
 rw [if_neg h5,if_neg (show ¬(e.t<0\/e.t>=c.threads) by omega)]
 by_cases h6:e.kind=2
 . rw [Zbi h6,if_pos h6];rfl
 rw [ZaU h6,if_neg h6,cond_false]
 by_cases h7:e.item<0
 . rw [if_pos h7,if_pos (.inl h7)]
 rw [if_neg h7]
 by_cases h8:e.item>=c.items
 . rw [if_pos h8,if_pos (.inr h8)]
 rw [if_neg h8,if_neg (show ¬(e.item<0\/e.item>=c.items) by omega)]
 cases Ze9 e.op c.bounded <;> rfl
def count (l:List Event) (k:Int):Int:=((l.filter fun e=>e.kind == k).length:Int)
section
variable {c:Config} {w:Wld} {n:Nat} {ro pa rt:Int->Int} {co:Int->Option Int}
end
section
variable {c:Config} {w:Wld} {n:Nat} {ro pa rt:Int->Int} {co:Int->Option Int}
end
theorem ZCA {c:Config} {l:List SEntry} {d:List Int} (hc:Num c.init/\Num c.lo/\Num c.hi) (hl:∀ e∈l,Num e.op.v) (hd:d.length<=4294967296) (hn:l.length<=2000) :
   (Zfv (c,l,d)=some (ZyK,allE c l)/\(allE c l).2≠0) \/
   (∃ w,w=l.foldl Zch (newW c d)/\Zfv (c,l,d)=some (w,0,0)/\allE c l=(0,0)/\CfgOK c/\(∀ e∈l,Zbn c e=0)/\Shorts w/\WBig w/\∃ ro pa rt co,WInv c w l.length ro pa rt co/\Lin c w ro co):=by
 rcases ZC1 (c:=c) (l:=l) (d:=d) hc hl hd with ⟨r1,r2⟩ | ⟨r1,r2,hC,r3,r4,ro,pa,rt,co,W,Li⟩
 . exact .inl ⟨r1,r2⟩
 . have S:=Shorts.entries hC hc.2.1 hc.2.2 (l:=l) (Zwu (c:=c) d) (ZtY hC hc.1 hd) (by omega) (fun e he=>⟨r4 e he,hl e he⟩)
   exact .inr ⟨_,rfl,r1,r2,hC,r4,S,W.big S hC (by omega),ro,pa,rt,co,W,Li⟩
end Go.Proofs.Mill
