/- Parts of the proof: MillRLin2, MillRRunAll, MillRSame, MillRWld, MillRCommon, MillRNow, MillRRef, MillRRef2, MillRRef17. -/
import Derived.Test.YtecgogmolkjhjaaGreatMillAll36
import Derived.Test.YtecgogmolkjhjaaGreatMillAll4
import Derived.Test.YtecgogmolkjhjaaGreatMillAll34
import Derived.Test.YtecgogmolkjhjaaGreatMillFDa
import Derived.KernelRfl
set_option linter.all false
noncomputable section
/- Whatever is done, the ops are as if done one after another: kept by every entry. -/
namespace Go.Proofs.Mill
theorem Zy1 (h:Thread):(ZfZ h).phase=4\/(ZfZ h).phase=7\/(ZfZ h).phase=11\/(ZfZ h).phase=2:=by
 unfold ZfZ
 split
 . exact .inl rfl
 . have:=ZfR { h with phase:=4,held:=h.held++[h.node],node:=h.node / 2,at_:=0 }
   have e:(Zlr { h with phase:=4,held:=h.held++[h.node],node:=h.node / 2 }).phase=(ZfQ { h with phase:=4,held:=h.held++[h.node],node:=h.node / 2,at_:=0 }).phase:=rfl
   rw [e]
   omega
theorem Zka (h:Thread):(ZfQ h).phase=7\/(ZfQ h).phase=11\/(ZfQ h).phase=2:=by
 have:=ZfR h
 omega
section
variable {c:Config} {t:Int} {v v':Vw} {h:Thread} {log:List Mark} {done:Bool}
theorem Zbm {h':Thread}:(put v t h').th t=h':=Zam
theorem Zkh (g:Thread):((ZbB g).phase=0↔ZeP g=true):=by
 have:=Zjh g
 cases hd:ZeP g with
 | true=>rw [hd] at this;simp at this ⊢;exact this.1
 | false=>rw [hd] at this;simp at this ⊢;omega
theorem Tr.idle (T:Tr c t v h v' log done) (hv:v.th t=h) (hp:h.phase≠0):((v'.th t).phase=0↔done=true):=by
 have no:∀ {p:Int},p≠0->(p=0↔false=true):=fun h=>⟨fun x=>(h x).elim,fun x=>by cases x⟩
 cases T with
 | nop s=>rw [hv];exact no hp
 | start p s=>rw [Zbm];cases s <;> exact no (by dsimp only;decide)
 | load p=>rw [Zbm];exact no (by dsimp only;decide)
 | casF p hw hw2=>rw [Zbm];exact no (by dsimp only;decide)
 | same p e=>rw [Zbm];exact Zkh _
 | cas p e=>rw [Zbm];exact Zkh _
 | on25 p o=>rw [Zbm];cases o <;> exact no (by dsimp only;decide)
 | look1 p k=>rw [Zbm];exact no (by dsimp only;decide)
 | look0 p=>rw [Zbm];exact no (by dsimp only;decide)
 | lookL p=>rw [Zbm];exact no (by have:=Zka { h with at_:=0 };show (ZfQ { h with at_:=0 }).phase≠0;omega)
 | take p n e=>rw [Zbm];exact no (by have:=Zy1 h;omega)
 | takeF p=>rw [Zbm];exact no (by dsimp only;decide)
 | join p n e=>rw [Zbm];exact no (by have:=Zka { h with phase:=4,stop:=h.node,at_:=0 };show (ZfQ { h with phase:=4,stop:=h.node,at_:=0 }).phase≠0;omega)
 | joinF p=>rw [Zbm];exact no (by dsimp only;decide)
 | seeF p a e=>rw [Zbm];exact no (by dsimp only;decide)
 | seeD p a k=>rw [Zbm];exact no (by dsimp only;decide)
 | close p a e=>rw [Zbm];exact no (by have:=Zka { h with at_:=Zaf IntKind.i64 (h.at_+1) };show (ZfQ { h with at_:=Zaf IntKind.i64 (h.at_+1) }).phase≠0;omega)
 | closeF p=>rw [Zbm];exact no (by dsimp only;decide)
 | takeB p w=>rw [Zbm];exact no (by dsimp only;decide)
 | clear p a=>rw [Zbm];exact no (by have:=Zka { h with at_:=Zaf IntKind.i64 (h.at_+1) };show (ZfQ { h with at_:=Zaf IntKind.i64 (h.at_+1) }).phase≠0;omega)
 | box11 p=>rw [Zbm];exact no (by dsimp only;decide)
 | dep p n=>rw [Zbm];exact no (by dsimp only;decide)
 | told p e=>rw [Zbm];exact no (by dsimp only;decide)
 | res p=>rw [Zbm];exact Zkh _
 | tell1 p a w=>rw [Zbm];exact no (by dsimp only;decide)
 | tell2 p a w=>rw [Zbm];exact Zkh _
 | box17 p=>rw [Zbm];exact no (by dsimp only;decide)
 | open18 p=>rw [Zbm];exact no (by dsimp only;decide)
 | swap20 p s w=>rw [Zbm];exact no (by dsimp only;decide)
 | swap23 p s=>rw [Zbm];exact no (by dsimp only;decide)
 | shut20 p e=>rw [Zbm];exact no (by dsimp only;decide)
 | shutF p e=>rw [Zbm];exact no (by dsimp only;decide)
 | cap21 p w e=>rw [Zbm];exact no (by dsimp only;decide)
 | capF p=>rw [Zbm];exact no (by dsimp only;decide)
 | absorb p w=>rw [Zbm];exact no (by dsimp only;decide)
 | spinF p e=>rw [Zbm];exact no (by dsimp only;decide)
 | spinL p e=>rw [Zbm];exact no (by dsimp only;omega)
 | spinO p e=>rw [Zbm];exact no (by dsimp only;decide)
 | open24 p=>rw [Zbm];exact no (by dsimp only;decide)
 | leave p e hw hw2 o=>rw [Zbm];cases o <;> exact no (by dsimp only;decide)
 | leaveF p e=>rw [Zbm];exact no (by dsimp only;decide)
def ZC5 (c:Config) (v v':Vw) (h:Thread) (log:List Mark):Prop :=
 (log=[]/\∀ i,v'.b i 0=v.b i 0)\/(log=ZgS c h (v.b h.item 0)/\v'.b h.item 0=allT c.lo c.hi h.batch (v.b h.item 0)/\∀ i,i≠h.item->v'.b i 0=v.b i 0)
theorem Tr.cells (T:Tr c t v h v' log done) (hy:h.phase=3->h.y=allT c.lo c.hi h.batch h.x) (hn:0<=ZaK c) (hat:h.phase=8\/h.phase=10->Zb1 h≠0):ZC5 c v v' h log:=by
 have sm:∀ {a b:List Mark},(∀ i,v'.b i 0=v.b i 0)->ZC5 c v v' h []:=fun x=>.inl ⟨rfl,x⟩
 have wn:∀ {i m w:Int},m≠0->∀ k,setb v.b i m w k 0=v.b k 0:=fun hm k=>ZdT (fun x=>hm x.2.symm)
 cases T with
 | same p e=>exact .inr ⟨rfl,e.symm,fun i _=>rfl⟩
 | cas p e =>
   refine .inr ⟨by rw [e],?_,fun i hi=>ZdT (fun x=>hi x.1)⟩
   show setb v.b h.item 0 h.y h.item 0=_
   rw [Zgy,hy p,e]
 | take p n e=>exact .inl ⟨rfl,wn (by omega)⟩
 | join p n e=>exact .inl ⟨rfl,wn (by omega)⟩
 | close p a e=>exact .inl ⟨rfl,wn (hat (.inl p))⟩
 | clear p a=>exact .inl ⟨rfl,wn (hat (.inr p))⟩
 | dep p n=>exact .inl ⟨rfl,wn (by omega)⟩
 | swap20 p s w=>exact .inl ⟨rfl,wn (by omega)⟩
 | swap23 p s=>exact .inl ⟨rfl,wn (by omega)⟩
 | nop s=>exact .inl ⟨rfl,fun i=>rfl⟩
 | start p s=>exact .inl ⟨rfl,fun i=>rfl⟩
 | load p=>exact .inl ⟨rfl,fun i=>rfl⟩
 | casF p hw hw2=>exact .inl ⟨rfl,fun i=>rfl⟩
 | on25 p o=>exact .inl ⟨rfl,fun i=>rfl⟩
 | look1 p k=>exact .inl ⟨rfl,fun i=>rfl⟩
 | look0 p=>exact .inl ⟨rfl,fun i=>rfl⟩
 | lookL p=>exact .inl ⟨rfl,fun i=>rfl⟩
 | takeF p=>exact .inl ⟨rfl,fun i=>rfl⟩
 | joinF p=>exact .inl ⟨rfl,fun i=>rfl⟩
 | seeF p a e=>exact .inl ⟨rfl,fun i=>rfl⟩
 | seeD p a k=>exact .inl ⟨rfl,fun i=>rfl⟩
 | closeF p=>exact .inl ⟨rfl,fun i=>rfl⟩
 | takeB p w=>exact .inl ⟨rfl,fun i=>rfl⟩
 | box11 p=>exact .inl ⟨rfl,fun i=>rfl⟩
 | told p e=>exact .inl ⟨rfl,fun i=>rfl⟩
 | res p=>exact .inl ⟨rfl,fun i=>rfl⟩
 | tell1 p a w=>exact .inl ⟨rfl,fun i=>rfl⟩
 | tell2 p a w=>exact .inl ⟨rfl,fun i=>rfl⟩
 | box17 p=>exact .inl ⟨rfl,fun i=>rfl⟩
 | open18 p=>exact .inl ⟨rfl,fun i=>rfl⟩
 | shut20 p e=>exact .inl ⟨rfl,fun i=>rfl⟩
 | shutF p e=>exact .inl ⟨rfl,fun i=>rfl⟩
 | cap21 p w e=>exact .inl ⟨rfl,fun i=>rfl⟩
 | capF p=>exact .inl ⟨rfl,fun i=>rfl⟩
 | absorb p w=>exact .inl ⟨rfl,fun i=>rfl⟩
 | spinF p e=>exact .inl ⟨rfl,fun i=>rfl⟩
 | spinL p e=>exact .inl ⟨rfl,fun i=>rfl⟩
 | spinO p e=>exact .inl ⟨rfl,fun i=>rfl⟩
 | open24 p=>exact .inl ⟨rfl,fun i=>rfl⟩
 | leave p e hw hw2 o=>exact .inl ⟨rfl,fun i=>rfl⟩
 | leaveF p e=>exact .inl ⟨rfl,fun i=>rfl⟩
end
structure LinT (c:Config) (w:Wld) (th:Thread) (ro:Int) (co:Option Int) (j:Int):Prop where
  ex:∃ (k:Nat) (op:Bool) (last:Event),ansL c.lo c.hi j (Zcc j w.log) (0,false,Zbw) w.hist=some (k,op,last)/\(op=true↔ro≠0) /\
    (op=true->last.op=th.op/\last.item=th.item/\last.kind=1/\last.t=j/\last∈w.hist/\last.step<=w.steps) /\
    (co=none->(Zcc j w.log).length=k) /\
    (∀ x,co=some x->(Zcc j w.log).length=k+1/\((Zcc j w.log).getD k Za6).op=th.op/\((Zcc j w.log).getD k Za6).item=th.item/\((Zcc j w.log).getD k Za6).prior=x/\last.step<((Zcc j w.log).getD k Za6).step/\((Zcc j w.log).getD k Za6).step<=w.steps)
structure Lin (c:Config) (w:Wld) (ro:Int->Int) (co:Int->Option Int):Prop where
  ans:∀ j,InT c j->LinT c w ((vw c w.m w.t).th j) (ro j) (co j) j
  cells:∀ i,0<=i->i<c.items->Ze3 c i c.init w.log=some ((vw c w.m w.t).b i 0)
  srt:w.log.Pairwise (fun a b=>a.step<=b.step)
  steps:∀ m∈w.log,1<=m.step/\m.step<=w.steps
  asked:∀ m∈w.log,∃ h∈w.hist,h.kind=1/\h.t=m.t/\h.item=m.item/\h.op=m.op/\h.step<m.step
  inlog:∀ m∈w.log,InT c m.t/\(0<=m.item/\m.item<c.items)/\ZfM m.op c.bounded=true/\Num m.op.v
  ehist:∀ h∈w.hist,InT c h.t/\(h.kind=1\/h.kind=2\/h.kind=3)/\h.step<=w.steps/\0<=h.step/\Num h.op.v/\Num h.prior
  may:∀ j,InT c j->ro j≠0->ZfM ((vw c w.m w.t).th j).op c.bounded=true
  hsrt:w.hist.Pairwise (fun a b=>a.step<=b.step)
section
variable {c:Config} {w:Wld} {n:Nat} {ro pa rt ro' pa' rt':Int->Int} {co co':Int->Option Int} {t:Int}
theorem LinT.skip {th:Thread} {r:Int} {cc:Option Int} {j:Int} (L:LinT c w th r cc j) {w':Wld} {h:Event} (hh:h.t≠j\/h.kind=3) (e1:w'.log=w.log) (e2:w'.hist=w.hist++[h]) (e3:w.steps<=w'.steps):LinT c w' th r cc j:=by
 obtain ⟨k,op,last,a,b,d,f,g⟩:=L.ex
 refine ⟨k,op,last,?_,b,fun x=>?_,by rw [e1];exact f,fun x hx=>?_⟩
 . rw [e1,e2,Zhr a,Zo9]
   unfold ansE
   rw [if_pos hh]
 . obtain ⟨d1,d2,d3,d4,d5,d6⟩:=d x
   exact ⟨d1,d2,d3,d4,by rw [e2];exact List.mem_append_left _ d5,by omega⟩
 . rw [e1]
   obtain ⟨g1,g2,g3,g4,g5,g6⟩:=g x hx
   exact ⟨g1,g2,g3,g4,g5,by omega⟩
theorem LinT.same {th:Thread} {r:Int} {cc:Option Int} {j:Int} (L:LinT c w th r cc j) {w':Wld} (e1:Zcc j w'.log=Zcc j w.log) (e2:w'.hist=w.hist) (e3:w.steps<=w'.steps):LinT c w' th r cc j:=by
 obtain ⟨k,op,last,a,b,d,f,g⟩:=L.ex
 refine ⟨k,op,last,by rw [e1,e2];exact a,b,fun x=>?_,by rw [e1];exact f,fun x hx=>?_⟩
 . obtain ⟨d1,d2,d3,d4,d5,d6⟩:=d x
   exact ⟨d1,d2,d3,d4,by rw [e2];exact d5,by omega⟩
 . rw [e1]
   obtain ⟨g1,g2,g3,g4,g5,g6⟩:=g x hx
   exact ⟨g1,g2,g3,g4,g5,by omega⟩
theorem Lin.hist_more (Li:Lin c w ro co) {h:Event} (hs:w.steps<=h.step):(w.hist++[h]).Pairwise (fun a b=>a.step<=b.step):=by
 rw [List.pairwise_append]
 refine ⟨Li.hsrt,List.pairwise_singleton _ _,fun a ha b hb=>?_⟩
 rw [List.mem_singleton] at hb
 subst hb
 have:=(Li.ehist a ha).2.2.1
 omega
theorem Lin.invoke (Li:Lin c w ro co) (W:WInv c w n ro pa rt co) (hC:CfgOK c) {e:SEntry} (ht:InT c e.t) (ho:ZfM e.op c.bounded=true) (hop:Num e.op.v):(¬(w.t.getD e.t.toNat Zax).phase=0->Lin c (invT w e) ro co)/\((w.t.getD e.t.toNat Zax).phase=0->Lin c (invT w e) (seta ro e.t 1) co):=by
 have hth:(vw c w.m w.t).th e.t=w.t.getD e.t.toNat Zax:=ZhU ht
 have hst:=W.steps
 constructor
 . intro hp
   have e0:invT w e={ w with hist:=w.hist++[⟨3,e.t,e.item,e.op,0,false,w.steps⟩] }:=by unfold invT;rw [if_pos hp]
   rw [e0]
   refine ⟨fun j hj=>(Li.ans j hj).skip (.inr rfl) rfl rfl (Int.le_refl _),Li.cells,Li.srt,Li.steps,fun m hm=>?_,Li.inlog,fun h hh=>?_,Li.may,Li.hist_more (Int.le_refl _)⟩
   . obtain ⟨h,h1,h2⟩:=Li.asked m hm
     exact ⟨h,List.mem_append_left _ h1,h2⟩
   . rcases List.mem_append.1 hh with hh | hh
     . exact Li.ehist h hh
     . rw [List.mem_singleton] at hh;subst hh
       exact ⟨ht,.inr (.inr rfl),Int.le_refl _,hst.1,hop,Zb2 (show (-1000000:Int)<=0/\(0:Int)<=1000000 by decide)⟩
 . intro hp
   have h0:ro e.t=0:=(W.inv.busy ht).2 (by rw [hth];exact hp)
   have e0:invT w e={ w with t:=w.t.set e.t.toNat (ZfA w.c e.t e.item e.op w.now (w.t.getD e.t.toNat Zax).width),hist:=w.hist++[⟨1,e.t,e.item,e.op,0,false,w.steps⟩] }:=by unfold invT;rw [if_neg (fun x=>x hp)]
   rw [e0]
   obtain ⟨b,hb⟩:∃ b,b=ZfA w.c e.t e.item e.op w.now (w.t.getD e.t.toNat Zax).width:=⟨_,rfl⟩
   rw [<- hb]
   have hvt:(vw c w.m (w.t.set e.t.toNat b)).th=seta (vw c w.m w.t).th e.t b:=by
     rw [ZsA W.lenT ht];rfl
   refine ⟨fun j hj=>?_,Li.cells,Li.srt,Li.steps,fun m hm=>?_,Li.inlog,fun h hh=>?_,fun j hj hr=>?_,Li.hist_more (Int.le_refl _)⟩
   . show LinT c _ ((vw c w.m (w.t.set e.t.toNat b)).th j) (seta ro e.t 1 j) (co j) j
     rw [hvt]
     by_cases ej:j=e.t
     . rw [ej,Zam,Zam]
       obtain ⟨k,op,last,a,b1,d,f,g⟩:=(Li.ans e.t ht).ex
       have hop:op=false:=by
         cases op with
         | false=>rfl
         | true=>exact (b1.1 rfl h0).elim
       have hct:co e.t=none:=(W.inv.core.k0 e.t h0).1
       refine ⟨k,true,⟨1,e.t,e.item,e.op,0,false,w.steps⟩,?_,⟨fun _=>by decide,fun _=>rfl⟩,fun _=>⟨by rw [hb];rfl,by rw [hb];rfl,rfl,rfl,List.mem_append_right _ (List.mem_singleton.2 rfl),Int.le_refl _⟩,f,fun x hx=>by rw [hct] at hx;cases hx⟩
       rw [Zhr a,Zo9,hop]
       unfold ansE
       rw [if_neg (by show ¬(e.t≠e.t\/(1:Int)=3);simp),if_pos rfl,if_neg (show ¬(false=true) by decide)]
     . rw [Zah ej,Zah ej]
       exact (Li.ans j hj).skip (.inl (Ne.symm ej)) rfl rfl (Int.le_refl _)
   . obtain ⟨h,h1,h2⟩:=Li.asked m hm
     exact ⟨h,List.mem_append_left _ h1,h2⟩
   . rcases List.mem_append.1 hh with hh | hh
     . exact Li.ehist h hh
     . rw [List.mem_singleton] at hh;subst hh
       exact ⟨ht,.inl rfl,Int.le_refl _,hst.1,hop,Zb2 (show (-1000000:Int)<=0/\(0:Int)<=1000000 by decide)⟩
   . show ZfM ((vw c w.m (w.t.set e.t.toNat b)).th j).op c.bounded=true
     rw [hvt]
     by_cases ej:j=e.t
     . rw [ej,Zam,hb];exact ho
     . rw [Zah ej] at hr ⊢;exact Li.may j hj hr
theorem Core.inBatch {ba:Int->List Entry} {ks:Int->List Kid} {opf:Int->Op} {it:Int->Int} (C:Core c ba ks opf it ro pa rt co) {r:Int} (hr:ro r=1) (j:Int):(ro j≠0/\co j=none/\rt j=r)↔idxOf (ba r) j<(ba r).length:=by
 obtain ⟨cr,rr⟩:=C.k1 r (by omega)
 constructor
 . rintro ⟨a,b,d⟩
   obtain ⟨_,_,o,hs⟩:=C.k5 j a b
   rw [d] at hs
   obtain ⟨r1,hr1⟩:=C.k3 j a
   have hm:(⟨j,opf j⟩:Entry)∈ba r:=hs.mem (by rw [hr1];exact List.mem_cons_self ..)
   exact ZE4 hm
 . intro h
   unfold idxOf at h
   have h':((ba r).map (·.t)).findIdx (fun t=>t == j)<((ba r).map (·.t)).length:=by rwa [List.length_map]
   have h2:=List.findIdx_getElem (w:=h')
   have h3:j∈(ba r).map (·.t):=by
     rw [<- eq_of_beq h2];exact List.getElem_mem h'
   obtain ⟨e,he,rfl⟩:=List.mem_map.1 h3
   obtain ⟨a,b,d,f,g⟩:=C.k4 r (by omega) cr e he
   exact ⟨a,f,by rw [g,rr]⟩
theorem Lin.pick (Li:Lin c w ro co) (W:WInv c w n ro pa rt co) (hC:CfgOK c) (hlo:Num c.lo) (hhi:Num c.hi) (hn:n<=200000) (hci:Inb c c.init) (ht:InT c t) (hp:(w.t.getD t.toNat Zax).phase≠0) :
   ∃ ro' pa' rt' co',WInv c (Zcd w t (ZaH (Za5 w t))) (n+1) ro' pa' rt' co'/\Lin c (Zcd w t (ZaH (Za5 w t))) ro' co':=by
 obtain ⟨_,ro',pa',rt',co1,W',info,T⟩:=W.pick hC hlo hhi hn ht hp
 refine ⟨ro',pa',rt',_,W',?_⟩
 have hth:(vw c w.m w.t).th t=w.t.getD t.toNat Zax:=ZhU ht
 have hkp:=ZkN (Za5 w t)
 have hL:=W.inv.loc t ht
 have hro:ro t≠0:=by
   intro h0
   have:=(W.inv.busy ht).1 h0
   rw [hth] at this
   exact hp this
 have hop1:(ZaH (Za5 w t)).th.op=(w.t.getD t.toNat Zax).op:=ZxS hkp
 have hit1:(ZaH (Za5 w t)).th.item=(w.t.getD t.toNat Zax).item:=ZBg hkp
 obtain ⟨u,hu⟩:∃ u,u=ZaH (Za5 w t):=⟨_,rfl⟩
 rw [<- hu] at W' info T hop1 hit1 ⊢
 have hst:=W.steps
 have hs:Zdu w=w.steps+1:=by unfold Zdu;rw [Zat (by omega) (by omega)]
 have hvth:(vw c (Zcd w t u).m (Zcd w t u).t).th=seta (vw c w.m w.t).th t u.th:=by
   show vwT c (w.t.set t.toNat u.th)=_
   rw [ZBc W.lenT ht];rfl
 have hidle:=T.idle hth hp
 rw [hvth,Zam] at hidle
 have hcells:=T.cells (fun p=>by rw [<- hth] at p ⊢;exact hL.y p) (Zbr c).1 (fun p=>by
   rw [<- hth] at p ⊢
   have ha:=hL.ari.2.2.2.2.2.2.1 (by omega)
   have:=(W.inv.nodes t ht).1 _ (Zh5 (by omega) ha)
   omega)
 have hbz:∀ j,InT c j->j≠t->(ro' j=0↔ro j=0):=by
   intro j hj hjt
   rw [W'.inv.busy hj,W.inv.busy hj,hvth,Zah hjt]
 have hbt:ro' t=0↔u.done=true:=by
   rw [W'.inv.busy ht,hvth,Zam];exact hidle
 obtain ⟨co',hco'⟩:∃ co',co'=if u.done=true then seta co1 t none else co1:=⟨_,rfl⟩
 rw [<- hco'] at W' ⊢
 have hcoj:∀ j,j≠t->co' j=co1 j:=by
   intro j hj;rw [hco'];split
   . rw [Zah hj]
   . rfl
 obtain ⟨ms,hms⟩:∃ ms,ms=u.log.map (Zcl (Zdu w)):=⟨_,rfl⟩
 have hlog:(Zcd w t u).log=w.log++ms:=by rw [hms];rfl
 have hsteps:(Zcd w t u).steps=w.steps+1:=hs
 have own:∀ j,InT c j->∃ (k:Nat) (op:Bool) (last:Event),ansL c.lo c.hi j (Zcc j (w.log++ms)) (0,false,Zbw) w.hist=some (k,op,last)/\(op=true↔ro j≠0) /\
     (op=true->last.op=((vw c w.m w.t).th j).op/\last.item=((vw c w.m w.t).th j).item/\last.kind=1/\last.t=j/\last∈w.hist/\last.step<=w.steps) /\
     (co1 j=none->(Zcc j (w.log++ms)).length=k) /\
     (∀ x,co1 j=some x->(Zcc j (w.log++ms)).length=k+1/\((Zcc j (w.log++ms)).getD k Za6).op=((vw c w.m w.t).th j).op/\((Zcc j (w.log++ms)).getD k Za6).item=((vw c w.m w.t).th j).item/\((Zcc j (w.log++ms)).getD k Za6).prior=x/\last.step<((Zcc j (w.log++ms)).getD k Za6).step/\((Zcc j (w.log++ms)).getD k Za6).step<=w.steps+1):=by
   intro j hj
   obtain ⟨k,op,last,a,b,d,f,g⟩:=(Li.ans j hj).ex
   rcases info.1 with ⟨e1,e2⟩ | ⟨hr1,e1,e2⟩
   . have:ms=[]:=by rw [hms,e1];rfl
     rw [this,List.append_nil,e2]
     exact ⟨k,op,last,a,b,d,f,fun x hx=>by obtain ⟨g1,g2,g3,g4,g5,g6⟩:=g x hx;exact ⟨g1,g2,g3,g4,g5,by omega⟩⟩
   . have hmo:Zcc j ms=if idxOf ((vw c w.m w.t).th t).batch j<((vw c w.m w.t).th t).batch.length then [⟨j,((vw c w.m w.t).th t).item,(((vw c w.m w.t).th t).batch.getD (idxOf ((vw c w.m w.t).th t).batch j) ⟨0,⟨0,0⟩⟩).op,allT c.lo c.hi (((vw c w.m w.t).th t).batch.take (idxOf ((vw c w.m w.t).th t).batch j)) ((vw c w.m w.t).b ((vw c w.m w.t).th t).item 0),Zdu w⟩] else []:=by
       rw [hms,e1]
       exact Zua _ _ j _ _ (W.inv.core.nod t hro)
     have hib:=W.inv.core.inBatch hr1 j
     rw [ZzH,hmo]
     by_cases hlt:idxOf ((vw c w.m w.t).th t).batch j<((vw c w.m w.t).th t).batch.length
     . obtain ⟨q1,q2,q3⟩:=hib.2 hlt
       have hf:=f q2
       have hc1:co1 j=some (allT c.lo c.hi (((vw c w.m w.t).th t).batch.take (idxOf ((vw c w.m w.t).th t).batch j)) ((vw c w.m w.t).b ((vw c w.m w.t).th t).item 0)):=by
         rw [e2];exact if_pos ⟨q1,q2,q3⟩
       have hd:=d (b.2 q1)
       have hget:(((vw c w.m w.t).th t).batch.getD (idxOf ((vw c w.m w.t).th t).batch j) ⟨0,⟨0,0⟩⟩)∈((vw c w.m w.t).th t).batch:=by
         rw [List.getD_eq_getElem?_getD,List.getElem?_eq_getElem hlt];exact List.getElem_mem hlt
       have hgt:(((vw c w.m w.t).th t).batch.getD (idxOf ((vw c w.m w.t).th t).batch j) ⟨0,⟨0,0⟩⟩).t=j:=by
         rw [List.getD_eq_getElem?_getD,List.getElem?_eq_getElem hlt]
         have h':(((vw c w.m w.t).th t).batch.map (·.t)).findIdx (fun t=>t == j)<(((vw c w.m w.t).th t).batch.map (·.t)).length:=by rw [List.length_map];exact hlt
         have h2:=List.findIdx_getElem (w:=h')
         have:=eq_of_beq h2
         rw [List.getElem_map] at this
         exact this
       have hk4:=W.inv.core.k4 t hro (W.inv.core.k1 t (by omega)).1 _ hget
       rw [hgt] at hk4
       rw [if_pos hlt]
       refine ⟨k,op,last,Zus a,b,d,fun x=>(by rw [hc1] at x;cases x),fun x hx=>?_⟩
       rw [hc1] at hx
       have hx:=Option.some.inj hx
       have hg:(Zcc j w.log++[(⟨j,((vw c w.m w.t).th t).item,(((vw c w.m w.t).th t).batch.getD (idxOf ((vw c w.m w.t).th t).batch j) ⟨0,⟨0,0⟩⟩).op,allT c.lo c.hi (((vw c w.m w.t).th t).batch.take (idxOf ((vw c w.m w.t).th t).batch j)) ((vw c w.m w.t).b ((vw c w.m w.t).th t).item 0),Zdu w⟩:Mark)]).getD k Za6=⟨j,((vw c w.m w.t).th t).item,(((vw c w.m w.t).th t).batch.getD (idxOf ((vw c w.m w.t).th t).batch j) ⟨0,⟨0,0⟩⟩).op,allT c.lo c.hi (((vw c w.m w.t).th t).batch.take (idxOf ((vw c w.m w.t).th t).batch j)) ((vw c w.m w.t).b ((vw c w.m w.t).th t).item 0),Zdu w⟩:=by
         rw [List.getD_eq_getElem?_getD,List.getElem?_append_right (by omega),hf,Nat.sub_self];rfl
       rw [hg]
       refine ⟨by rw [List.length_append,hf];rfl,hk4.2.1.symm,hk4.2.2.1.symm,hx,?_,?_⟩
       . show last.step<Zdu w
         rw [hs];omega
       . show Zdu w<=w.steps+1
         rw [hs];exact Int.le_refl _
     . rw [if_neg hlt,List.append_nil]
       have hc1:co1 j=co j:=by rw [e2];exact if_neg (fun x=>hlt (hib.1 x))
       rw [hc1]
       exact ⟨k,op,last,a,b,d,f,fun x hx=>by obtain ⟨g1,g2,g3,g4,g5,g6⟩:=g x hx;exact ⟨g1,g2,g3,g4,g5,by omega⟩⟩
 have hmst:∀ m∈ms,m.step=w.steps+1:=by
   intro m hm
   rw [hms] at hm
   obtain ⟨m0,_,rfl⟩:=List.mem_map.1 hm
   exact hs
 have hment:∀ m∈ms,∃ e∈((vw c w.m w.t).th t).batch,ro t=1/\m.t=e.t/\m.op=e.op/\m.item=((vw c w.m w.t).th t).item:=by
   intro m hm
   rw [hms] at hm
   obtain ⟨m0,hm0,rfl⟩:=List.mem_map.1 hm
   rcases info.1 with ⟨e1,_⟩ | ⟨hr1,e1,_⟩
   . rw [e1] at hm0;cases hm0
   . rw [e1] at hm0
     unfold ZgS at hm0
     obtain ⟨i,hi,hg⟩:=List.mem_iff_getElem.1 hm0
     rw [List.getElem_zipWith] at hg
     rw [List.length_zipWith] at hi
     exact ⟨((vw c w.m w.t).th t).batch[i]'(by omega),List.getElem_mem _,hr1,by rw [<- hg];rfl,by rw [<- hg];rfl,by rw [<- hg];rfl⟩
 have hk4m:∀ m∈ms,InT c m.t/\ro m.t≠0/\((vw c w.m w.t).th m.t).op=m.op/\((vw c w.m w.t).th m.t).item=m.item:=by
   intro m hm
   obtain ⟨e,he,hr1,a,b,d⟩:=hment m hm
   have hk:=W.inv.core.k4 t hro (W.inv.core.k1 t (by omega)).1 e he
   rw [a,b,d]
   exact ⟨W.inv.core.ent t hro e he,hk.1,hk.2.1,hk.2.2.1⟩
 have hopt:((vw c w.m w.t).th t).op=u.th.op:=by rw [hop1,hth]
 have hitt:((vw c w.m w.t).th t).item=u.th.item:=by rw [hit1,hth]
 refine ⟨fun j hj=>?_,fun i h0 h1=>?_,?_,fun m hm=>?_,fun m hm=>?_,fun m hm=>?_,fun h hh=>?_,fun j hj hr=>?_,?_⟩
 . rw [hvth]
   obtain ⟨k,op,last,a,b,d,f,g⟩:=own j hj
   by_cases ej:j=t
   . rw [ej] at a b d f g hj ⊢
     rw [Zam]
     have hopen:op=true:=b.2 hro
     obtain ⟨d1,d2,d3,d4,d5,d6⟩:=d hopen
     cases hd:u.done with
     | false =>
       have hh:(Zcd w t u).hist=w.hist:=by show (if u.done=true then _ else _)=_;rw [hd];rfl
       have hct:co' t=co1 t:=by rw [hco',hd];rfl
       refine ⟨k,op,last,by rw [hlog,hh];exact a,⟨fun _ x=>?_,fun _=>hopen⟩,fun _=>⟨by rw [<- hopt];exact d1,by rw [<- hitt];exact d2,d3,d4,by rw [hh];exact d5,by rw [hsteps];omega⟩,fun x=>?_,fun x hx=>?_⟩
       . have:=hbt.1 x;rw [hd] at this;cases this
       . rw [hlog];exact f (by rw [<- hct];exact x)
       . rw [hlog,hsteps]
         have:=g x (by rw [<- hct];exact hx)
         rw [hopt,hitt] at this
         exact this
     | true =>
       have hh:(Zcd w t u).hist=w.hist++[Zlw w t u]:=by show (if u.done=true then _ else _)=_;rw [hd];rfl
       have hc1:co1 t=some u.th.x:=by
         have:=info.2 hd
         rw [hvth,Zam] at this
         exact this
       have hct:co' t=none:=by rw [hco',hd,if_pos rfl,Zam]
       obtain ⟨g1,g2,g3,g4,g5,g6⟩:=g _ hc1
       have hfit:Fits c.lo c.hi (Zcc t (w.log++ms)) k last (Zlw w t u):=by
         refine ⟨by omega,by rw [g2,hopt];rfl,by rw [g3,hitt];rfl,g4,?_,by rw [d1,hopt];rfl,by rw [d2,hitt];rfl,g5,?_⟩
         . show (App u.th.op u.th.x w.c.lo w.c.hi).2=(App u.th.op u.th.x c.lo c.hi).2
           rw [W.cE]
         . show _<=Zdu w
           rw [hs];exact g6
       refine ⟨k+1,false,last,?_,⟨fun x=>(by cases x),fun x=>(x (hbt.2 hd)).elim⟩,fun x=>(by cases x),fun _=>?_,fun x hx=>by rw [hct] at hx;cases hx⟩
       . rw [hlog,hh,Zhr a,Zo9]
         unfold ansE
         rw [if_neg (by show ¬(t≠t\/(2:Int)=3);simp),if_neg (by show ¬(2:Int)=1;decide),if_pos ⟨hopen,hfit⟩]
       . rw [hlog];exact g1
   . rw [Zah ej,hcoj j ej]
     have hskip:ansL c.lo c.hi j (Zcc j (Zcd w t u).log) (0,false,Zbw) (Zcd w t u).hist=some (k,op,last):=by
       rw [hlog]
       show ansL c.lo c.hi j (Zcc j (w.log++ms)) (0,false,Zbw) (if u.done=true then w.hist++[Zlw w t u] else w.hist)=_
       split
       . rw [Zhr a,Zo9]
         unfold ansE
         rw [if_pos (.inl (by show t≠j;exact Ne.symm ej))]
       . exact a
     have hb:=hbz j hj ej
     refine ⟨k,op,last,hskip,⟨fun x=>fun y=>b.1 x (hb.1 y),fun x=>b.2 (fun y=>x (hb.2 y))⟩,fun x=>?_,fun x=>by rw [hlog];exact f x,fun x hx=>by rw [hlog,hsteps];exact g x hx⟩
     obtain ⟨d1,d2,d3,d4,d5,d6⟩:=d x
     refine ⟨d1,d2,d3,d4,?_,by rw [hsteps];omega⟩
     show last∈(if u.done=true then w.hist++[Zlw w t u] else w.hist)
     split
     . exact List.mem_append_left _ d5
     . exact d5
 . rw [hlog]
   have old:=Li.cells i h0 h1
   rw [ZlI old]
   have hCin:Inb c ((vw c w.m w.t).b i 0):=ZrW old hci
   have hnx:=W.inv.num.1 i 0
   rcases hcells with ⟨e1,e2⟩ | ⟨e1,e2,e3⟩
   . rw [hms,e1]
     show some _=some _
     rw [e2 i]
   . by_cases ei:i=(w.t.getD t.toNat Zax).item
     . have hr1:ro t=1:=by
         rcases info.1 with ⟨x,_⟩ | ⟨x,_,_⟩
         . exfalso
           rw [x] at e1
           have hb:=W.inv.core.k3 t hro
           obtain ⟨r,hb⟩:=hb
           have hb:((vw c w.m w.t).th t).batch=⟨t,((vw c w.m w.t).th t).op⟩::r:=hb
           rw [hth] at hb
           unfold ZgS at e1
           rw [hb] at e1
           cases e1
         . exact x
       rw [hms,e1,ei,e2]
       unfold ZgS
       rw [<- ei]
       have:=Zsa hlo i (Zdu w) (w.t.getD t.toNat Zax).batch ((vw c w.m w.t).b i 0) hnx hCin (fun e he=>by
         rw [<- hth] at he
         have hk:=W.inv.core.k4 t hro (W.inv.core.k1 t (by omega)).1 e he
         refine ⟨hL.ops (by rw [hth];exact hp) e he,?_⟩
         have:=Li.may e.t (W.inv.core.ent t hro e he) hk.1
         have h2:((vw c w.m w.t).th e.t).op=e.op:=hk.2.1
         rwa [h2] at this)
       exact this
     . rw [hms,e1,e3 i ei]
       exact ZrB (Ne.symm ei) _ (fun _ _=>rfl) _ _ _
 . rw [hlog,List.pairwise_append]
   refine ⟨Li.srt,?_,fun a ha b hb=>?_⟩
   . rw [List.pairwise_iff_getElem]
     intro i j hi hj _
     rw [hmst _ (List.getElem_mem hi),hmst _ (List.getElem_mem hj)]
     exact Int.le_refl _
   . rw [hmst b hb]
     have:=(Li.steps a ha).2
     omega
 . rw [hsteps]
   rw [hlog] at hm
   rcases List.mem_append.1 hm with hm | hm
   . have:=Li.steps m hm;omega
   . rw [hmst m hm];omega
 . rw [hlog] at hm
   have hsub:∀ h∈w.hist,h∈(Zcd w t u).hist:=by
     intro h hh
     show h∈(if u.done=true then w.hist++[Zlw w t u] else w.hist)
     split
     . exact List.mem_append_left _ hh
     . exact hh
   rcases List.mem_append.1 hm with hm | hm
   . obtain ⟨h,h1,h2⟩:=Li.asked m hm
     exact ⟨h,hsub h h1,h2⟩
   . obtain ⟨q1,q2,q3,q4⟩:=hk4m m hm
     obtain ⟨k,op,last,a,b,d,_,_⟩:=(Li.ans m.t q1).ex
     obtain ⟨d1,d2,d3,d4,d5,d6⟩:=d (b.2 q2)
     exact ⟨last,hsub _ d5,d3,d4,by rw [d2,q4],by rw [d1,q3],by rw [hmst m hm];omega⟩
 . rw [hlog] at hm
   rcases List.mem_append.1 hm with hm | hm
   . exact Li.inlog m hm
   . obtain ⟨q1,q2,q3,q4⟩:=hk4m m hm
     have hLm:=W.inv.loc m.t q1
     have hpm:((vw c w.m w.t).th m.t).phase≠0:=fun x=>q2 ((W.inv.busy q1).2 x)
     refine ⟨q1,by rw [<- q4];exact hLm.item hpm,by rw [<- q3];exact Li.may m.t q1 q2,?_⟩
     obtain ⟨e,he,_,_,b,_⟩:=hment m hm
     rw [b]
     exact hL.ops (by rw [hth];exact hp) e he
 . have hh:h∈(if u.done=true then w.hist++[Zlw w t u] else w.hist):=hh
   rw [hsteps]
   have old:h∈w.hist->_:=fun hh=>Li.ehist h hh
   split at hh
   . rcases List.mem_append.1 hh with hh | hh
     . have:=old hh;exact ⟨this.1,this.2.1,by omega,this.2.2.2⟩
     . rw [List.mem_singleton] at hh;subst hh
       refine ⟨ht,.inr (.inl rfl),by show Zdu w<=_;rw [hs];exact Int.le_refl _,by show 0<=Zdu w;rw [hs];omega,?_,?_⟩
       . show Num u.th.op.v
         obtain ⟨r,hb⟩:=W.inv.core.k3 t hro
         have hb:((vw c w.m w.t).th t).batch=⟨t,((vw c w.m w.t).th t).op⟩::r:=hb
         have:=hL.ops (by rw [hth];exact hp) ⟨t,((vw c w.m w.t).th t).op⟩ (by rw [hb];exact List.mem_cons_self ..)
         rw [<- hopt];exact this
       . show Num u.th.x
         have:=(W'.inv.loc t ht).nx
         rw [hvth,Zam] at this
         exact this
   . have:=old hh;exact ⟨this.1,this.2.1,by omega,this.2.2.2⟩
 . rw [hvth]
   by_cases ej:j=t
   . rw [ej,Zam,hop1,<- hth];exact Li.may t ht hro
   . rw [Zah ej];exact Li.may j hj (fun x=>hr ((hbz j hj ej).2 x))
 . show (if u.done=true then w.hist++[Zlw w t u] else w.hist).Pairwise _
   split
   . exact Li.hist_more (by show w.steps<=Zdu w;rw [hs];omega)
   . exact Li.hsrt
theorem Lin.entry (Li:Lin c w ro co) (W:WInv c w n ro pa rt co) (hC:CfgOK c) (hlo:Num c.lo) (hhi:Num c.hi) (hn:n<=200000) (hci:Inb c c.init) {e:SEntry} (he:Zdn c e=0) (hop:Num e.op.v) :
   ∃ ro' pa' rt' co',WInv c (ZcE w e) (n+1) ro' pa' rt' co'/\Lin c (ZcE w e) ro' co':=by
 have hE:=(W.entry hC hlo hhi hn he hop).2
 rcases Zl3 he with ⟨k,ht,hi,ho⟩ | ⟨k,ht⟩ | k
 . unfold ZcE
   rw [if_pos k]
   have hI:=Li.invoke W hC ht ho hop
   by_cases hp:(w.t.getD e.t.toNat Zax).phase=0
   . have h2:=hI.2 hp
     have hth:(vw c w.m w.t).th e.t=w.t.getD e.t.toNat Zax:=ZhU ht
     have hl:=W.log;have hh:=W.hist;have hst:=W.steps;have hnw:=W.now
     refine ⟨seta ro e.t 1,pa,seta rt e.t e.t,co,?_,h2⟩
     have hv:=W.inv.invoke hC ht (by rw [hth];exact hp) (i:=e.item) (op:=e.op) (now:=w.now) (wd:=(w.t.getD e.t.toNat Zax).width) hi hop (by rw [hth])
     unfold invT
     rw [if_neg (fun x=>x hp)]
     refine ⟨W.cE,?_,W.lenW,W.lenB,W.tape,?_,?_,?_,?_,?_⟩
     . show ((w.t.set _ _).length:Int)=_
       rw [List.length_set];exact W.lenT
     . show w.log.length<=_;omega
     . show (w.hist++[_]).length<=_
       rw [List.length_append,List.length_singleton];omega
     . show 0<=w.steps/\w.steps<=((n+1:Nat):Int);omega
     . show 0<=w.now/\w.now<=((n+1:Nat):Int);omega
     . show Inv c (vw c w.m (w.t.set _ _)) _ _ _ _
       rw [ZsA W.lenT ht,W.cE]
       exact hv
   . have h2:=hI.1 hp
     have hl:=W.log;have hh:=W.hist;have hst:=W.steps;have hnw:=W.now
     refine ⟨ro,pa,rt,co,?_,h2⟩
     unfold invT
     rw [if_pos hp]
     refine ⟨W.cE,W.lenT,W.lenW,W.lenB,W.tape,?_,?_,?_,?_,W.inv⟩
     . show w.log.length<=_;omega
     . show (w.hist++[_]).length<=_
       rw [List.length_append,List.length_singleton];omega
     . show 0<=w.steps/\w.steps<=((n+1:Nat):Int);omega
     . show 0<=w.now/\w.now<=((n+1:Nat):Int);omega
 . unfold ZcE
   rw [if_neg (show ¬e.kind=1 by omega),if_pos k]
   have hl:=W.log;have hh:=W.hist;have hst:=W.steps;have hnw:=W.now
   by_cases hp:(w.t.getD e.t.toNat Zax).phase=0
   . rw [if_pos hp]
     exact ⟨ro,pa,rt,co,⟨W.cE,W.lenT,W.lenW,W.lenB,W.tape,by omega,by omega,by omega,by omega,W.inv⟩,Li⟩
   . rw [if_neg hp]
     exact Li.pick W hC hlo hhi hn hci ht hp
 . have hl:=W.log;have hh:=W.hist;have hst:=W.steps;have hnw:=W.now
   unfold ZcE
   rw [if_neg (show ¬e.kind=1 by omega),if_neg (show ¬e.kind=2 by omega),if_pos k]
   refine ⟨ro,pa,rt,co,⟨W.cE,W.lenT,W.lenW,W.lenB,W.tape,?_,?_,?_,?_,W.inv⟩,⟨fun j hj=>(Li.ans j hj).same rfl rfl (Int.le_refl _),Li.cells,Li.srt,Li.steps,Li.asked,Li.inlog,Li.ehist,Li.may,Li.hsrt⟩⟩
   . show w.log.length<=_;omega
   . show w.hist.length<=_;omega
   . show 0<=w.steps/\w.steps<=((n+1:Nat):Int);omega
   . show 0<=Zaf .i64 (w.now+1)/\Zaf .i64 (w.now+1)<=((n+1:Nat):Int)
     rw [Zat (by omega) (by omega)];omega
theorem ZCk (hC:CfgOK c) (hci:Num c.init) {d:List Int}:Lin c (newW c d) (fun _=>0) (fun _=>none):=by
 have hth:=hC.threads
 have hit:=hC.items
 refine ⟨fun j hj=>⟨0,false,Zbw,rfl,⟨fun x=>(by cases x),fun x=>(x rfl).elim⟩,fun x=>(by cases x),fun _=>rfl,fun x hx=>(by cases hx)⟩,fun i h0 h1=>?_,List.Pairwise.nil,fun m hm=>(by cases hm),fun m hm=>(by cases hm),fun m hm=>(by cases hm),fun h hh=>(by cases hh),fun j _ h=>(h rfl).elim,List.Pairwise.nil⟩
 show some c.init=some (vwB c (Zct c).words i 0)
 have hb:=ZcP hC
 unfold vwB
 rw [if_pos ⟨⟨h0,h1⟩,Int.le_refl 0,by omega⟩]
 rw [(ZqL (t:=0) (i:=0) hC hci ⟨by omega,by omega⟩ ⟨by omega,by omega⟩).cells i h0 h1]
end
end Go.Proofs.Mill
/- Any script, run. -/
namespace Go.Proofs.Mill
theorem ZAc {e:SEntry} (h:Ty.Ok .sentry e):Num e.op.v:=by
 have:=h (.int .i64 e.op.v) (by simp [Ty.enc,ZnM])
 cases this with
 | int h=>exact Zz8 h
theorem ZwO {l:List SEntry} (h:(Zaw .sentry).Ok l):∀ e∈l,Num e.op.v:=fun e he=>ZAc (h.2 e he)
def Zpm:Wld:=Wld.mk (Config.mk (0:Int) (0:Int) (0:Int) (0:Int) (0:Int) (0:Int) (0:Int) (0:Int) false (0:Int) (0:Int) (0:Int)) (Memo.mk ([]:List Int) ([]:List (List Entry))) ([]:List Thread) (0:Int) (0:Int) (Tape.mk ([]:List Int) (0:Int)) ([]:List Mark) ([]:List Event)
end Go.Proofs.Mill
/- Worlds as the references have them, and alike (law17). -/
namespace Go.Proofs.Mill
theorem Zpv (l:List Entry) (h:l.length<=4294967296):Zgk l=some l:=by
 have hw:Zln (l,[],0)=some l:=by
   refine Zbi (fun i=>(l,l.take i,(i:Int))) l.length (fun i hi=>?_) ?_
   . have h1:(i:Int)<(l.length:Int):=by omega
     have h2:fewB (i+1)=true:=ZaW (by omega)
     have h3:min i l.length=i:=by omega
     simp only [Zd9,Zhe,Zas,if_pos h1,if_pos (Int.natCast_nonneg i),List.length_take,List.length_cons,List.length_nil,h3,h2,cond_true,Int.toNat_natCast]
     rw [ZcO l _ i hi,Zat (by omega) (by omega)]
     rfl
   . simp [Zd9,Zhe]
 simp only [Zgk,hw]
theorem Zvz (m:Memo) (h:m.boxes.length<=4294967296) (hb:∀ b∈m.boxes,b.length<=4294967296):Zjy m=some m:=by
 have hw:Zmx (m,⟨[],[]⟩,{ m with boxes:=[] },0)=some (⟨[],[]⟩,m):=by
   refine Zbi (fun i=>(m,(⟨[],[]⟩:Memo),{ m with boxes:=m.boxes.take i },(i:Int))) m.boxes.length (fun i hi=>?_) ?_
   . have h1:(i:Int)<(m.boxes.length:Int):=by omega
     have h2:fewB (i+1)=true:=ZaW (by omega)
     have h3:min i m.boxes.length=i:=by omega
     have h4:Zgk (m.boxes.getD i ([]:List Entry))=some (m.boxes.getD i ([]:List Entry)):=by
       refine Zpv _ (hb _ ?_)
       rw [List.getD_eq_getElem?_getD,List.getElem?_eq_getElem hi,Option.getD_some]
       exact List.getElem_mem hi
     simp only [Zey,Zh4,ZeX,Zas,if_pos h1,if_pos (Int.natCast_nonneg i),List.length_take,List.length_cons,List.length_nil,h3,h2,cond_true,Int.toNat_natCast,h4]
     rw [ZcO m.boxes _ i hi,Zat (by omega) (by omega)]
     rfl
   . simp [Zey,Zh4]
 simp only [Zjy]
 rw [show (Memo.mk ([]:List Int) ([]:List (List Entry)))=⟨[],[]⟩ from rfl]
 simp only [hw]
theorem ZwP (t:Thread) (h:t.kids.length<=4294967296) (hb:t.batch.length<=4294967296):Zlb t=some t:=by
 have hw:∀ z:Thread,ZnH (t,z,{ t with kids:=[] },0)=some (z,t):=by
   intro z
   refine Zbi (fun i=>(t,z,{ t with kids:=t.kids.take i },(i:Int))) t.kids.length (fun i hi=>?_) ?_
   . have h1:(i:Int)<(t.kids.length:Int):=by omega
     have h2:fewB (i+1)=true:=ZaW (by omega)
     have h3:min i t.kids.length=i:=by omega
     simp only [Ze9,ZiP,Zas,if_pos h1,if_pos (Int.natCast_nonneg i),List.length_take,List.length_cons,List.length_nil,h3,h2,cond_true,Int.toNat_natCast]
     rw [ZcO t.kids _ i hi,Zat (by omega) (by omega)]
     rfl
   . simp [Ze9,ZiP]
 simp only [Zlb,ZeX,Zpv _ hb]
 have:=hw (Thread.mk (0:Int) (0:Int) (Op.mk (0:Int) (0:Int)) ([]:List Entry) ([]:List Kid) ([]:List Int) (0:Int) (0:Int) (0:Int) (0:Int) (0:Int) (0:Int) (0:Int) (0:Int) (0:Int) (0:Int))
 split
 . rename_i y e
   have e2:=this.symm.trans e
   obtain rfl:=Option.some.inj e2
   rfl
 . rename_i e
   have e2:=this.symm.trans e
   cases e2
theorem Zxg (l:List Mark) (h:l.length<=4294967296):ZkW l=some l:=by
 have hw:ZnA (l,[],0)=some l:=by
   refine Zbi (fun i=>(l,l.take i,(i:Int))) l.length (fun i hi=>?_) ?_
   . have h1:(i:Int)<(l.length:Int):=by omega
     have h2:fewB (i+1)=true:=ZaW (by omega)
     have h3:min i l.length=i:=by omega
     simp only [Zfd,Zi2,Zas,if_pos h1,if_pos (Int.natCast_nonneg i),List.length_take,List.length_cons,List.length_nil,h3,h2,cond_true,Int.toNat_natCast]
     rw [ZcO l _ i hi,Zat (by omega) (by omega)]
     rfl
   . simp [Zfd,Zi2]
 simp only [ZkW,hw]
theorem Zt1 (l:List Int) (h:l.length<=4294967296):ZmU l l=some true:=by
 have hw:ZoB (l,l,0)=some (.inl ()):=by
   refine Zbi (fun i=>(l,l,(i:Int))) l.length (fun i hi=>?_) ?_
   . have h1:(i:Int)<(l.length:Int):=by omega
     simp only [Zfx,ZjL,Zas,if_pos h1,if_pos (Int.natCast_nonneg i),bne_self_eq_false,cond_false]
     rw [Zat (by omega) (by omega)]
     rfl
   . simp [Zfx,ZjL]
 simp only [ZmU,bne_self_eq_false,cond_false,hw]
theorem Zt5 (l:List Entry) (h:l.length<=4294967296):Zi6 l l=some true:=by
 have hw:Zok (l,l,0)=some (.inl ()):=by
   refine Zbi (fun i=>(l,l,(i:Int))) l.length (fun i hi=>?_) ?_
   . have h1:(i:Int)<(l.length:Int):=by omega
     simp only [ZfE,ZjW,Zas,if_pos h1,if_pos (Int.natCast_nonneg i),beq_self_eq_true,Bool.and_self,Bool.not_true,cond_false]
     rw [Zat (by omega) (by omega)]
     rfl
   . simp [ZfE,ZjW]
 simp only [Zi6,bne_self_eq_false,cond_false,hw]
theorem ZB2 (m:Memo) (h:m.words.length<=4294967296) (h2:m.boxes.length<=4294967296) (hb:∀ b∈m.boxes,b.length<=4294967296):ZmG m m=some true:=by
 have hw:Zoo (m,m,0)=some (.inl ()):=by
   refine Zbi (fun i=>(m,m,(i:Int))) m.boxes.length (fun i hi=>?_) ?_
   . have h1:(i:Int)<(m.boxes.length:Int):=by omega
     have h4:Zi6 (m.boxes.getD i ([]:List Entry)) (m.boxes.getD i ([]:List Entry))=some true:=by
       refine Zt5 _ (hb _ ?_)
       rw [List.getD_eq_getElem?_getD,List.getElem?_eq_getElem hi,Option.getD_some]
       exact List.getElem_mem hi
     simp only [Zfj,Zjp,ZgF,Zas,if_pos h1,if_pos (Int.natCast_nonneg i),Int.toNat_natCast,h4,Bool.not_true,cond_false]
     rw [Zat (by omega) (by omega)]
     rfl
   . simp [Zfj,Zjp]
 simp only [ZmG,ZgR,Zt1 _ h,bne_self_eq_false,Bool.not_true,cond_false,hw]
theorem Zw9 (t:Thread) (h:t.kids.length<=4294967296) (hb:t.batch.length<=4294967296) (hh:t.held.length<=4294967296):Zm9 t t=some true:=by
 have hw:Zou (t,t,0)=some (.inl (t,t)):=by
   refine Zbi (fun i=>(t,t,(i:Int))) t.kids.length (fun i hi=>?_) ?_
   . have h1:(i:Int)<(t.kids.length:Int):=by omega
     simp only [ZfG,ZjK,Zas,if_pos h1,if_pos (Int.natCast_nonneg i),beq_self_eq_true,Bool.and_self,Bool.not_true,cond_false]
     rw [Zat (by omega) (by omega)]
     rfl
   . simp [ZfG,ZjK]
 simp only [Zm9,ZgF,Zt5 _ hb,ZgR,Zt1 _ hh,bne_self_eq_false,Bool.not_true,cond_false,hw,beq_self_eq_true,Bool.and_self,cond_true]
theorem Zz2 (t:Tape) (h:t.l.length<=4294967296):Zmj t t=some true:=by
 have hw:ZoD (t,t,0)=some (.inl ()):=by
   refine Zbi (fun i=>(t,t,(i:Int))) t.l.length (fun i hi=>?_) ?_
   . have h1:(i:Int)<(t.l.length:Int):=by omega
     simp only [Zfm,Zjt,Zas,if_pos h1,if_pos (Int.natCast_nonneg i),bne_self_eq_false,cond_false]
     rw [Zat (by omega) (by omega)]
     rfl
   . simp [Zfm,Zjt]
 simp only [Zmj,bne_self_eq_false,cond_false,hw]
theorem Zzv (l:List Mark) (h:l.length<=4294967296):Zk3 l l=some true:=by
 have hw:ZnD (l,l,0)=some (.inl ()):=by
   refine Zbi (fun i=>(l,l,(i:Int))) l.length (fun i hi=>?_) ?_
   . have h1:(i:Int)<(l.length:Int):=by omega
     simp only [Ze4,ZiN,Zas,if_pos h1,if_pos (Int.natCast_nonneg i),beq_self_eq_true,Bool.and_self,Bool.not_true,cond_false]
     rw [Zat (by omega) (by omega)]
     rfl
   . simp [Ze4,ZiN]
 simp only [Zk3,bne_self_eq_false,cond_false,hw]
structure WSm (w:Wld):Prop where
  boxes:w.m.boxes.length<=4294967296
  box:∀ b∈w.m.boxes,b.length<=4294967296
  t:w.t.length<=4294967296
  batch:∀ t∈w.t,t.batch.length<=4294967296
  kids:∀ t∈w.t,t.kids.length<=4294967296
  log:w.log.length<=4294967296
  hist:w.hist.length<=4294967296
theorem ZiW {w:Wld} (h:WSm w):Zj2 w=some w:=by
 have h3:∀ z:Wld,ZmW (w,z,{ w with t:=[],hist:=[] },0)=some (w,z,{ w with hist:=[] }):=by
   intro z
   refine Zbi (fun i=>(w,z,{ w with t:=w.t.take i,hist:=[] },(i:Int))) w.t.length (fun i hi=>?_) ?_
   . have h1:(i:Int)<(w.t.length:Int):=by omega
     have ht:=h.t
     have h2:fewB (i+1)=true:=ZaW (by omega)
     have h3:min i w.t.length=i:=by omega
     have hm:w.t.getD i Zax∈w.t:=by
       rw [List.getD_eq_getElem?_getD,List.getElem?_eq_getElem hi,Option.getD_some]
       exact List.getElem_mem hi
     simp only [ZeO,Zie,ZkT,Zas,if_pos h1,if_pos (Int.natCast_nonneg i),List.length_take,List.length_cons,List.length_nil,h3,Int.toNat_natCast,ZwP _ (h.kids _ hm) (h.batch _ hm),h2,cond_true]
     rw [ZcO w.t _ i hi,Zat (by omega) (by omega)]
     rfl
   . simp [ZeO,Zie]
 have h7:∀ z:Wld,Zms (w,z,{ w with hist:=[] },0)=some (z,w):=by
   intro z
   refine Zbi (fun i=>(w,z,{ w with hist:=w.hist.take i },(i:Int))) w.hist.length (fun i hi=>?_) ?_
   . have h1:(i:Int)<(w.hist.length:Int):=by omega
     have ht:=h.hist
     have h2:fewB (i+1)=true:=ZaW (by omega)
     have h3:min i w.hist.length=i:=by omega
     simp only [Zer,Zia,Zas,if_pos h1,if_pos (Int.natCast_nonneg i),List.length_take,List.length_cons,List.length_nil,h3,Int.toNat_natCast,h2,cond_true]
     rw [ZcO w.hist _ i hi,Zat (by omega) (by omega)]
     rfl
   . simp [Zer,Zia]
 simp only [Zj2,ZjY,Zvz _ h.boxes h.box,ZkV,Zxg _ h.log]
 have:=h3 (Wld.mk (Config.mk (0:Int) (0:Int) (0:Int) (0:Int) (0:Int) (0:Int) (0:Int) (0:Int) false (0:Int) (0:Int) (0:Int)) (Memo.mk ([]:List Int) ([]:List (List Entry))) ([]:List Thread) (0:Int) (0:Int) (Tape.mk ([]:List Int) (0:Int)) ([]:List Mark) ([]:List Event))
 obtain ⟨c,m,t,now,steps,tape,log,hist⟩:=w
 simp only at this h7 ⊢
 rw [this]
 simp only
 rw [h7]
theorem Zw4 (l:List SEntry) (h:l.length<=4294967296):ZkU l=some l:=by
 have hw:Znk (l,[],0)=some l:=by
   refine Zbi (fun i=>(l,l.take i,(i:Int))) l.length (fun i hi=>?_) ?_
   . have h1:(i:Int)<(l.length:Int):=by omega
     have h2:fewB (i+1)=true:=ZaW (by omega)
     have h3:min i l.length=i:=by omega
     simp only [Ze5,ZiS,Zas,if_pos h1,if_pos (Int.natCast_nonneg i),List.length_take,List.length_cons,List.length_nil,h3,h2,cond_true,Int.toNat_natCast]
     rw [ZcO l _ i hi,Zat (by omega) (by omega)]
     rfl
   . simp [Ze5,ZiS]
 simp only [ZkU,hw]
theorem ZwJ (l:List Event) (h:l.length<=4294967296):ZjM l l=some true:=by
 have hw:Zmr (l,l,0)=some (.inl ()):=by
   refine Zbi (fun i=>(l,l,(i:Int))) l.length (fun i hi=>?_) ?_
   . have h1:(i:Int)<(l.length:Int):=by omega
     simp only [Zeu,Zh2,Zas,if_pos h1,if_pos (Int.natCast_nonneg i),beq_self_eq_true,Bool.and_self,Bool.not_true,cond_false]
     rw [Zat (by omega) (by omega)]
     rfl
   . simp [Zeu,Zh2]
 simp only [ZjM,bne_self_eq_false,cond_false,hw]
structure WBig (w:Wld):Prop extends WSm w where
  words:w.m.words.length<=4294967296
  held:∀ t∈w.t,t.held.length<=4294967296
  tape:w.tape.l.length<=4294967296
theorem Zlz {w:Wld} (h:WBig w):ZmL w w=some true:=by
 have ht:=h.t
 have hw:Zot (w,w,0)=some (.inl ()):=by
   refine Zbi (fun i=>(w,w,(i:Int))) w.t.length (fun i hi=>?_) ?_
   . have h1:(i:Int)<(w.t.length:Int):=by omega
     have hm:w.t.getD i Zax∈w.t:=by
       rw [List.getD_eq_getElem?_getD,List.getElem?_eq_getElem hi,Option.getD_some]
       exact List.getElem_mem hi
     simp only [Zfk,ZjV,ZiE,Zas,if_pos h1,if_pos (Int.natCast_nonneg i),Int.toNat_natCast,Zw9 _ (h.kids _ hm) (h.batch _ hm) (h.held _ hm),Bool.not_true,cond_false]
     rw [Zat (by omega) (by omega)]
     rfl
   . simp [Zfk,ZjV]
 unfold ZmL
 simp only [beq_self_eq_true,Bool.and_self,Bool.not_true,cond_false,bne_self_eq_false,Zin,ZB2 _ h.words h.boxes h.box,ZiD,Zz2 _ h.tape,ZhV,Zzv _ h.log,Zj8,ZwJ _ h.hist,hw]
end Go.Proofs.Mill
/- A world's step as world.Step takes it; how long its lists are. -/
namespace Go.Proofs.Mill
theorem Zu3 {l:List Thread} (h:l.length<=4294967296):ZcJ l=some l:=by
 simp only [ZcJ,Zfw,Nat.zero_add,ZaW h,cond_true]
theorem ZxE {l:List Mark} (h:l.length<=4294967296):ZcY l=some l:=by
 simp only [ZcY,Zf3,Nat.zero_add,ZaW h,cond_true]
theorem ZvZ {l:List Event} (h:l.length<=4294967296):ZcT l=some l:=by
 simp only [ZcT,ZfX,Nat.zero_add,ZaW h,cond_true]
def Zlv (w:Wld) (e:SEntry):Int:=if e.kind=1/\(w.t.getD e.t.toNat Zax).phase≠0 then 170 else 0
def ZdR (w:Wld) (e:SEntry):Wld×Int:=if Zdn w.c e≠0 then (w,Zdn w.c e) else (ZcE w e,Zlv w e)
section
variable {c:Config} {w:Wld} {n:Nat} {ro pa rt:Int->Int} {co:Int->Option Int} {t:Int}
theorem Zzg (W:WInv c w n ro pa rt co) (hC:CfgOK c) (hlo:Num c.lo) (hhi:Num c.hi) (hn:n<=200000) (e:SEntry) (hop:Num e.op.v):ZmR (w,e)=some (ZdR w e):=by
 show Zml w e=_
 unfold Zml ZdR
 rw [show Zg7 (w.c,e)=some (Zdn w.c e) from Zv0 w.c e]
 simp only []
 by_cases k:Zdn w.c e=0
 case neg=>rw [ZeQ k,if_pos k];rfl
 rw [ZfN k,if_neg (fun x=>x k)]
 have hlT:=W.lenT
 have hT:=hC.threads
 have hlo1:=W.log
 have hh:=W.hist
 have hE:=(W.entry hC hlo hhi hn (e:=e) (by rw [<- W.cE];exact k) hop).1
 have k':Zdn c e=0:=by rw [<- W.cE];exact k
 rw [Zu3 (by omega),ZxE (by omega),ZvZ (by omega)]
 simp only [cond_false,Zas]
 rcases Zl3 k' with ⟨k1,ht,hi,ho⟩ | ⟨k1,ht⟩ | k1
 . have h0:=ht.1
   have h1:=ht.2
   rw [ZaT k1,cond_true,if_pos h0,if_pos (by omega)]
   simp only [ZbO,Zf6]
   by_cases p:(w.t.getD e.t.toNat Zax).phase=0
   . have ec:Zlv w e=0:=if_neg (fun x=>x.2 p)
     have es:ZcE w e={ w with t:=w.t.set e.t.toNat (ZfA w.c e.t e.item e.op w.now (w.t.getD e.t.toNat Zax).width),hist:=w.hist++[⟨1,e.t,e.item,e.op,0,false,w.steps⟩] }:=by
       unfold ZcE invT
       rw [if_pos k1,if_neg (fun x=>x p)]
     rw [ec,es,ZfN p,cond_false]
     have hb:Zc2 (w.c,e.t,w.t.getD e.t.toNat Zax,e.item,e.op,w.now)=some (ZfA w.c e.t e.item e.op w.now (w.t.getD e.t.toNat Zax).width):=Zvx (by rw [W.cE];exact hC) _ _ _ _ _
     rw [hb]
     simp only []
     rw [ZaW (by simp;omega),cond_true]
   . have ec:Zlv w e=170:=if_pos ⟨k1,p⟩
     have es:ZcE w e={ w with hist:=w.hist++[⟨3,e.t,e.item,e.op,0,false,w.steps⟩] }:=by
       unfold ZcE invT
       rw [if_pos k1,if_pos p]
     rw [ec,es,ZeQ p,cond_true,ZaW (by simp;omega),cond_true]
 . have ec:Zlv w e=0:=if_neg (fun x=>by omega)
   rw [ec,ZaC (show ¬e.kind=1 by omega),cond_false,ZaT k1,cond_true]
   unfold Zqj at hE
   rw [if_neg (by omega),if_pos k1] at hE
   rw [hE]
 . have ec:Zlv w e=0:=if_neg (fun x=>by omega)
   have es:ZcE w e={ w with now:=Zaf .i64 (w.now+1) }:=by
     unfold ZcE
     rw [if_neg (by omega),if_neg (by omega),if_pos k1]
   rw [ec,es,ZaC (show ¬e.kind=1 by omega),cond_false,ZaC (show ¬e.kind=2 by omega),cond_false,ZaT k1,cond_true]
end
def ZGg (h:Thread):Prop:=h.batch.length<=1000000/\h.kids.length<=1000000/\h.held.length<=4294967295
theorem ZiK (g:Thread):(ZbB g).batch=g.batch/\(ZbB g).kids=g.kids/\(ZbB g).held=g.held:=by
 unfold ZbB
 split <;> exact ⟨rfl,rfl,rfl⟩
theorem Tr.done_lists {c:Config} {t:Int} {v v':Vw} {h:Thread} {log:List Mark} (T:Tr c t v h v' log true):(v'.th t).batch=h.batch/\(v'.th t).kids=h.kids/\(v'.th t).held=h.held:=by
 generalize hd:true=d at T
 cases T with
 | same p e=>rw [Zbm];exact ZiK _
 | cas p e=>rw [Zbm];exact ZiK _
 | res p=>rw [Zbm];exact ZiK _
 | tell2 p a w=>rw [Zbm];exact ZiK _
 | _=>cases hd
def Shorts (w:Wld):Prop:=∀ h∈w.t,ZGg h
theorem Zq2 {α:Type} {l:List α} {i:Nat} {x y:α} (h:y∈l.set i x):y=x\/y∈l:=by
 rcases List.mem_or_eq_of_mem_set h with h | h
 . exact .inr h
 . exact .inl h
section
variable {c:Config} {w:Wld} {n:Nat} {ro pa rt:Int->Int} {co:Int->Option Int} {t:Int}
theorem Shorts.entry (S:Shorts w) (W:WInv c w n ro pa rt co) (hC:CfgOK c) (hlo:Num c.lo) (hhi:Num c.hi) (hn:n<=190000) {e:SEntry} (he:Zdn c e=0):Shorts (ZcE w e):=by
 unfold ZcE
 rcases Zl3 he with ⟨k,ht,hi,ho⟩ | ⟨k,ht⟩ | k
 . rw [if_pos k]
   unfold invT
   split
   . exact S
   . intro h hh
     rcases Zq2 hh with rfl | hh
     . exact ⟨by show ([_]:List Entry).length<=_;simp,by show ([]:List Kid).length<=_;simp,by show ([]:List Int).length<=_;simp⟩
     . exact S h hh
 . rw [if_neg (by omega),if_pos k]
   split
   . exact S
   . rename_i hp
     obtain ⟨_,ro',pa',rt',co1,W',_,T⟩:=W.pick hC hlo hhi (by omega) ht hp
     intro h hh
     have hth:((vw c (Zcd w e.t (ZaH (Za5 w e.t))).m (Zcd w e.t (ZaH (Za5 w e.t))).t).th e.t)=(ZaH (Za5 w e.t)).th:=by
       have h0:=ht.1
       have h1:=ht.2
       have:=W.lenT
       rw [ZhU ht]
       have e2:(Zcd w e.t (ZaH (Za5 w e.t))).t=w.t.set e.t.toNat (ZaH (Za5 w e.t)).th:=by unfold Zcd;split <;> rfl
       rw [e2,List.getD_eq_getElem?_getD,List.getElem?_set_self (by omega)]
       rfl
     have hh:h∈(Zcd w e.t (ZaH (Za5 w e.t))).t:=hh
     have e2:(Zcd w e.t (ZaH (Za5 w e.t))).t=w.t.set e.t.toNat (ZaH (Za5 w e.t)).th:=by unfold Zcd;split <;> rfl
     rw [e2] at hh
     rcases Zq2 hh with rfl | hh
     . by_cases hz:(ZaH (Za5 w e.t)).th.phase=0
       . have hd:(ZaH (Za5 w e.t)).done=true:=by
           have:=(T.idle (by rw [ZhU ht]) hp).1
           rw [hth] at this
           exact this hz
         rw [hd] at T
         obtain ⟨a,b,d⟩:=T.done_lists
         rw [hth] at a b d
         have hm:w.t.getD e.t.toNat Zax∈w.t:=by
           have h0:=ht.1
           have h1:=ht.2
           have:=W.lenT
           rw [List.getD_eq_getElem?_getD,List.getElem?_eq_getElem (by omega),Option.getD_some]
           exact List.getElem_mem _
         obtain ⟨s1,s2,s3⟩:=S _ hm
         exact ⟨by rw [a];exact s1,by rw [b];exact s2,by rw [d];exact s3⟩
       . have hg:(Zcd w e.t (ZaH (Za5 w e.t))).t.getD e.t.toNat Zax=(ZaH (Za5 w e.t)).th:=by rw [<- ZhU ht];exact hth
         have hf:=W'.fit hC hlo hhi ht (by rw [hg];exact hz)
         have e3:(Za5 (Zcd w e.t (ZaH (Za5 w e.t))) e.t).th=(ZaH (Za5 w e.t)).th:=hg
         have f1:=hf.g.batch
         have f2:=hf.g.kids
         have f3:=hf.held
         rw [e3] at f1 f2 f3
         exact ⟨f1,f2,f3⟩
     . exact S h hh
 . rw [if_neg (by omega),if_neg (by omega),if_pos k]
   exact S
theorem Zxv (d:List Int):Shorts (newW c d):=by
 intro h hh
 have hh:h∈List.replicate c.threads.toNat newT:=hh
 rw [(List.mem_replicate.1 hh).2]
 exact ⟨by show ([]:List Entry).length<=_;simp,by show ([]:List Kid).length<=_;simp,by show ([]:List Int).length<=_;simp⟩
theorem WInv.big (W:WInv c w n ro pa rt co) (S:Shorts w) (hC:CfgOK c) (hn:n<=190000):WBig w:=by
 have hlT:=W.lenT
 have hlB:=W.lenB
 have hlW:=W.lenW
 have hT:=hC.threads
 have hs:=Zhs hC
 have hl:=W.log
 have hh:=W.hist
 refine ⟨⟨by omega,fun b hb=>?_,by omega,fun h hm=>by have:=(S h hm).1;omega,fun h hm=>by have:=(S h hm).2.1;omega,by omega,by omega⟩,by omega,fun h hm=>by have:=(S h hm).2.2;omega,W.tape.2⟩
 obtain ⟨i,hi',rfl⟩:=List.mem_iff_getElem.1 hb
 have hin:InT c (i:Int):=⟨by omega,by omega⟩
 have:=(W.inv.loc i hin).boxl
 rw [rd_X hin,Int.toNat_natCast,List.getD_eq_getElem?_getD,List.getElem?_eq_getElem hi'] at this
 have this:(w.m.boxes[i]).length<=16:=this
 omega
end
end Go.Proofs.Mill
/- What the laws of layer 17 have in common. -/
namespace Go.Proofs.Mill
def ZFf (c:Config):Prop:=Num c.init/\Num c.lo/\Num c.hi
theorem ZEi {c:Config} (o:(Zap celConfig).Ok c):ZFf c:=by
 have h1:∀ x:Int,AV.int .i64 x∈celConfig.enc c->Num x:=fun x hx=>Zz8 (o _ hx)
 refine ⟨h1 _ ?_,h1 _ ?_,h1 _ ?_⟩ <;> simp [celConfig,Zbc,Zae,Zao,celBool]
theorem ZD2:ZeU ()=some true:=rfl
theorem Zxn (c:Config) (e:SEntry):ZhH (c,e)=some (Zdn c e):=by
 show Zla c e=_
 unfold Zla Zdn
 simp only [Zas,Zkc,ZwA]
 by_cases h1:e.kind<1
 . rw [if_pos h1,if_pos (.inl h1)]
 rw [if_neg h1]
 by_cases h2:e.kind>3
 . rw [if_pos h2,if_pos (.inr h2)]
 rw [if_neg h2,if_neg (show ¬(e.kind<1\/e.kind>3) by omega)]
 by_cases h3:e.kind=3
 . rw [ZaT h3,if_pos h3];rfl
 rw [ZaC h3,if_neg h3,cond_false]
 by_cases h4:e.t<0
 . rw [if_pos h4,if_pos (.inl h4)]
 rw [if_neg h4]
 by_cases h5:e.t>=c.threads
 . rw [if_pos h5,if_pos (.inr h5)]
 rw [if_neg h5,if_neg (show ¬(e.t<0\/e.t>=c.threads) by omega)]
 by_cases h6:e.kind=2
 . rw [ZaT h6,if_pos h6];rfl
 rw [ZaC h6,if_neg h6,cond_false]
 by_cases h7:e.item<0
 . rw [if_pos h7,if_pos (.inl h7)]
 rw [if_neg h7]
 by_cases h8:e.item>=c.items
 . rw [if_pos h8,if_pos (.inr h8)]
 rw [if_neg h8,if_neg (show ¬(e.item<0\/e.item>=c.items) by omega)]
 cases ZfM e.op c.bounded <;> rfl
def count (l:List Event) (k:Int):Int:=((l.filter fun e=>e.kind == k).length:Int)
theorem ZwM {α:Type} (p:α->Bool) (l:List α) (d:α) (i:Nat) (h:i<l.length):(l.take (i+1)).filter p=if p (l.getD i d)=true then (l.take i).filter p++[l.getD i d] else (l.take i).filter p:=by
 rw [<- ZcO l d i h,List.filter_append]
 by_cases hp:p (l.getD i d)=true
 . rw [if_pos hp,List.filter_cons_of_pos hp,List.filter_nil]
 . rw [if_neg hp,List.filter_cons_of_neg hp,List.filter_nil,List.append_nil]
def Zc6:Nat->(Nat->Nat)->Nat
 | 0,_=>0
 | n+1,g=>Zc6 n g+g n
theorem Zqw:∀ (n:Nat) (f g:Nat->Nat),Zc6 n (fun j=>f j+g j)=Zc6 n f+Zc6 n g
 | 0,_,_=>rfl
 | n + 1, f, g => by
   show Zc6 n _+(f n+g n)=Zc6 n f+f n+(Zc6 n g+g n)
   rw [Zqw n f g];omega
theorem Znz:∀ (n:Nat) {f g:Nat->Nat},(∀ j,j<n->f j=g j)->Zc6 n f=Zc6 n g
 | 0,_,_,_=>rfl
 | n + 1, f, g, h => by
   show Zc6 n f+f n=Zc6 n g+g n
   rw [Znz n (fun j hj=>h j (by omega)),h n (by omega)]
theorem Zwc:∀ (n:Nat) {f g:Nat->Nat},(∀ j,j<n->f j<=g j)->Zc6 n f<=Zc6 n g
 | 0,_,_,_=>Nat.le_refl _
 | n + 1, f, g, h => by
   have:=Zwc n (f:=f) (g:=g) (fun j hj=>h j (by omega))
   have:=h n (by omega)
   show Zc6 n f+f n<=Zc6 n g+g n
   omega
theorem ZoS:∀ n,Zc6 n (fun _=>0)=0
 | 0=>rfl
 | n+1=>by show Zc6 n _+0=0;rw [ZoS n]
theorem Zuj {k:Nat}:∀ n,k<n->Zc6 n (fun j=>if k=j then 1 else 0)=1
 | 0,h=>by omega
 | n + 1, h => by
   show Zc6 n _+(if k=n then 1 else 0)=1
   by_cases e:k=n
   . rw [if_pos e,Znz n (g:=fun _=>0) (fun j hj=>if_neg (by omega)),ZoS]
   . rw [if_neg e,Zuj n (by omega)]
theorem Zjd {α:Type} {f:α->Int} {T:Nat}:∀ l:List α,(∀ x∈l,0<=f x/\f x<(T:Int))->l.length=Zc6 T (fun j=>(l.filter fun x=>f x == (j:Int)).length)
 | [],_=>(ZoS T).symm
 | a :: l, h => by
   have ih:=Zjd l (fun x hx=>h x (List.mem_cons_of_mem _ hx))
   have ha:=h a (List.mem_cons_self ..)
   have e:Zc6 T (fun j=>((a::l).filter fun x=>f x == (j:Int)).length)=Zc6 T (fun j=>(if (f a).toNat=j then 1 else 0)+(l.filter fun x=>f x == (j:Int)).length):=by
     refine Znz T fun j hj=>?_
     rw [List.filter_cons]
     by_cases g:f a=(j:Int)
     . rw [if_pos (by simp [g]),if_pos (by omega),List.length_cons];omega
     . rw [if_neg (by simp [g]),if_neg (by omega)];omega
   rw [e,Zqw,Zuj T (by omega),<- ih,List.length_cons]
   omega
theorem Zr7 {l:List Thread}:∀ n,n<=l.length->Zu8 (l.take n)=Zc6 n (fun j=>if (l.getD j Zax).phase≠0 then 1 else 0)
 | 0,_=>by rw [List.take_zero];rfl
 | n + 1, h => by
   unfold Zu8
   rw [ZwM (fun t:Thread=>t.phase != 0) l Zax n (by omega)]
   show _=Zc6 n _+(if (l.getD n Zax).phase≠0 then 1 else 0)
   rw [<- Zr7 n (by omega)]
   unfold Zu8
   by_cases g:(l.getD n Zax).phase=0
   . rw [if_neg (show ¬((l.getD n Zax).phase != 0)=true by rw [ZfN g];decide),if_neg (fun x=>x g)];rfl
   . rw [if_pos (show ((l.getD n Zax).phase != 0)=true from ZeQ g),if_pos g,List.length_append,List.length_singleton]
theorem ZsS {lo hi j:Int} {own:List Mark}:∀ {l:List Event} {s s':Nat×Bool×Event},ansL lo hi j own s l=some s'->(∀ e∈l,e.kind=1\/e.kind=2\/e.kind=3) ->
   s'.1=s.1+(((l.filter fun e=>e.kind == 2)).filter fun e=>e.t == j).length /\
   s'.1+(if s'.2.1=true then 1 else 0)=s.1+(if s.2.1=true then 1 else 0)+(((l.filter fun e=>e.kind == 1)).filter fun e=>e.t == j).length
 | [],s,s',h,_=>by cases h;exact ⟨rfl,rfl⟩
 | e :: l, s, s', h, hk => by
   have h:(match ansE lo hi j own s e with | some s=>ansL lo hi j own s l | none=>none)=some s':=h
   have hke:=hk e (List.mem_cons_self ..)
   cases h1:ansE lo hi j own s e with
   | none=>rw [h1] at h;cases h
   | some v =>
     rw [h1] at h
     obtain ⟨i1,i2⟩:=ZsS h (fun x hx=>hk x (List.mem_cons_of_mem _ hx))
     rw [i1]
     rw [i1] at i2
     have key:∀ k:Int,(((e::l).filter fun e=>e.kind == k).filter fun e=>e.t == j).length=(if e.kind=k/\e.t=j then 1 else 0)+((l.filter fun e=>e.kind == k).filter fun e=>e.t == j).length:=by
       intro k
       rw [List.filter_cons]
       by_cases g:e.kind=k
       . rw [if_pos (by simp [g]),List.filter_cons]
         by_cases g2:e.t=j
         . rw [if_pos (by simp [g2]),if_pos ⟨g,g2⟩,List.length_cons];omega
         . rw [if_neg (by simp [g2]),if_neg (fun x=>g2 x.2)];omega
       . rw [if_neg (by simp [g]),if_neg (fun x=>g x.1)];omega
     rw [key 1,key 2]
     unfold ansE at h1
     by_cases g:e.t≠j\/e.kind=3
     . rw [if_pos g] at h1
       obtain rfl:=Option.some.inj h1
       rw [if_neg (show ¬(e.kind=2/\e.t=j) from fun x=>g.elim (fun y=>y x.2) (fun y=>by omega)),if_neg (show ¬(e.kind=1/\e.t=j) from fun x=>g.elim (fun y=>y x.2) (fun y=>by omega))]
       omega
     . rw [if_neg g] at h1
       have ht:e.t=j:=Classical.not_not.1 (fun x=>g (.inl x))
       have h3:e.kind≠3:=fun x=>g (.inr x)
       by_cases k:e.kind=1
       . rw [if_pos k] at h1
         split at h1
         . cases h1
         . rename_i so
           obtain rfl:=Option.some.inj h1
           rw [if_neg (show ¬(e.kind=2/\e.t=j) by omega),if_pos (show e.kind=1/\e.t=j from ⟨k,ht⟩),if_neg so]
           rw [if_pos (show ((s.1,true,e):Nat×Bool×Event).2.1=true from rfl)] at i2
           have e0:((s.1,true,e):Nat×Bool×Event).1=s.1:=rfl
           rw [e0] at i2 ⊢
           omega
       . rw [if_neg k] at h1
         split at h1
         . rename_i f
           obtain rfl:=Option.some.inj h1
           rw [if_pos (show e.kind=2/\e.t=j from ⟨by omega,ht⟩),if_neg (show ¬(e.kind=1/\e.t=j) from fun x=>k x.1),if_pos f.1]
           rw [if_neg (show ¬((s.1+1,false,s.2.2):Nat×Bool×Event).2.1=true from fun x=>by cases x)] at i2
           have e0:((s.1+1,false,s.2.2):Nat×Bool×Event).1=s.1+1:=rfl
           rw [e0] at i2 ⊢
           omega
         . cases h1
section
variable {c:Config} {w:Wld} {n:Nat} {ro pa rt:Int->Int} {co:Int->Option Int}
theorem Lin.counts (Li:Lin c w ro co) (W:WInv c w n ro pa rt co) (hC:CfgOK c):count w.hist 1=count w.hist 2+(Zu8 w.t:Int)/\w.log.length<=(w.hist.filter fun e=>e.kind == 1).length:=by
 have hT:=hC.threads
 have hlT:=W.lenT
 have hk:∀ e∈w.hist,e.kind=1\/e.kind=2\/e.kind=3:=fun e he=>(Li.ehist e he).2.1
 have hin:∀ (k:Int),∀ e∈(w.hist.filter fun e=>e.kind == k),0<=e.t/\e.t<((c.threads.toNat:Nat):Int):=by
   intro k e he
   have:=(Li.ehist e (List.mem_filter.1 he).1).1
   unfold InT at this
   omega
 have s1:=Zjd (f:=fun e:Event=>e.t) (T:=c.threads.toNat) (w.hist.filter fun e=>e.kind == 1) (hin 1)
 have s2:=Zjd (f:=fun e:Event=>e.t) (T:=c.threads.toNat) (w.hist.filter fun e=>e.kind == 2) (hin 2)
 have s3:=Zjd (f:=fun m:Mark=>m.t) (T:=c.threads.toNat) w.log (fun m hm=>by
   have:=(Li.inlog m hm).1
   unfold InT at this
   omega)
 have s4:=Zr7 (l:=w.t) w.t.length (Nat.le_refl _)
 rw [List.take_length] at s4
 have hTn:w.t.length=c.threads.toNat:=by omega
 rw [hTn] at s4
 have per:∀ j:Nat,j<c.threads.toNat->((w.hist.filter fun e=>e.kind == 1).filter fun x=>x.t == (j:Int)).length=((w.hist.filter fun e=>e.kind == 2).filter fun x=>x.t == (j:Int)).length+(if (w.t.getD j Zax).phase≠0 then 1 else 0)/\(Zcc j w.log).length<=((w.hist.filter fun e=>e.kind == 1).filter fun x=>x.t == (j:Int)).length:=by
   intro j hj
   have hjn:InT c (j:Int):=⟨by omega,by omega⟩
   obtain ⟨k,op,last,a,b,d,f,g⟩:=(Li.ans j hjn).ex
   obtain ⟨c1,c2⟩:=ZsS a hk
   have hph:(vw c w.m w.t).th j=w.t.getD j Zax:=by rw [ZhU hjn];rfl
   have hb:=W.inv.busy hjn
   rw [hph] at hb
   have c1:k=0+((w.hist.filter fun e=>e.kind == 2).filter fun x=>x.t == (j:Int)).length:=c1
   have c2:k+(if op=true then 1 else 0)=0+0+((w.hist.filter fun e=>e.kind == 1).filter fun x=>x.t == (j:Int)).length:=c2
   have hle:(Zcc j w.log).length<=k+(if op=true then 1 else 0):=by
     cases hco:co j with
     | none=>rw [f hco];omega
     | some x =>
       have hr:ro j≠0:=by
         intro h0
         have:=(W.inv.core.k0 j h0).1
         rw [hco] at this;cases this
       rw [(g x hco).1,if_pos (b.2 hr)]
       exact Nat.le_refl _
   refine ⟨?_,by omega⟩
   cases ho:op with
   | true =>
     have hr:=b.1 ho
     rw [ho,if_pos rfl] at c2
     rw [if_pos (fun x=>hr (hb.2 x))]
     omega
   | false =>
     have hr:¬ro j≠0:=fun x=>by have:=b.2 x;rw [ho] at this;cases this
     rw [ho,if_neg (by decide)] at c2
     rw [if_neg (fun x=>hr (fun y=>x (hb.1 y)))]
     omega
 constructor
 . have e:=Znz c.threads.toNat (fun j hj=>(per j hj).1)
   rw [Zqw] at e
   unfold count
   rw [s1,s2,s4,e]
   omega
 . rw [s3,s1]
   exact Zwc _ fun j hj=>(per j hj).2
end
section
variable {c:Config} {w:Wld} {n:Nat} {ro pa rt:Int->Int} {co:Int->Option Int}
theorem Lin.few (Li:Lin c w ro co) (W:WInv c w n ro pa rt co) (hC:CfgOK c):w.log.length<=w.hist.length :=
 Nat.le_trans (Li.counts W hC).2 (List.length_filter_le _ _)
end
theorem ZxL {α:Type} {l:List α} {j:Nat} (d:α) (h:j<l.length):l.drop j=l.getD j d::l.drop (j+1):=by
 rw [List.drop_eq_getElem_cons h,List.getD_eq_getElem?_getD,List.getElem?_eq_getElem h,Option.getD_some]
end Go.Proofs.Mill
/- Whoever waits for ever does not see the time. -/
namespace Go.Proofs.Mill
section
variable (x:Int) (u:Turn)
end
def Evers (w:Wld):Prop:=w.c.wait=0/\∀ h∈w.t,h.until_<=0
theorem ZBn {w:Wld} (h:Evers w) (t:Int):(w.t.getD t.toNat Zax).until_<=0:=by
 rw [List.getD_eq_getElem?_getD]
 by_cases hk:t.toNat<w.t.length
 . rw [List.getElem?_eq_getElem hk]
   exact h.2 _ (List.getElem_mem hk)
 . rw [List.getElem?_eq_none (by omega)]
   exact (show (0:Int)<=0 by omega)
theorem Evers.step {w:Wld} (h:Evers w) (e:SEntry):Evers (ZcE w e):=by
 unfold ZcE
 split
 . unfold invT
   split
   . exact h
   . refine ⟨h.1,fun y hy=>?_⟩
     rcases Zq2 hy with rfl | hy
     . show (if w.c.wait>0 then _ else (0:Int))<=0
       rw [if_neg (by rw [h.1];decide)]
       exact Int.le_refl 0
     . exact h.2 y hy
 split
 . split
   . exact h
   . have hk:(ZaH (Za5 w e.t)).th.until_=(w.t.getD e.t.toNat Zax).until_:=ZyA (ZkN (Za5 w e.t))
     have e1:(Zcd w e.t (ZaH (Za5 w e.t))).c=w.c:=by unfold Zcd;split <;> rfl
     have e2:(Zcd w e.t (ZaH (Za5 w e.t))).t=w.t.set e.t.toNat (ZaH (Za5 w e.t)).th:=by unfold Zcd;split <;> rfl
     refine ⟨by rw [e1];exact h.1,fun y hy=>?_⟩
     rw [e2] at hy
     rcases Zq2 hy with rfl | hy
     . rw [hk];exact ZBn h e.t
     . exact h.2 y hy
 split
 . exact h
 . exact h
end Go.Proofs.Mill
/- What the references do in a step of those who climb, gather, or are in a funnel. -/
namespace Go.Proofs.Mill
theorem ZnY {t:Int} (h0 : -1<=t) (h1:t<=1000):Zlj t=some (8*(t+1)+1):=by
 simp only [Zlj]
 rw [Zat (n:=t+1) (by omega) (by omega),Zat (n:=8*(t+1)) (by omega) (by omega),Zat (by omega) (by omega)]
theorem Zp6 {t:Int} (h0 : -1<=t) (h1:t<=1000):ZjT t=some (8*(t+1)+2):=by
 simp only [ZjT]
 rw [Zat (n:=t+1) (by omega) (by omega),Zat (n:=8*(t+1)) (by omega) (by omega),Zat (by omega) (by omega)]
theorem ZnE {t:Int} (h0 : -1<=t) (h1:t<=1000):Zhh t=some (8*(t+1)+3):=by
 simp only [Zhh]
 rw [Zat (n:=t+1) (by omega) (by omega),Zat (n:=8*(t+1)) (by omega) (by omega),Zat (by omega) (by omega)]
theorem Zps {i l:Int} (h0:0<=i) (h1:i<=1000) (h2:0<=l) (h3:l<=1000):Zl6 i l=some (8*(16*i+l+1)+4):=by
 simp only [Zl6]
 rw [Zat (n:=16*i) (by omega) (by omega),Zat (n:=16*i+l) (by omega) (by omega),Zat (n:=16*i+l+1) (by omega) (by omega),Zat (n:=8*(16*i+l+1)) (by omega) (by omega),Zat (by omega) (by omega)]
theorem Zpf (w:Int):ZmZ w=some (Zb9 w):=by
 unfold ZmZ Zb9
 by_cases e0:w=0
 . subst e0;rfl
 have e0':(w == 0)=false:=by simpa using e0
 rw [e0',cond_false,if_neg e0]
 simp only [ZeE,Zmy]
 by_cases e5:w=5
 . subst e5;rfl
 have e5':(w == 5)=false:=by simpa using e5
 rw [e5',cond_false,if_neg e5]
 have l1:∀ k:Nat,k<=16->Zg2 (w,16-(k:Int))=some (if 1<=w % 8/\w % 8<=3/\16-(k:Int)<=w / 8-1/\w / 8-1<16 then .inr (w % 8) else .inl w):=by
   intro k
   induction k with
   | zero =>
     intro _
     unfold Zg2
     rw [ZbH]
     simp only [Zfl,Zjr,Zas]
     rw [if_neg (by omega),if_neg (by omega)]
   | succ k ih =>
     intro hk
     have ih:=ih (by omega)
     unfold Zg2 at ih ⊢
     rw [ZbH]
     simp only [Zfl,Zjr,Zas,Zde,Zfv,Zd6]
     rw [if_pos (by omega),ZnY (by omega) (by omega),Zp6 (by omega) (by omega),ZnE (by omega) (by omega)]
     simp only
     by_cases a1:w=8*(16-((k+1:Nat):Int)+1)+1
     . have:(w == 8*(16-((k+1:Nat):Int)+1)+1)=true:=by simpa using a1
       rw [this,cond_true,if_pos (by omega)]
       simp only [Option.some.injEq,Sum.inr.injEq]
       omega
     have a1':(w == 8*(16-((k+1:Nat):Int)+1)+1)=false:=by simpa using a1
     rw [a1',cond_false]
     by_cases a2:w=8*(16-((k+1:Nat):Int)+1)+2
     . have:(w == 8*(16-((k+1:Nat):Int)+1)+2)=true:=by simpa using a2
       rw [this,cond_true,if_pos (by omega)]
       simp only [Option.some.injEq,Sum.inr.injEq]
       omega
     have a2':(w == 8*(16-((k+1:Nat):Int)+1)+2)=false:=by simpa using a2
     rw [a2',cond_false]
     by_cases a3:w=8*(16-((k+1:Nat):Int)+1)+3
     . have:(w == 8*(16-((k+1:Nat):Int)+1)+3)=true:=by simpa using a3
       rw [this,cond_true,if_pos (by omega)]
       simp only [Option.some.injEq,Sum.inr.injEq]
       omega
     have a3':(w == 8*(16-((k+1:Nat):Int)+1)+3)=false:=by simpa using a3
     rw [a3',cond_false,Zat (by omega) (by omega)]
     simp only
     rw [show (16-((k+1:Nat):Int)+1)=16-(k:Int) by omega,ih]
     by_cases hc:1<=w % 8/\w % 8<=3/\16-(k:Int)<=w / 8-1/\w / 8-1<16
     . rw [if_pos hc,if_pos (by omega)]
     . rw [if_neg hc,if_neg (by omega)]
 have l1:=l1 16 (by omega)
 rw [show (16-((16:Nat):Int))=0 from rfl] at l1
 rw [l1]
 by_cases e1:1<=w % 8/\w % 8<=3/\0<=w / 8-1/\w / 8-1<16
 . rw [if_pos e1,if_pos e1]
 rw [if_neg e1,if_neg e1]
 simp only
 have l2:∀ (i:Int),0<=i->i<=3->∀ k:Nat,k<=3->Zgi (w,i,4-(k:Int))=some (if w % 8=4/\(w / 8-1) / 16=i/\4-(k:Int)<=(w / 8-1) % 16/\(w / 8-1) % 16<=3 then .inr 4 else .inl (w,i)):=by
   intro i hi0 hi1 k
   induction k with
   | zero =>
     intro _
     unfold Zgi
     rw [ZbH]
     simp only [Ze6,ZiU,Zas]
     rw [if_neg (by omega),if_neg (by omega)]
   | succ k ih =>
     intro hk
     have ih:=ih (by omega)
     unfold Zgi at ih ⊢
     rw [ZbH]
     simp only [Ze6,ZiU,Zas,ZdA]
     rw [if_pos (by omega),Zps (by omega) (by omega) (by omega) (by omega)]
     simp only
     by_cases a1:w=8*(16*i+(4-((k+1:Nat):Int))+1)+4
     . have:(w == 8*(16*i+(4-((k+1:Nat):Int))+1)+4)=true:=by simpa using a1
       rw [this,cond_true,if_pos (by omega)]
     have a1':(w == 8*(16*i+(4-((k+1:Nat):Int))+1)+4)=false:=by simpa using a1
     rw [a1',cond_false,Zat (by omega) (by omega)]
     simp only
     rw [show (4-((k+1:Nat):Int)+1)=4-(k:Int) by omega,ih]
     by_cases hc:w % 8=4/\(w / 8-1) / 16=i/\4-(k:Int)<=(w / 8-1) % 16/\(w / 8-1) % 16<=3
     . rw [if_pos hc,if_pos (by omega)]
     . rw [if_neg hc,if_neg (by omega)]
 have l3:∀ k:Nat,k<=4->Zgg (w,4-(k:Int))=some (if w % 8=4/\4-(k:Int)<=(w / 8-1) / 16/\(w / 8-1) / 16<4/\1<=(w / 8-1) % 16/\(w / 8-1) % 16<=3 then .inr 4 else .inl ()):=by
   intro k
   induction k with
   | zero =>
     intro _
     unfold Zgg
     rw [ZbH]
     simp only [Ze7,Zip,Zas]
     rw [if_neg (by omega),if_neg (by omega)]
   | succ k ih =>
     intro hk
     have ih:=ih (by omega)
     unfold Zgg at ih ⊢
     rw [ZbH]
     simp only [Ze7,Zip,Zas]
     have h2:=l2 (4-((k+1:Nat):Int)) (by omega) (by omega) 3 (by omega)
     rw [show (4-((3:Nat):Int))=1 from rfl] at h2
     rw [if_pos (by omega),h2]
     by_cases hc:w % 8=4/\(w / 8-1) / 16=4-((k+1:Nat):Int)/\1<=(w / 8-1) % 16/\(w / 8-1) % 16<=3
     . rw [if_pos hc,if_pos (by omega)]
     . rw [if_neg hc]
       simp only
       rw [Zat (by omega) (by omega),show (4-((k+1:Nat):Int)+1)=4-(k:Int) by omega,ih]
       by_cases hd:w % 8=4/\4-(k:Int)<=(w / 8-1) / 16/\(w / 8-1) / 16<4/\1<=(w / 8-1) % 16/\(w / 8-1) % 16<=3
       . rw [if_pos hd,if_pos (by omega)]
       . rw [if_neg hd,if_neg (by omega)]
 have l3:=l3 4 (by omega)
 rw [show (4-((4:Nat):Int))=0 from rfl] at l3
 rw [l3]
 by_cases e4:w % 8=4/\0<=(w / 8-1) / 16/\(w / 8-1) / 16<4/\1<=(w / 8-1) % 16/\(w / 8-1) % 16<=3
 . rw [if_pos e4,if_pos e4]
 . rw [if_neg e4,if_neg e4]
theorem Zs3 (u:Turn):ZmM u=some (ZqT u):=by
 simp only [ZmM,Zas,ZqT,ge_iff_le]
 repeat' split
 all_goals first | rfl | (exfalso;omega)
theorem Zy7 (u:Turn):Zmf u=some (Zo8 u):=by simp only [Zmf,Zgx,Zs3,Zo8]
theorem ZoI (u:Turn):Zmm u=some (decide (Late u)):=by
 simp only [Zmm,Zas]
 by_cases h:u.th.until_>0
 . rw [if_pos h];simp [Late,h]
 . have:¬0<u.th.until_:=h
   rw [if_neg h];simp [Late,this]
theorem Zdi {m:Memo} {a:Int} (h0:0<=a) (h1:a<(m.words.length:Int)):ZgG m a=some (m.words.getD a.toNat 0,0):=by
 simp only [ZgG,Zas]
 rw [if_neg (by omega),if_neg (by omega),if_pos h0,if_pos h1]
theorem ZgW {m:Memo} {a:Int} (h:a<0\/a>=(m.words.length:Int)):ZgG m a=some (0,30):=by
 simp only [ZgG,Zas]
 rcases h with h | h
 . rw [if_pos h]
 . by_cases h1:a<0
   . rw [if_pos h1]
   . rw [if_neg h1,if_pos h]
theorem Zcw {m:Memo} {a v:Int} (h0:0<=a) (h1:a<(m.words.length:Int)) (hl:m.words.length<=4294967296) :
   ZfY m a v=some ({ m with words:=m.words.set a.toNat v },0):=by
 simp only [ZfY,Zas,Nat.zero_add,ZaW hl,cond_true]
 rw [if_neg (by omega),if_neg (by omega),if_pos h0,if_pos h1]
theorem ZgM {m:Memo} {a o v:Int} (h0:0<=a) (h1:a<(m.words.length:Int)) (hl:m.words.length<=4294967296) :
   Zhz m a o v=some (if m.words.getD a.toNat 0=o then { m with words:=m.words.set a.toNat v } else m,decide (m.words.getD a.toNat 0=o),0):=by
 simp only [Zhz,Zbq,Zdi h0 h1,bne_self_eq_false,cond_false,Zbn,Zcw h0 h1 hl]
 by_cases e:m.words.getD a.toNat 0=o
 . rw [ZfN e,cond_false,if_pos e,decide_eq_true e]
 . rw [ZeQ e,cond_true,if_neg e,decide_eq_false e]
theorem ZhL {m:Memo} {a o v:Int} (h:a<0\/a>=(m.words.length:Int)):Zhz m a o v=some (m,false,30):=by
 simp only [Zhz,Zbq,ZgW h]
 rfl
theorem ZvR {n:Int} (h:1<=n) (h2:n<=15):ZjI n=some (n / 2):=by
 simp only [ZjI,Zas]
 by_cases h1:n<2
 . rw [if_pos h1];congr 1;omega
 . rw [if_neg h1,Int.tdiv_eq_ediv_of_nonneg (by omega),Zat (by omega) (by omega)]
theorem ZyO {u:Turn} (h:Fit u):ZmJ u=some (Zcn u):=by
 have ht:=h.cfg.threads
 have h1:=h.t
 have hl:=h.len
 have hh:=h.held
 have f1:fewB u.th.held.length=true:=ZaW (by omega)
 have f2:fewB (u.th.held.length+1)=true:=ZaW (by omega)
 simp only [ZmJ,ZdM,ZoL h.cfg,Zde,ZnY (t:=u.t) (by omega) (by omega),Zfv,Zp6 (t:=u.t) (by omega) (by omega),Zbq,ZcR,Zdv,Zpf,ZeL,ZoI,ZgJ,Zy7,Nat.zero_add,List.length_cons,List.length_nil,f1,f2,cond_true]
 unfold Zcn
 by_cases p4:u.th.phase=4
 . rw [ZaT p4,cond_true,if_pos p4]
   by_cases hn:ZbU u=-1
   . rw [ZgW (.inl (by show ZbU u<0;omega)),if_pos hn]
     rfl
   . obtain ⟨n0,n1,_⟩:=h.node hn
     rw [Zdi n0 n1,if_neg hn]
     simp only [bne_self_eq_false,cond_false]
     unfold ZhO
     by_cases k0:Zb9 (ZaR u (ZbU u))=0
     . rw [ZaT k0,cond_true,if_neg (by omega),if_pos k0]
     rw [ZaC k0,cond_false]
     by_cases k1:Zb9 (ZaR u (ZbU u))=1
     . rw [ZaT k1,cond_true,if_pos k1]
     rw [ZaC k1,cond_false,if_neg k1,if_neg k0]
     by_cases k3:Late u
     . rw [if_pos k3,decide_eq_true k3];rfl
     . rw [if_neg k3,decide_eq_false k3];rfl
 rw [ZaC p4,cond_false,if_neg p4]
 by_cases p5:u.th.phase=5
 . rw [ZaT p5,cond_true,if_pos p5]
   by_cases hn:ZbU u=-1
   . rw [ZhL (.inl (by show ZbU u<0;omega)),if_pos hn]
     rfl
   . obtain ⟨n0,n1,n2,n3⟩:=h.node hn
     rw [ZgM n0 n1 (by omega),if_neg hn]
     simp only [bne_self_eq_false,cond_false,Zjx,ZvR n2 n3]
     by_cases e:ZaR u (ZbU u)=0
     . rw [decide_eq_true e,Bool.not_true,cond_false,if_pos e,if_pos e]
       unfold Zd5
       by_cases hz:u.th.node / 2=0
       . rw [ZaT hz,cond_true,if_neg (by show ¬u.th.node / 2>0;omega)]
       . rw [ZaC hz,cond_false,if_pos (by show u.th.node / 2>0;omega)]
     . rw [decide_eq_false e,Bool.not_false,cond_true,if_neg e]
 rw [ZaC p5,cond_false,if_neg p5]
 by_cases p6:u.th.phase=6
 . rw [ZaT p6,cond_true,if_pos p6]
   by_cases hn:ZbU u=-1
   . rw [ZhL (.inl (by show ZbU u<0;omega)),if_pos hn]
     rfl
   . obtain ⟨n0,n1,n2,n3⟩:=h.node hn
     rw [ZgM n0 n1 (by omega),if_neg hn]
     simp only [bne_self_eq_false,cond_false]
     by_cases e:ZaR u (ZbU u)=u.th.x
     . rw [decide_eq_true e,Bool.not_true,cond_false,if_pos e,if_pos e]
       rfl
     . rw [decide_eq_false e,Bool.not_false,cond_true,if_neg e]
 rw [ZaC p6,cond_false,if_neg p6]
theorem Zyl {a b:List Entry} (h:a.length+b.length<=4294967296):ZlO (a::b::[])=some (a++b):=by
 have h3:Zjm (a::b::[],[],0)=some (a++b):=by
   unfold Zjm
   rw [ZbH]
   simp only [Zek,ZgV,Zas,List.length_cons,List.length_nil]
   rw [if_pos (by omega),if_pos (by omega),if_pos (by omega),show ((0:Int).toNat)=0 from rfl,List.getD_cons_zero,ZaW (by omega),Zat (n:=0+1) (by omega) (by omega)]
   simp only [cond_true,List.nil_append]
   rw [ZbH]
   simp only [Zek,ZgV,Zas,List.length_cons,List.length_nil]
   rw [if_pos (by omega),if_pos (by omega),if_pos (by omega),show ((0+1:Int).toNat)=1 from rfl,List.getD_cons_succ,List.getD_cons_zero,ZaW (by omega),Zat (n:=0+1+1) (by omega) (by omega)]
   simp only [cond_true]
   rw [ZbH]
   simp only [Zek,ZgV,Zas,List.length_cons,List.length_nil]
   rw [if_neg (by omega)]
 simp only [ZlO,h3]
theorem ZGl {w:Int} (h:Num w) (hk:Zb9 w=3):ZnU w=some (w / 8-1):=by
 have hb:1<=w % 8/\w % 8<=3/\0<=w / 8-1/\w / 8-1<16:=by
   unfold Zb9 at hk
   split at hk
   . omega
   split at hk
   . omega
   split at hk
   . assumption
   . split at hk <;> omega
 simp only [ZnU,Zdv,Zpf,hk,Zas]
 rw [if_neg (by omega),if_neg (by omega),Int.tdiv_eq_ediv_of_nonneg (by omega),Zat (n:=w / 8) (by omega) (by omega),Zat (by omega) (by omega)]
theorem Zs8 {u:Turn} {who:Int} {b:List Entry} (h1:u.th.batch.length+b.length<=4294967296) (h2:u.th.kids.length+1<=4294967296):Zl1 u who b=some (ZqY u who b):=by
 simp only [Zl1,Nat.zero_add,ZaW (show u.th.kids.length<=4294967296 by omega),List.length_cons,List.length_nil,ZaW h2,cond_true,ZmI,Zyl h1]
 rfl
theorem ZyD {u:Turn} (h:CfgOK u.c):ZmF u=some (Zbh u):=by
 simp only [ZmF,Zas,ZdM,ZoL h,Zbh]
 by_cases h1:u.th.at_<0
 . rw [if_pos h1,if_pos (.inl h1)]
 by_cases h2:u.th.at_>=(u.th.held.length:Int)
 . rw [if_neg h1,if_pos h2,if_pos (.inr h2)]
 rw [if_neg h1,if_neg h2,if_pos (by omega),if_pos (by omega),if_neg (by omega)]
theorem Zzm (u:Turn):ZmC u=some (ZnF u):=by simp only [ZmC,Zgx,Zs3,ZnF]
theorem Ze1 {m:Memo} {a v:Int} (h:a<0\/a>=(m.words.length:Int)):ZfY m a v=some (m,30):=by
 simp only [ZfY,Zas]
 rcases h with h | h
 . rw [if_pos h]
 . by_cases h1:a<0
   . rw [if_pos h1]
   . rw [if_neg h1,if_pos h]
theorem Zp1 {m:Memo} {a:Int} (h0:0<=a) (h1:a<(m.boxes.length:Int)) (hl:(m.boxes.getD a.toNat ([]:List Entry)).length<=4294967296) :
   Zhu m a=some (m.boxes.getD a.toNat [],0):=by
 simp only [Zhu,Zas,Nat.zero_add,ZaW hl,cond_true]
 rw [if_neg (by omega),if_neg (by omega),if_pos h0,if_pos h1]
theorem ZpL {m:Memo} {a:Int} (h:a<0\/a>=(m.boxes.length:Int)):Zhu m a=some ([],30):=by
 simp only [Zhu,Zas]
 rcases h with h | h
 . rw [if_pos h]
 . by_cases h1:a<0
   . rw [if_pos h1]
   . rw [if_neg h1,if_pos h]
theorem Zp8 {m:Memo} {a:Int} {b:List Entry} (h0:0<=a) (h1:a<(m.boxes.length:Int)) (hl:m.boxes.length<=4294967296) (hb:b.length<=4294967296) :
   Zn3 m a b=some ({ m with boxes:=m.boxes.set a.toNat b },0):=by
 simp only [Zn3,Zas,Nat.zero_add,ZaW hl,ZaW hb,cond_true]
 rw [if_neg (by omega),if_neg (by omega),if_pos h0,if_pos h1]
theorem Zyo {u:Turn} (h:FitG u):ZlZ u=some (Zb7 u):=by
 have ht:=h.cfg.threads
 have h1:=h.t
 have hl:=h.len
 have hb:=h.boxes
 have hbt:=h.batch
 have hkd:=h.kids
 simp only [ZlZ,ZmH,ZyD h.cfg,Zde,ZnY (t:=u.t) (by omega) (by omega),Zd6,ZnE (t:=u.t) (by omega) (by omega),ZdM,ZoL h.cfg,Zbq,ZcR,Zbn,Zhm,ZhD,
   Zjc,Zzm,Zdv,Zpf,ZgL]
 unfold Zb7
 by_cases p7:u.th.phase=7
 . rw [ZaT p7,cond_true,if_pos p7]
   by_cases hn:Zbh u=-1
   . rw [ZgW (.inl (by omega)),if_pos hn]
     rfl
   . obtain ⟨n0,n1⟩:=h.held hn
     rw [Zdi n0 n1,if_neg hn]
     simp only [bne_self_eq_false,cond_false]
     by_cases e:ZaR u (Zbh u)=8*(u.t+1)+1
     . rw [ZaT e,if_pos e];rfl
     . rw [ZaC e,if_neg e]
       simp only [cond_false]
       by_cases k:Zb9 (ZaR u (Zbh u))=3
       . rw [ZaT k,if_pos k]
         simp only [cond_true,Zn8,ZGl (h.word n0 n1) k]
       . rw [ZaC k,if_neg k];rfl
 rw [ZaC p7,cond_false,if_neg p7]
 by_cases p8:u.th.phase=8
 . rw [ZaT p8,cond_true,if_pos p8]
   by_cases hn:Zbh u=-1
   . rw [ZhL (.inl (by omega)),if_pos hn]
     rfl
   . obtain ⟨n0,n1⟩:=h.held hn
     rw [ZgM n0 n1 (by omega),if_neg hn]
     simp only [bne_self_eq_false,cond_false]
     by_cases e:ZaR u (Zbh u)=8*(u.t+1)+1
     . rw [decide_eq_true e,if_pos e,if_pos e];rfl
     . rw [decide_eq_false e,if_neg e,if_neg e];rfl
 rw [ZaC p8,cond_false,if_neg p8]
 by_cases p9:u.th.phase=9
 . rw [ZaT p9,cond_true,if_pos p9]
   by_cases hn:u.th.who<0\/u.th.who>=(u.m.boxes.length:Int)
   . rw [ZpL hn,if_pos hn]
     rfl
   . have hbl:=h.boxLen u.th.who.toNat
     rw [Zp1 (by omega) (by omega) (by omega),if_neg hn]
     simp only [bne_self_eq_false,cond_false]
     rw [Zs8 (by omega) (by omega)]
 rw [ZaC p9,cond_false,if_neg p9]
 by_cases p10:u.th.phase=10
 . rw [ZaT p10,cond_true,if_pos p10]
   by_cases hn:Zbh u=-1
   . rw [Ze1 (.inl (by omega)),if_pos hn]
     rfl
   . obtain ⟨n0,n1⟩:=h.held hn
     rw [Zcw n0 n1 (by omega),if_neg hn]
     rfl
 rw [ZaC p10,cond_false,if_neg p10]
 by_cases p11:u.th.phase=11
 . rw [ZaT p11,cond_true,if_pos p11,Zp8 (by omega) (by omega) (by omega) (by omega)]
   rfl
 rw [ZaC p11,cond_false,if_neg p11]
 by_cases p12:u.th.phase=12
 . rw [ZaT p12,cond_true,if_pos p12]
   by_cases hn:nodeAt u.c u.th.item u.th.stop=-1
   . rw [Ze1 (.inl (by omega)),if_pos hn]
     rfl
   . obtain ⟨n0,n1⟩:=h.node hn
     rw [Zcw n0 n1 (by omega),if_neg hn]
     rfl
 rw [ZaC p12,cond_false,if_neg p12]
theorem Zyu {c:Config} (h:CfgOK c) (item layer i:Int):ZlH c item layer i=some (Ze2 c item layer i):=by
 have h1:=Za2 h
 have h4:=Zbr c
 have h5:=h.layers
 have h6:=h.width
 have h8:=Zep h
 have h9:=ZcP h
 simp only [ZlH,Zas,Zb6,Zge h,Zdg,Zn6 h]
 unfold Ze2
 by_cases a1:item<0
 . simp [a1]
 by_cases a2:item>=c.items
 . simp [a1,a2]
 by_cases a3:layer<1
 . simp [a1,a2,a3]
 by_cases a4:layer>c.layers
 . simp [a1,a2,a3,a4]
 by_cases a5:i<0
 . simp [a1,a2,a3,a4,a5]
 by_cases a6:i>=c.width
 . simp [a1,a2,a3,a4,a5,a6]
 rw [if_neg a1,if_neg a2,if_neg a3,if_neg a4,if_neg a5,if_neg a6,if_neg (by omega)]
 have h7:=Zgp h (layer:=layer) (by omega) (by omega)
 have h3:=ZcN h (i:=item) (by omega) (by omega)
 rw [Zat (n:=item*ZaB c) (by omega) (by omega),Zat (n:=item*ZaB c+1) (by omega) (by omega),Zat (n:=item*ZaB c+1+ZaK c) (by omega) (by omega),
   Zat (n:=layer-1) (by omega) (by omega),Zat (n:=(layer-1)*c.width) (by omega) (by omega),Zat (n:=item*ZaB c+1+ZaK c+(layer-1)*c.width) (by omega) (by omega),Zat (by omega) (by omega)]
 congr 1;omega
theorem ZzB (t:Tape):ZmB t=some (ZdN t):=by
 simp only [ZmB,Zas]
 unfold ZdN
 by_cases a:t.at_<0
 . rw [if_pos a,if_pos (.inl a)]
 by_cases b:t.at_>=(t.l.length:Int)
 . rw [if_neg a,if_pos b,if_pos (.inr b)]
 . rw [if_neg a,if_neg b,if_pos (by omega),if_pos (by omega),if_neg (by omega)]
theorem Zxi (t:Tape) (n:Int):ZkC t n=some (Ze8 t n):=by
 simp only [ZkC,Zas,Zna,ZzB]
 unfold Ze8
 by_cases a:n<1
 . rw [if_pos a,if_pos a]
 rw [if_neg a,if_neg (by omega),if_neg a]
 split <;> rfl
theorem ZuF {m:Memo} {a v:Int} (h0:0<=a) (h1:a<(m.words.length:Int)) (hl:m.words.length<=4294967296) :
   ZgO m a v=some ({ m with words:=m.words.set a.toNat v },m.words.getD a.toNat 0,0):=by
 simp only [ZgO,Zbq,Zdi h0 h1,Zbn,Zcw h0 h1 hl]
theorem Ztv {m:Memo} {a v:Int} (h:a<0\/a>=(m.words.length:Int)):ZgO m a v=some (m,0,30):=by
 simp only [ZgO,Zbq,ZgW h,Zbn,Ze1 h]
theorem Zp9 (u:Turn):Zj4 u=some (Zc4 u):=by
 simp only [Zj4,ZeL,ZoI,Zas]
 unfold Zc4
 by_cases a:u.th.layer<u.c.layers
 . rw [if_pos a]
   by_cases b:Late u
   . rw [decide_eq_true b,if_neg (fun h=>h.2 b)];rfl
   . rw [decide_eq_false b,if_pos ⟨a,b⟩];rfl
 . rw [if_neg a,if_neg (fun h=>a h.1)]
theorem ZEm {w:Int} (h:Num w):∃ y,ZlJ w=some y/\(if y>1 then y else 1)=(if w / 2>1 then w / 2 else 1):=by
 have h1:=h.2
 simp only [ZlJ,Zas]
 by_cases a:w<0
 . exact ⟨-1,by rw [if_pos a],by rw [if_neg (by omega),if_neg (by omega)]⟩
 . exact ⟨w / 2,by rw [if_neg a,Int.tdiv_eq_ediv_of_nonneg (by omega),Zat (by omega) (by omega)],rfl⟩
theorem ZtK {u:Turn} (h:FitC u) (t so no:Int):Zig u t so no=some (ZbG u t so no):=by
 have ht:=h.g.cfg.threads
 have hi:=h.g.cfg.items
 have h2:=h.item
 have h3:=h.layer
 have hl:=h.g.len
 simp only [Zig,Zck,ZiM h.g.cfg,ZdA,Zps (i:=u.th.item) (l:=u.th.layer) (by omega) (by omega) (by omega) (by omega),ZcR]
 unfold ZbG
 by_cases hn:ZaZ u.c t=-1
 . rw [ZhL (.inl (by omega)),if_pos hn]
   rfl
 . obtain ⟨n0,n1⟩:=h.line hn
   rw [ZgM n0 n1 (by omega),if_neg hn]
   simp only [bne_self_eq_false,cond_false]
   by_cases e:ZaR u (ZaZ u.c t)=Zgf u
   . rw [decide_eq_true e,if_pos e,if_pos e];rfl
   . rw [decide_eq_false e,if_neg e,if_neg e];rfl
theorem Zzf {u:Turn} (h:FitC u):Zgt u=some (Zbs u):=by
 have ht:=h.g.cfg.threads
 have hi:=h.g.cfg.items
 have h1:=h.g.t
 have h2:=h.item
 have h3:=h.layer
 have hl:=h.g.len
 have hb:=h.g.boxes
 have hbt:=h.g.batch
 have hkd:=h.g.kids
 obtain ⟨mn,m0,m1⟩:=h.mine
 simp only [Zgt,ZhD,ZgX,Zoe,Zck,ZiM h.g.cfg,ZdA,Zps (i:=u.th.item) (l:=u.th.layer) (by omega) (by omega) (by omega) (by omega),Zbn,
   ZmY,Zqi,ZkF,Zxi,ZlU,Zyu h.g.cfg,Zm1,ZeC,ZtK h,Zhm,ZgL,Zme,ZqJ,Zbq,ZeL,ZoI,
   Zmw,Zem,Zp9]
 unfold Zbs
 by_cases p17:u.th.phase=17
 . rw [ZaT p17,cond_true,if_pos p17,Zp8 (by omega) (by omega) (by omega) (by omega)]
   rfl
 rw [ZaC p17,cond_false,if_neg p17]
 by_cases p18:u.th.phase=18
 . rw [ZaT p18,cond_true,if_pos p18,Zcw m0 m1 (by omega)]
   rfl
 rw [ZaC p18,cond_false,if_neg p18]
 by_cases p19:u.th.phase=19
 . rw [ZaT p19,cond_true,if_pos p19]
   unfold swapT
   by_cases hn:ZbK u=-1
   . rw [Ztv (.inl (by simp only [ZbK] at hn;omega)),if_pos hn]
     rfl
   . obtain ⟨n0,n1⟩:=h.slot hn
     rw [ZuF n0 n1 (by omega),if_neg hn,Zat (n:=u.t+1) (by omega) (by omega)]
     simp only [bne_self_eq_false,cond_false,Zas]
     by_cases a1:ZaR u (ZbK u)>=1
     . by_cases a2:ZaR u (ZbK u)<=u.c.threads
       . by_cases a3:ZaR u (ZbK u)=u.t+1
         . rw [if_pos a1,if_pos a2,ZfN a3,cond_false,if_neg (by omega)]
         . rw [if_pos a1,if_pos a2,ZeQ a3,cond_true,if_pos (by omega),Zat (n:=ZaR u (ZbK u)-1) (by omega) (by omega)]
       . rw [if_pos a1,if_neg a2,if_neg (by omega)]
     . rw [if_neg a1,if_neg (by omega)]
 rw [ZaC p19,cond_false,if_neg p19]
 by_cases p20:u.th.phase=20
 . rw [ZaT p20,cond_true,if_pos p20]
 rw [ZaC p20,cond_false,if_neg p20]
 by_cases p21:u.th.phase=21
 . rw [ZaT p21,cond_true,if_pos p21]
 rw [ZaC p21,cond_false,if_neg p21]
 by_cases p22:u.th.phase=22
 . rw [ZaT p22,cond_true,if_pos p22]
   unfold Zfo
   by_cases hn:u.th.who<0\/u.th.who>=(u.m.boxes.length:Int)
   . rw [ZpL hn,if_pos hn]
     rfl
   . have hbl:=h.g.boxLen u.th.who.toNat
     rw [Zp1 (by omega) (by omega) (by omega),if_neg hn]
     simp only [beq_self_eq_true,cond_true]
     rw [Zs8 (by omega) (by omega)]
 rw [ZaC p22,cond_false,if_neg p22]
 by_cases p23:u.th.phase=23
 . rw [ZaT p23,cond_true,if_pos p23,Zdi m0 m1]
   unfold Zi8
   simp only [bne_self_eq_false,cond_false,Zas]
   by_cases e:ZaR u (ZdH u)=Zgf u
   . rw [ZfN e,cond_false,if_neg (show ¬(ZaR u (ZdH u)≠Zgf u) from fun h=>h e)]
     by_cases a:u.th.left<1
     . rw [if_pos a,if_neg (by omega)]
     . rw [if_neg a]
       by_cases b:Late u
       . rw [if_pos b,if_neg (fun h=>h.2 b)]
       . rw [if_neg b,if_pos (show u.th.left>0/\¬Late u from ⟨by omega,b⟩)]
   . rw [ZeQ e,cond_true,if_pos e]
 rw [ZaC p23,cond_false,if_neg p23]
 by_cases p24:u.th.phase=24
 . rw [ZaT p24,cond_true,if_pos p24,Zcw m0 m1 (by omega)]
   rfl
 rw [ZaC p24,cond_false,if_neg p24]
 by_cases p26:u.th.phase=26
 . rw [ZaT p26,cond_true,if_pos p26]
   unfold Zgz ZbG
   rw [if_neg mn]
   by_cases e:ZaR u (ZdH u)=Zgf u
   . rw [if_pos e,if_pos e]
     obtain ⟨y,hy,hz⟩:=ZEm h.width
     simp only [hy,hz,beq_self_eq_true,cond_true]
     rfl
   . rw [if_neg e,if_neg e]
     rfl
 rw [ZaC p26,cond_false,if_neg p26]
def e0:Entry:=⟨0,⟨1,2⟩⟩
def e1:Entry:=⟨1,⟨1,7⟩⟩
end Go.Proofs.Mill
/- What the references do in a step of those who tell, commit, begin; a machine's step is the reference's. -/
namespace Go.Proofs.Mill
theorem Zql {c:Config} (h:CfgOK c) (t:Int):Zj5 c t=some (Zcr c t):=by
 unfold Zj5 Zcr
 simp only [Zas,Zb6,Zge h]
 by_cases h1:t<0
 . rw [if_pos h1,if_pos (.inl h1)]
 . rw [if_neg h1]
   by_cases h2:t>=c.threads
   . rw [if_pos h2,if_pos (.inr h2)]
   . rw [if_neg h2,if_neg (fun h=>h.elim h1 h2)]
     have:=Za2 h
     have:=h.threads
     rw [show c.items*ZaB c=Za0 c from rfl,Zat (n:=Za0 c) (by omega) (by omega),Zat (n:=(2:Int)*t) (by omega) (by omega),Zat (n:=Za0 c+2*t) (by omega) (by omega),Zat (by omega) (by omega)]
theorem Zm3 (u:Turn):Zju u=some (Zcj u):=by
 unfold Zju Zcj
 simp only [Zas]
 by_cases h1:u.th.at_>=0
 . rw [if_pos h1]
   by_cases h2:u.th.at_<(u.th.kids.length:Int)
   . rw [if_pos h2,if_neg (by omega)]
   . rw [if_neg h2,if_pos (by omega)]
 . rw [if_neg h1,if_pos (by omega)]
theorem Zop {b:List Entry} {lo hi:Int} (hb:b.length<=4294967296):∀ (k j:Nat) (x:Int),j+k=b.length->Zk4 (b,x,lo,hi,(j:Int))=some (allT lo hi (b.drop j) x)
 | 0, j, x, hk => by
   rw [List.drop_of_length_le (by omega)]
   refine whileM_some.2 (.done _ _ ?_)
   show Zf2 _ _ _ _ _=_
   unfold Zf2
   simp only [Zas]
   rw [if_neg (by omega)]
   rfl
 | k + 1, j, x, hk => by
   have hj:j<b.length:=by omega
   rw [ZxL Zca hj]
   have hw:Zaf IntKind.i64 ((j:Int)+1)=((j+1:Nat):Int):=by rw [Zat (by omega) (by omega)];omega
   have hs:ZhM (b,x,lo,hi,(j:Int))=some (.inl (b,(App (b.getD j Zca).op x lo hi).1,lo,hi,((j+1:Nat):Int))):=by
     show Zf2 _ _ _ _ _=_
     unfold Zf2
     have a1:(j:Int)<(b.length:Int):=by omega
     have a2:(0:Int)<=(j:Int):=by omega
     simp only [Zas,a1,a2,if_true,Int.toNat_natCast,ZcH,ZhF,hw]
   exact whileM_some.2 (.more _ _ _ hs (whileM_some.1 (Zop hb k (j+1) _ (by omega))))
theorem Zqt {b:List Entry} {lo hi x:Int} (hb:b.length<=4294967296):Zn7 b x lo hi=some (allT lo hi b x):=by
 have:=Zop (lo:=lo) (hi:=hi) hb b.length 0 x (by omega)
 rw [List.drop_zero] at this
 unfold Zn7
 rw [show Zk4 (b,x,lo,hi,0)=_ from this]
theorem ZsK {b:List Entry} {n:Int} (hb:b.length<=4294967296):Zmc b n=some (b.take n.toNat):=by
 have hw:Zov (b,n,[],0)=some (b.take n.toNat):=by
   refine Zbi (fun i=>(b,n,b.take i,(i:Int))) (min n.toNat b.length) (fun i hi=>?_) ?_
   . have h1:(i:Int)<(b.length:Int):=by omega
     have h4:(i:Int)<n:=by omega
     have h2:fewB (i+1)=true:=ZaW (by omega)
     have h3:min i b.length=i:=by omega
     simp only [Zfs,Zjz,Zas,if_pos h1,if_pos h4,if_pos (Int.natCast_nonneg i),List.length_take,List.length_cons,List.length_nil,h3,h2,cond_true,Int.toNat_natCast]
     rw [ZcO b _ i (by omega),Zat (by omega) (by omega)]
     rfl
   . simp only [Zfs,Zjz,Zas]
     have hm:b.take (min n.toNat b.length)=b.take n.toNat:=by
       by_cases h:n.toNat<=b.length
       . rw [Nat.min_eq_left h]
       . rw [Nat.min_eq_right (by omega),List.take_length,List.take_of_length_le (by omega)]
     rw [hm]
     by_cases h:((min n.toNat b.length:Nat):Int)<(b.length:Int)
     . rw [if_pos h,if_neg (by omega)]
     . rw [if_neg h]
 unfold Zmc
 rw [hw]
theorem ZsI (lo hi:Int):∀ (b:List Entry) (x:Int) (i:Nat),i<b.length->(Zb5 lo hi b x).getD i 0=allT lo hi (b.take i) x
 | [],_,_,h=>absurd h (by simp)
 | e::r,x,0,_=>rfl
 | e :: r, x, i + 1, h => by
   show (Zb5 lo hi r (App e.op x lo hi).1).getD i 0=allT lo hi (r.take i) (App e.op x lo hi).1
   exact ZsI lo hi r _ i (by simpa using h)
theorem Zwv {b:List Entry} {lo hi x:Int} (hb:b.length<=4294967295):ZjH b x lo hi=some (Zb5 lo hi b x):=by
 have hpl:=ZfH lo hi b x
 have hw:ZmP (b,x,lo,hi,[],0)=some (Zb5 lo hi b x):=by
   refine Zbi (fun i=>(b,x,lo,hi,(Zb5 lo hi b x).take i,(i:Int))) b.length (fun i hi'=>?_) ?_
   . have h1:(i:Int)<(b.length:Int):=by omega
     have h2:fewB (i+1)=true:=ZaW (by omega)
     have h3:min i (Zb5 lo hi b x).length=i:=by omega
     have h5:=ZsI lo hi b x i hi'
     simp only [Zex,ZhY,Zas,if_pos h1,Zgu,ZsK (b:=b) (n:=(i:Int)) (by omega),Int.toNat_natCast,Zei,Zqt (b:=b.take i) (lo:=lo) (hi:=hi) (x:=x) (by simp;omega),List.length_take,List.length_cons,List.length_nil,h3,Nat.zero_add,h2,cond_true]
     rw [<- h5,ZcO (Zb5 lo hi b x) 0 i (by omega),Zat (by omega) (by omega)]
     rfl
   . simp only [Zex,ZhY,Zas]
     rw [if_neg (by omega),List.take_of_length_le (by omega)]
 unfold ZjH
 rw [hw]
theorem ZwD {u:Turn} {x:Int} (hl:u.log.length+u.th.batch.length<=4294967295):ZjG u x=some (Zel u x):=by
 have hpl:=ZfH u.c.lo u.c.hi u.th.batch x
 obtain ⟨ms,hms⟩:∃ ms,ms=Zks u x:=⟨_,rfl⟩
 have hlen:ms.length=u.th.batch.length:=by rw [hms];exact ZuO u x
 have hw:∀ z:Turn,ZmV (x,u,z,Zb5 u.c.lo u.c.hi u.th.batch x,u.log,0)=some (x,u,z,u.log++ms):=by
   intro z
   have h0:Zay ZeF (x,u,z,Zb5 u.c.lo u.c.hi u.th.batch x,u.log++ms.take 0,((0:Nat):Int))=some (x,u,z,u.log++ms):=Zbi (step:=ZeF) (fun i=>(x,u,z,Zb5 u.c.lo u.c.hi u.th.batch x,u.log++ms.take i,(i:Int))) u.th.batch.length (y:=(x,u,z,u.log++ms)) (fun i hi=>?_) ?_
   . rw [List.take_zero,List.append_nil] at h0
     exact h0
   . show ZeG _ _ _ _ _ _=_
     unfold ZeG
     have hwi:Zaf .i64 ((i:Int)+1)=((i+1:Nat):Int):=by rw [Zat (by omega) (by omega)];rfl
     have hg:(ms.getD i ⟨0,0,⟨0,0⟩,0,0⟩)=⟨(u.th.batch.getD i Zca).t,u.th.item,(u.th.batch.getD i Zca).op,(Zb5 u.c.lo u.c.hi u.th.batch x).getD i 0,0⟩:=by
       have h2:i<(Zb5 u.c.lo u.c.hi u.th.batch x).length:=by omega
       rw [hms]
       unfold Zks
       simp only [List.getD_eq_getElem?_getD,List.getElem?_zipWith,List.getElem?_eq_getElem hi,List.getElem?_eq_getElem h2,Option.getD_some]
     have hfew:fewB ((u.log++ms.take i).length+1)=true:=ZaW (by simp;omega)
     simp only [Zas,Int.toNat_natCast,List.length_cons,List.length_nil,Nat.zero_add]
     rw [if_pos (by omega),if_pos (by omega),if_pos (by omega),if_pos (by omega),if_pos (by omega),if_pos (by omega),if_pos (by omega),hfew,hwi]
     simp only [cond_true]
     rw [<- ZcO ms ⟨0,0,⟨0,0⟩,0,0⟩ i (by omega),hg,List.append_assoc]
   . show ZeG _ _ _ _ _ _=some (.inr _)
     unfold ZeG
     simp only [Zas]
     rw [if_neg (by omega),List.take_of_length_le (by omega)]
 unfold ZjG
 simp only [Zjn,Zwv (b:=u.th.batch) (lo:=u.c.lo) (hi:=u.c.hi) (x:=x) (by omega),Nat.zero_add]
 rw [ZaW (by omega),cond_true,hw]
 simp only [Zdr,Zm3]
 rw [hms]
 rfl
theorem ZzE {u:Turn} (h:FitM u):Zl5 u=some (ZbZ u):=by
 have hc:=h.g.cfg
 have hl:=ZlE h.g h.g.t.1 h.g.t.2
 have hr:=Zsd h.g h.g.t.1 h.g.t.2
 have hb:u.th.batch.length<=4294967296:=by have:=h.g.batch;omega
 have ht:Zmy=some 5:=rfl
 unfold Zl5 ZbZ
 by_cases p13:u.th.phase=13
 . rw [ZaT p13,if_pos p13]
   simp only [cond_true,Zck,ZiM hc,Zbq,Zdi hl.1 hl.2.1,ZeE,ht]
   by_cases e:u.m.words.getD (ZaZ u.c u.t).toNat 0=5
   . rw [show ((0:Int) == 0)=true from rfl,ZaT e,if_pos e];rfl
   . rw [show ((0:Int) == 0)=true from rfl,ZaC e,if_neg e];rfl
 rw [ZaC p13,if_neg p13]
 simp only [cond_false]
 by_cases p14:u.th.phase=14
 . rw [ZaT p14,if_pos p14]
   simp only [cond_true,Zfu,Zql hc,Zbq,Zdi hr.2.1 hr.2.2,bne_self_eq_false,cond_false,Zdr,Zm3]
 rw [ZaC p14,if_neg p14]
 simp only [cond_false]
 by_cases p15:u.th.phase=15
 . rw [ZaT p15,if_pos p15]
   simp only [cond_true,Zas,ZgT]
   by_cases k1:u.th.at_<0
   . rw [if_pos k1,if_pos (show Zec u from .inl k1)]
   rw [if_neg k1]
   by_cases k2:u.th.at_>=(u.th.kids.length:Int)
   . rw [if_pos k2,if_pos (show Zec u from .inr k2)]
   rw [if_neg k2,if_neg (show ¬Zec u from fun h=>h.elim k1 k2)]
   unfold ZmT
   simp only [Zas]
   rw [if_pos (by omega),if_pos (by omega),ZaT p15]
   have hall:Zei (u.th.batch.take (Zdc u).ahead.toNat,u.th.x,u.c.lo,u.c.hi)=some (allT u.c.lo u.c.hi (u.th.batch.take (Zdc u).ahead.toNat) u.th.x):=Zqt (by simp;omega)
   have hup:Zgu (u.th.batch,(u.th.kids.getD u.th.at_.toNat dKid).ahead)=some (u.th.batch.take (Zdc u).ahead.toNat):=ZsK hb
   have hres:Zfu (u.c,(u.th.kids.getD u.th.at_.toNat dKid).t)=some (Zcr u.c (Zdc u).t):=Zql hc _
   simp only [cond_true,hup,hall,hres,Zbn]
   by_cases e:Zcr u.c (Zdc u).t=-1
   . rw [Ze1 (.inl (by omega)),if_pos e];rfl
   . have hk:0<=(Zdc u).t/\(Zdc u).t<u.c.threads:=by unfold Zcr at e;split at e <;> omega
     have hk2:=Zsd h.g hk.1 hk.2
     rw [Zcw hk2.2.1 hk2.2.2 h.g.wl,if_neg e];rfl
 rw [ZaC p15,if_neg p15]
 simp only [cond_false]
 by_cases p16:u.th.phase=16
 . rw [ZaT p16,if_pos p16]
   simp only [cond_true,Zas,ZgT]
   by_cases k1:u.th.at_<0
   . rw [if_pos k1,if_pos (show Zec u from .inl k1)]
   rw [if_neg k1]
   by_cases k2:u.th.at_>=(u.th.kids.length:Int)
   . rw [if_pos k2,if_pos (show Zec u from .inr k2)]
   rw [if_neg k2,if_neg (show ¬Zec u from fun h=>h.elim k1 k2)]
   unfold ZmT
   simp only [Zas]
   rw [if_pos (by omega),if_pos (by omega),ZaC p15]
   have hline:Zck (u.c,(u.th.kids.getD u.th.at_.toNat dKid).t)=some (ZaZ u.c (Zdc u).t):=ZiM hc _
   simp only [cond_false,hline,ZeE,ht,Zbn]
   by_cases e:ZaZ u.c (Zdc u).t=-1
   . rw [Ze1 (.inl (by omega)),if_pos e];rfl
   . have hk:=ZhR hc e
     have hk2:=ZlE h.g hk.2.2.1 hk.2.2.2.1
     rw [Zcw hk2.1 hk2.2.1 h.g.wl,if_neg e]
     simp only [bne_self_eq_false,cond_false,Zdr,Zm3]
 rw [ZaC p16,if_neg p16]
 rfl
theorem Zxk {w n:Int} (h1:1<=n) (h2:n<=1000):ZkO w n=some (if w<n then (if n<Zaf .i64 (w*2) then n else Zaf .i64 (w*2)) else (if n<w then n else w)):=by
 unfold ZkO
 simp only [Zas]
 rw [Int.mul_comm 2 w]
 by_cases a:w>n
 . rw [if_pos a,if_neg (by omega),if_pos (by omega)]
 . rw [if_neg a]
   by_cases b:w<n
   . rw [if_pos b]
   . have e:w=n:=by omega
     subst e
     rw [Zat (n:=w*2) (by omega) (by omega)]
     congr 1
     (repeat' split) <;> omega
theorem Zy2 {u:Turn} (h:FitM u) (hlog:u.log=[]):Zl2 u=some (ZbE u):=by
 have hc:=h.g.cfg
 obtain ⟨hcell,c0,c1⟩:=h.cell
 rw [<- hcell] at c0 c1
 have hb:u.th.batch.length<=4294967296:=by have:=h.g.batch;omega
 have hbb:=h.g.batch
 have hcw:=hc.width
 have hcl:ZdD (u.c,u.th.item)=some (cellAt u.c u.th.item):=Zs1 hc u.th.item
 have hall:Zei (u.th.batch,ZaR u (cellAt u.c u.th.item),u.c.lo,u.c.hi)=some (allT u.c.lo u.c.hi u.th.batch (ZaR u (cellAt u.c u.th.item))):=Zqt hb
 have hcom:∀ {v:Turn} {x:Int},v.th.batch=u.th.batch->v.log=u.log->Zeo (v,x)=some (Zel v x):=by
   intro v x h2 h3
   refine ZwD ?_
   rw [h2,h3,hlog]
   simp only [List.length_nil]
   omega
 unfold Zl2 ZbE
 rw [hcl]
 simp only [Zbq,Zdi c0 c1,bne_self_eq_false,cond_false,hall,ZcR,ZgM c0 c1 h.g.wl,Zem,Zp9,ZhK,Zxk (w:=u.th.width) hcw.1 (by omega)]
 by_cases p2:u.th.phase=2
 . have p3:¬u.th.phase=3:=by omega
   have p25:¬u.th.phase=25:=by omega
   rw [ZaT p2,ZaC p25,if_neg p3,if_pos (show u.th.phase=2\/u.th.phase=25 from .inl p2),if_neg p25]
   simp only [cond_true,cond_false]
   by_cases e:allT u.c.lo u.c.hi u.th.batch (ZaR u (cellAt u.c u.th.item))=ZaR u (cellAt u.c u.th.item)
   . rw [ZaT e,if_pos e,cond_true,hcom rfl rfl]
   . rw [ZaC e,if_neg e,cond_false]
 rw [ZaC p2]
 simp only [cond_false]
 by_cases p25:u.th.phase=25
 . have p3:¬u.th.phase=3:=by omega
   rw [ZaT p25,if_neg p3,if_pos (show u.th.phase=2\/u.th.phase=25 from .inr p25),if_pos p25]
   simp only [cond_true]
   by_cases e:allT u.c.lo u.c.hi u.th.batch (ZaR u (cellAt u.c u.th.item))=ZaR u (cellAt u.c u.th.item)
   . rw [ZaT e,if_pos e,cond_true,hcom rfl rfl]
   . rw [ZaC e,if_neg e,cond_false]
 rw [ZaC p25]
 simp only [cond_false]
 by_cases p3:u.th.phase=3
 . rw [ZaT p3,if_pos p3]
   unfold ZdB
   simp only [cond_true]
   by_cases e:ZaR u (cellAt u.c u.th.item)=u.th.x
   . rw [if_pos e,if_pos e]
     simp only [bne_self_eq_false,cond_false,cond_true,hcom (v:=setW u (cellAt u.c u.th.item) u.th.y) rfl rfl]
     rw [decide_eq_true e,cond_true]
   . rw [if_neg e,if_neg e,decide_eq_false e]
     rfl
 . rw [ZaC p3,if_neg p3,if_neg (show ¬(u.th.phase=2\/u.th.phase=25) from fun x=>x.elim p2 p25)]
   rfl
end Go.Proofs.Mill
/- A world's step, and a whole run, are the reference's. -/
namespace Go.Proofs.Mill
theorem ZwN (u:Turn):ZkE u=some (ZeH u):=by
 unfold ZkE ZeH
 simp only [Zas]
 by_cases b2:u.c.backend=2
 . have b3:¬u.c.backend=3:=by omega
   rw [ZaT b2,ZaC b3,if_neg (show ¬(u.c.backend=3/\u.c.layers>0) from fun h=>b3 h.1)]
   simp only [cond_true,cond_false]
   by_cases d:u.c.depth>0
   . rw [if_pos d,if_pos (show u.c.backend=2/\u.c.depth>0 from ⟨b2,d⟩)]
   . rw [if_neg d,if_neg (show ¬(u.c.backend=2/\u.c.depth>0) from fun h=>d h.2)]
 . rw [ZaC b2,if_neg (show ¬(u.c.backend=2/\u.c.depth>0) from fun h=>b2 h.1)]
   simp only [cond_false]
   by_cases b3:u.c.backend=3
   . rw [ZaT b3]
     simp only [cond_true]
     by_cases d:u.c.layers>0
     . rw [if_pos d,if_pos (show u.c.backend=3/\u.c.layers>0 from ⟨b3,d⟩)]
     . rw [if_neg d,if_neg (show ¬(u.c.backend=3/\u.c.layers>0) from fun h=>d h.2)]
   . rw [ZaC b3,if_neg (show ¬(u.c.backend=3/\u.c.layers>0) from fun h=>b3 h.1)];rfl
theorem ZA1 {u:Turn} (h:FitM u):Zgt u=some (Zbs u):=by
 by_cases p:17<=u.th.phase
 . exact Zzf ⟨h.g,h.item,h.layer p,h.tape,h.draws,h.width⟩
 . have hp:u.th.phase≠17/\u.th.phase≠18/\u.th.phase≠19/\u.th.phase≠20/\u.th.phase≠21/\u.th.phase≠22/\u.th.phase≠23/\u.th.phase≠24/\u.th.phase≠26:=by omega
   obtain ⟨h1,h2⟩:=Zqm hp
   rw [h2]
   obtain ⟨p1,p2,p3,p4,p5,p6,p7,p8,p9⟩:=hp
   simp only [Zgt,ZaC p1,ZaC p2,ZaC p3,ZaC p4,ZaC p5,ZaC p6,ZaC p7,ZaC p8,ZaC p9,cond_false]
theorem Zzb {u:Turn} (h:FitM u):Zi1 u=some (ZaH u):=by
 have hb:=h.beg
 unfold Zi1 ZaH
 by_cases p:u.th.phase=0
 . rw [ZaT p,if_pos p];rfl
 rw [ZaC p,if_neg p]
 simp only [cond_false]
 by_cases p1:u.th.phase=1
 . have hl:=ZlE h.g h.g.t.1 h.g.t.2
   have hcl:Zch (begT u)=(ZeH (setW (begT u) (ZaZ u.c u.t) 0),true):=if_pos p1
   rw [ZaT p1,hcl,if_pos rfl]
   simp only [cond_true,Zck,ZiM h.g.cfg,Zbn,Zcw hl.1 hl.2.1 h.g.wl,bne_self_eq_false,cond_false,ZkG,ZwN]
   rfl
 have hcl:Zch (begT u)=(begT u,false):=if_neg p1
 rw [ZaC p1,hcl,if_neg (show ¬(((begT u,false):Turn×Bool).2=true) from fun x=>by cases x)]
 simp only [cond_false]
 have e2:ZmN { u with log:=([]:List Mark),done:=false }=some (ZbZ (begT u)):=ZzE hb
 have e3:ZlN { u with log:=([]:List Mark),done:=false }=some (ZbE (begT u)):=Zy2 hb rfl
 have e4:Zit { u with log:=([]:List Mark),done:=false }=some (Zcn (begT u)):=ZyO hb.fit
 have e5:ZfD { u with log:=([]:List Mark),done:=false }=some (Zb7 (begT u)):=Zyo hb.g
 have e6:ZcS { u with log:=([]:List Mark),done:=false }=some (Zbs (begT u)):=ZA1 hb
 have hno:(Zbs (begT u)).2=false->(Zbs (begT u)).1=begT u:=by
   intro hc
   unfold Zbs at hc ⊢
   repeat (split at hc;· cases hc)
   (repeat' split) <;> first | rfl | (exfalso;simp_all)
 simp only [e2,e3,e4,e5,e6]
 cases h2:(ZbZ (begT u)).2 with
 | true=>rfl
 | false =>
 cases h3:(ZbE (begT u)).2 with
 | true=>rfl
 | false =>
 cases h4:(Zcn (begT u)).2 with
 | true=>rfl
 | false =>
 cases h5:(Zb7 (begT u)).2 with
 | true=>rfl
 | false =>
 cases h6:(Zbs (begT u)).2 with
 | true=>rfl
 | false =>
   simp only [Bool.not_false,cond_true,hno h6]
   rfl
theorem ZBo:((List.range 5).all fun (d:Nat)=>(List.range 16).all fun (t:Nat)=>decide (Zm5 (d:Int) (t:Int)=ZeA (d:Int) (t:Int)))=true:=by kernel_rfl
theorem Zyg {c:Config} (h:CfgOK c) {t:Int} (h0:0<=t) (h1:t<c.threads):Zm5 c.depth t=some (ZmQ c t):=by
 have hd:=h.depth
 have ht:=h.threads
 have k:=List.all_eq_true.1 ZBo c.depth.toNat (List.mem_range.2 (show c.depth.toNat<5 by omega))
 have k2:=List.all_eq_true.1 k t.toNat (List.mem_range.2 (show t.toNat<16 by omega))
 have k3:=of_decide_eq_true k2
 rw [show ((c.depth.toNat:Nat):Int)=c.depth by omega,show ((t.toNat:Nat):Int)=t by omega] at k3
 rw [k3,ZtD h]
theorem Zxs {c:Config} (h:CfgOK c) {t:Int} (h0:0<=t) (h1:t<c.threads) (th:Thread) (item:Int) (op:Op) (now:Int):ZkQ c t th item op now=some (ZfA c t item op now th.width):=by
 unfold ZkQ ZfA
 simp only [Zl8,Zyg h h0 h1,Zas]
 by_cases e:c.wait>0
 . rw [if_pos e,if_pos e]
 . rw [if_neg e,if_neg e]
theorem Zpc {w:Wld} {e:Event} (h:w.hist.length+1<=4294967296):Zgs (w,e)=some { w with hist:=w.hist++[{ e with step:=w.steps }] }:=by
 show Zmn w e=_
 unfold Zmn
 rw [Nat.zero_add,ZaW (by omega),cond_true,ZaW (by simp;omega),cond_true]
theorem Zqu {w:Wld} {t:Int} {th:Thread} (h0:0<=t) (h1:t<(w.t.length:Int)) (h:w.t.length<=4294967296):Zg6 (w,t,th)=some { w with t:=w.t.set t.toNat th }:=by
 show ZjX w t th=_
 unfold ZjX
 simp only [Zas]
 rw [Nat.zero_add,ZaW h,cond_true,if_pos h0,if_pos h1]
theorem Zxe {w z:Wld} {t:Int} {u:Turn} (hl:w.log.length+u.log.length<=4294967296):Zog (t,w,z,u,w.log,0)=some (t,w,z,u,w.log++u.log.map (Zcl w.steps)):=by
 have h0:=Zbi (step:=ZgU) (fun i=>(t,w,z,u,w.log++(u.log.take i).map (Zcl w.steps),(i:Int))) u.log.length (y:=(t,w,z,u,w.log++u.log.map (Zcl w.steps))) (fun i hi=>?_) ?_
 . rw [List.take_zero,List.map_nil,List.append_nil] at h0
   exact h0
 . show Zfp _ _ _ _ _ _=_
   unfold Zfp
   simp only [Zas]
   have e2:(u.log.take i).map (Zcl w.steps)++[{ u.log.getD i Za6 with step:=w.steps }]=(u.log.take (i+1)).map (Zcl w.steps):=by
     rw [<- ZcO u.log Za6 i hi,List.map_append];rfl
   rw [if_pos (show (i:Int)<(u.log.length:Int) by omega),if_pos (show (0:Int)<=(i:Int) by omega),if_pos (show (i:Int)<(u.log.length:Int) by omega),Int.toNat_natCast,ZaW (by simp;omega),cond_true,List.append_assoc,e2,Zat (by omega) (by omega)]
   rfl
 . show Zfp _ _ _ _ _ _=_
   unfold Zfp
   simp only [Zas]
   rw [if_neg (by omega),List.take_length]
theorem Zzn {w:Wld} {t:Int} {u:Turn} (h0:0<=t) (h1:t<(w.t.length:Int)) (hT:w.t.length<=4294967296) (hf:FitM (Za5 w t)) (hu:ZaH (Za5 w t)=u) (hlog:w.log.length+u.log.length<=4294967296) (hh:w.hist.length+1<=4294967296):Zmv (w,t)=some (Zcd w t u):=by
 show ZlY w t=_
 unfold ZlY
 simp only [Zas]
 rw [if_pos h0,if_pos h1]
 have e1:Zmh (Turn.mk w.c t w.now w.m (w.t.getD t.toNat Zax) w.tape ([]:List Mark) false)=some u:=by
   show Zi1 (Za5 w t)=_
   rw [Zzb hf,hu]
 rw [e1]
 simp only []
 rw [Zqu (w:={ w with steps:=Zaf IntKind.i64 (w.steps+(1:Int)) }) h0 h1 hT]
 simp only [Nat.zero_add]
 rw [ZaW (by show w.log.length<=_;omega),cond_true]
 have e3:=fun z=>Zxe (w:={ w with m:=u.m,t:=w.t.set t.toNat u.th,steps:=Zdu w,tape:=u.tape }) (z:=z) (t:=t) (u:=u) hlog
 simp only [Zdu] at e3
 rw [e3]
 unfold Zcd
 cases hd:u.done with
 | false =>
   simp only [hd,Bool.not_false,cond_true]
   rfl
 | true =>
   simp only [hd,Bool.not_true,cond_false,ZcH,ZhF]
   rw [Zpc (by show w.hist.length+1<=_;omega)]
   rfl
section
variable {c:Config} {w:Wld} {n:Nat} {ro pa rt:Int->Int} {co:Int->Option Int} {t:Int}
theorem ZyM (W:WInv c w n ro pa rt co) (hC:CfgOK c) (hlo:Num c.lo) (hhi:Num c.hi) (hn:n<=190000) (e:SEntry):Zjf (w,e)=some (ZdR w e):=by
 show Zl9 w e=_
 unfold Zl9 ZdR
 rw [Zxn]
 simp only []
 by_cases k:Zdn w.c e=0
 case neg=>rw [ZeQ k,if_pos k];rfl
 rw [ZfN k,if_neg (fun x=>x k)]
 have hlT:=W.lenT
 have hT:=hC.threads
 have hlo1:=W.log
 have hh:=W.hist
 have k':Zdn c e=0:=by rw [<- W.cE];exact k
 simp only [cond_false,Zas,ZgB,Zp2]
 rcases Zl3 k' with ⟨k1,ht,hi,ho⟩ | ⟨k1,ht⟩ | k1
 . have h0:=ht.1
   have h1:=ht.2
   rw [ZaC (show ¬e.kind=3 by omega),cond_false,if_pos h0,if_pos (by omega),ZaT k1,cond_true]
   by_cases p:(w.t.getD e.t.toNat Zax).phase=0
   . have ec:Zlv w e=0:=if_neg (fun x=>x.2 p)
     have es:ZcE w e={ w with t:=w.t.set e.t.toNat (ZfA w.c e.t e.item e.op w.now (w.t.getD e.t.toNat Zax).width),hist:=w.hist++[⟨1,e.t,e.item,e.op,0,false,w.steps⟩] }:=by
       unfold ZcE invT
       rw [if_pos k1,if_neg (fun x=>x p)]
     rw [ec,es,ZfN p,cond_false]
     have hb:Zk0 (w.c,e.t,w.t.getD e.t.toNat Zax,e.item,e.op,w.now)=some (ZfA w.c e.t e.item e.op w.now (w.t.getD e.t.toNat Zax).width):=Zxs (by rw [W.cE];exact hC) h0 (by rw [W.cE];exact h1) _ _ _ _
     rw [hb]
     simp only []
     rw [Zqu h0 (by omega) (by omega)]
     simp only []
     rw [Zpc (by show w.hist.length+1<=_;omega)]
   . have ec:Zlv w e=170:=if_pos ⟨k1,p⟩
     have es:ZcE w e={ w with hist:=w.hist++[⟨3,e.t,e.item,e.op,0,false,w.steps⟩] }:=by
       unfold ZcE invT
       rw [if_pos k1,if_pos p]
     rw [ec,es,ZeQ p,cond_true,Zpc (by omega)]
 . have h0:=ht.1
   have h1:=ht.2
   have ec:Zlv w e=0:=if_neg (fun x=>by omega)
   rw [ec,ZaC (show ¬e.kind=3 by omega),cond_false,if_pos h0,if_pos (by omega),ZaC (show ¬e.kind=1 by omega),cond_false]
   unfold ZcE
   rw [if_neg (show ¬e.kind=1 by omega),if_pos k1]
   by_cases p:(w.t.getD e.t.toNat Zax).phase=0
   . rw [ZfN p,if_pos p];rfl
   . have hf:=W.fit hC hlo hhi ht p
     obtain ⟨_,ro',pa',rt',co1,W',_⟩:=W.pick hC hlo hhi (by omega) ht p
     have hl2:((w.log++(ZaH (Za5 w e.t)).log.map (Zcl (Zdu w))).length)<=16*(n+1):=W'.log
     rw [List.length_append,List.length_map] at hl2
     rw [ZeQ p,if_neg p,Zzn h0 (by omega) (by omega) hf rfl (by omega) (by omega)]
     rfl
 . have ec:Zlv w e=0:=if_neg (fun x=>by omega)
   have es:ZcE w e={ w with now:=Zaf .i64 (w.now+1) }:=by
     unfold ZcE
     rw [if_neg (by omega),if_neg (by omega),if_pos k1]
   rw [ec,es,ZaT k1,cond_true]
end
theorem ZwI {c:Config} (h:CfgOK c):Zk1 c=some (Zct c):=by
 have hs:=Zhs h
 have ht:=h.threads
 have hi:=h.items
 have hl:=Za2 h
 show Zld c=_
 unfold Zld
 have e2:ZnZ (sizeOf c,c.threads)=some ⟨List.replicate (sizeOf c).toNat 0,List.replicate c.threads.toNat []⟩:=by
   show ZnQ _ _=_
   unfold ZnQ
   have a1:ZpC (sizeOf c,c.threads,⟨[],[]⟩,⟨[],[]⟩,0)=some (c.threads,⟨[],[]⟩,⟨List.replicate (sizeOf c).toNat 0,[]⟩):=by
     refine Zbi (step:=ZhI) (fun k=>(sizeOf c,c.threads,(⟨[],[]⟩:Memo),(⟨List.replicate k 0,[]⟩:Memo),(k:Int))) (sizeOf c).toNat (fun k hk=>?_) ?_
     . show ZfV _ _ _ _ _=_
       unfold ZfV
       simp only [Zas]
       rw [if_pos (by omega),if_pos (by omega),ZaW (by simp;omega),cond_true,Zat (by omega) (by omega)]
       simp only [List.replicate_succ']
       rfl
     . show ZfV _ _ _ _ _=_
       unfold ZfV
       simp only [Zas]
       rw [if_neg (by omega)]
   have a2:ZpN (c.threads,⟨[],[]⟩,⟨List.replicate (sizeOf c).toNat 0,[]⟩,0)=some (⟨[],[]⟩,⟨List.replicate (sizeOf c).toNat 0,List.replicate c.threads.toNat []⟩):=by
     refine Zbi (step:=ZhJ) (fun k=>(c.threads,(⟨[],[]⟩:Memo),(⟨List.replicate (sizeOf c).toNat 0,List.replicate k []⟩:Memo),(k:Int))) c.threads.toNat (fun k hk=>?_) ?_
     . show ZfU _ _ _ _=_
       unfold ZfU
       simp only [Zas]
       rw [if_pos (by omega),if_pos (by omega),ZaW (by simp;omega),cond_true,Zat (by omega) (by omega)]
       simp only [List.replicate_succ']
       rfl
     . show ZfU _ _ _ _=_
       unfold ZfU
       simp only [Zas]
       rw [if_neg (by omega)]
   rw [a1]
   simp only []
   rw [a2]
 simp only [Zft,ZyF h,e2]
 have hw:ZnC (c,⟨[],[]⟩,⟨List.replicate (sizeOf c).toNat 0,List.replicate c.threads.toNat []⟩,0)=some (⟨[],[]⟩,Zct c):=by
   have h0:=Zbi (step:=Zgm) (fun k=>(c,⟨[],[]⟩,(⟨ZdU c k,List.replicate c.threads.toNat []⟩:Memo),(k:Int))) c.items.toNat (y:=(⟨[],[]⟩,Zct c)) (fun k hk=>?_) ?_
   . exact h0
   . show Zfe _ _ _ _=_
     unfold Zfe
     have hkc:=ZoA h (i:=(k:Int)) (by omega) (by omega)
     have hcell:ZdD (c,(k:Int))=some ((k:Int)*ZaB c):=by
       show Zje _ _=_
       rw [Zs1 h]
       unfold cellAt
       rw [if_neg (by omega)]
     simp only [Zas,hcell,Zbn]
     rw [if_pos (by omega),Zcw hkc.1 (by show _<((ZdU c k).length:Int);rw [Zew];omega) (by show (ZdU c k).length<=_;rw [Zew];omega),Zat (by omega) (by omega)]
     rfl
   . show Zfe _ _ _ _=_
     unfold Zfe
     simp only [Zas]
     rw [if_neg (by omega)]
     rfl
 rw [hw]
theorem ZzX {c:Config} {d:List Int} (h:CfgOK c) (hd:d.length<=4294967296):Zhn (c,d)=some (newW c d,0):=by
 obtain ⟨e,he,hE⟩:=ZoO c
 have he0:=hE.2 h
 subst he0
 have ht:=h.threads
 show Zhq c d=_
 unfold Zhq
 simp only [Zdf,he,bne_self_eq_false,cond_false,ZwI h,Nat.zero_add]
 rw [ZaW hd,cond_true]
 have hw:∀ z:Wld,ZpD (c,z,Wld.mk c (Zct c) ([]:List Thread) (0:Int) (0:Int) (Tape.mk d (0:Int)) ([]:List Mark) ([]:List Event),0)=some (z,newW c d):=by
   intro z
   refine Zbi (step:=ZhS) (fun k=>(c,z,Wld.mk c (Zct c) (List.replicate k newT) (0:Int) (0:Int) (Tape.mk d (0:Int)) ([]:List Mark) ([]:List Event),(k:Int))) c.threads.toNat (fun k hk=>?_) ?_
   . show Zf1 _ _ _ _=_
     unfold Zf1
     simp only [Zas,ZnP,Zrq]
     rw [if_pos (by omega),ZaW (by simp;omega),cond_true,Zat (by omega) (by omega)]
     simp only [List.replicate_succ']
     rfl
   . show Zf1 _ _ _ _=_
     unfold Zf1
     simp only [Zas]
     rw [if_neg (by omega)]
     rfl
 rw [hw]
end Go.Proofs.Mill
