/- Parts of the proof: MillRLin2, MillRRunAll, MillRSame, MillRWld, MillRCommon. -/
import Derived.Test.YtecgogmolkjhjaaGreatMillAll36
import Derived.Test.YtecgogmolkjhjaaGreatMillAll4
import Derived.Test.YtecgogmolkjhjaaGreatMillAll34
import Derived.Test.YtecgogmolkjhjaaGreatMillFDa
set_option linter.all false
/- Whatever is done, the ops are as if done one after another: kept by every entry. -/
namespace Go.Proofs.Mill
theorem ZxX (h:Thread):(ZeY h).phase=4\/(ZeY h).phase=7\/(ZeY h).phase=11\/(ZeY h).phase=2:=by
 unfold ZeY
 split
 . exact .inl rfl
 . have:=ZeP { h with phase:=4,held:=h.held++[h.node],node:=h.node / 2,at_:=0 }
   have e:(ZjM { h with phase:=4,held:=h.held++[h.node],node:=h.node / 2 }).phase=(ZeN { h with phase:=4,held:=h.held++[h.node],node:=h.node / 2,at_:=0 }).phase:=rfl
   rw [e]
   omega
theorem ZiK (h:Thread):(ZeN h).phase=7\/(ZeN h).phase=11\/(ZeN h).phase=2:=by
 have:=ZeP h
 omega
section
variable {c:Config} {t:Int} {v v':Vw} {h:Thread} {log:List Mark} {done:Bool}
theorem Zbh {h':Thread}:(put v t h').th t=h':=Zal
theorem ZiM (g:Thread):((Zbv g).phase=0↔Zd8 g=true):=by
 have:=Zg2 g
 cases hd:Zd8 g with
 | true=>rw [hd] at this;simp at this ⊢;exact this.1
 | false=>rw [hd] at this;simp at this ⊢;omega
theorem Tr.idle (T:Tr c t v h v' log done) (hv:v.th t=h) (hp:h.phase≠0):((v'.th t).phase=0↔done=true):=by
 have no:∀ {p:Int},p≠0->(p=0↔false=true):=fun h=>⟨fun x=>(h x).elim,fun x=>by cases x⟩
 cases T with
 | nop s=>rw [hv];exact no hp
 | start p s=>rw [Zbh];cases s <;> exact no (by dsimp only;decide)
 | load p=>rw [Zbh];exact no (by dsimp only;decide)
 | casF p hw hw2=>rw [Zbh];exact no (by dsimp only;decide)
 | same p e=>rw [Zbh];exact ZiM _
 | cas p e=>rw [Zbh];exact ZiM _
 | on25 p o=>rw [Zbh];cases o <;> exact no (by dsimp only;decide)
 | look1 p k=>rw [Zbh];exact no (by dsimp only;decide)
 | look0 p=>rw [Zbh];exact no (by dsimp only;decide)
 | lookL p=>rw [Zbh];exact no (by have:=ZiK { h with at_:=0 };show (ZeN { h with at_:=0 }).phase≠0;omega)
 | take p n e=>rw [Zbh];exact no (by have:=ZxX h;omega)
 | takeF p=>rw [Zbh];exact no (by dsimp only;decide)
 | join p n e=>rw [Zbh];exact no (by have:=ZiK { h with phase:=4,stop:=h.node,at_:=0 };show (ZeN { h with phase:=4,stop:=h.node,at_:=0 }).phase≠0;omega)
 | joinF p=>rw [Zbh];exact no (by dsimp only;decide)
 | seeF p a e=>rw [Zbh];exact no (by dsimp only;decide)
 | seeD p a k=>rw [Zbh];exact no (by dsimp only;decide)
 | close p a e=>rw [Zbh];exact no (by have:=ZiK { h with at_:=Zaf IntKind.i64 (h.at_+1) };show (ZeN { h with at_:=Zaf IntKind.i64 (h.at_+1) }).phase≠0;omega)
 | closeF p=>rw [Zbh];exact no (by dsimp only;decide)
 | takeB p w=>rw [Zbh];exact no (by dsimp only;decide)
 | clear p a=>rw [Zbh];exact no (by have:=ZiK { h with at_:=Zaf IntKind.i64 (h.at_+1) };show (ZeN { h with at_:=Zaf IntKind.i64 (h.at_+1) }).phase≠0;omega)
 | box11 p=>rw [Zbh];exact no (by dsimp only;decide)
 | dep p n=>rw [Zbh];exact no (by dsimp only;decide)
 | told p e=>rw [Zbh];exact no (by dsimp only;decide)
 | res p=>rw [Zbh];exact ZiM _
 | tell1 p a w=>rw [Zbh];exact no (by dsimp only;decide)
 | tell2 p a w=>rw [Zbh];exact ZiM _
 | box17 p=>rw [Zbh];exact no (by dsimp only;decide)
 | open18 p=>rw [Zbh];exact no (by dsimp only;decide)
 | swap20 p s w=>rw [Zbh];exact no (by dsimp only;decide)
 | swap23 p s=>rw [Zbh];exact no (by dsimp only;decide)
 | shut20 p e=>rw [Zbh];exact no (by dsimp only;decide)
 | shutF p e=>rw [Zbh];exact no (by dsimp only;decide)
 | cap21 p w e=>rw [Zbh];exact no (by dsimp only;decide)
 | capF p=>rw [Zbh];exact no (by dsimp only;decide)
 | absorb p w=>rw [Zbh];exact no (by dsimp only;decide)
 | spinF p e=>rw [Zbh];exact no (by dsimp only;decide)
 | spinL p e=>rw [Zbh];exact no (by dsimp only;omega)
 | spinO p e=>rw [Zbh];exact no (by dsimp only;decide)
 | open24 p=>rw [Zbh];exact no (by dsimp only;decide)
 | leave p e hw hw2 o=>rw [Zbh];cases o <;> exact no (by dsimp only;decide)
 | leaveF p e=>rw [Zbh];exact no (by dsimp only;decide)
def ZCc (c:Config) (v v':Vw) (h:Thread) (log:List Mark):Prop :=
 (log=[]/\∀ i,v'.b i 0=v.b i 0)\/(log=ZfD c h (v.b h.item 0)/\v'.b h.item 0=allT c.lo c.hi h.batch (v.b h.item 0)/\∀ i,i≠h.item->v'.b i 0=v.b i 0)
theorem Tr.cells (T:Tr c t v h v' log done) (hy:h.phase=3->h.y=allT c.lo c.hi h.batch h.x) (hn:0<=ZaO c) (hat:h.phase=8\/h.phase=10->ZbQ h≠0):ZCc c v v' h log:=by
 have sm:∀ {a b:List Mark},(∀ i,v'.b i 0=v.b i 0)->ZCc c v v' h []:=fun x=>.inl ⟨rfl,x⟩
 have wn:∀ {i m w:Int},m≠0->∀ k,setb v.b i m w k 0=v.b k 0:=fun hm k=>Zdr (fun x=>hm x.2.symm)
 cases T with
 | same p e=>exact .inr ⟨rfl,e.symm,fun i _=>rfl⟩
 | cas p e =>
   refine .inr ⟨by rw [e],?_,fun i hi=>Zdr (fun x=>hi x.1)⟩
   show setb v.b h.item 0 h.y h.item 0=_
   rw [Zfp,hy p,e]
 | take p n e=>exact .inl ⟨rfl,wn (by omega)⟩
 | join p n e=>exact .inl ⟨rfl,wn (by omega)⟩
 | close p a e=>exact .inl ⟨rfl,wn (hat (.inl p))⟩
 | clear p a=>exact .inl ⟨rfl,wn (hat (.inr p))⟩
 | dep p n=>exact .inl ⟨rfl,wn (by omega)⟩
 | swap20 p s w=>exact .inl ⟨rfl,wn (by omega)⟩
 | swap23 p s=>exact .inl ⟨rfl,wn (by omega)⟩
 | nop s=>exact .inl ⟨rfl,fun i=>rfl⟩
 | start p s=>exact .inl ⟨rfl,fun i=>rfl⟩
 | load p=>exact .inl ⟨rfl,fun i=>rfl⟩
 | casF p hw hw2=>exact .inl ⟨rfl,fun i=>rfl⟩
 | on25 p o=>exact .inl ⟨rfl,fun i=>rfl⟩
 | look1 p k=>exact .inl ⟨rfl,fun i=>rfl⟩
 | look0 p=>exact .inl ⟨rfl,fun i=>rfl⟩
 | lookL p=>exact .inl ⟨rfl,fun i=>rfl⟩
 | takeF p=>exact .inl ⟨rfl,fun i=>rfl⟩
 | joinF p=>exact .inl ⟨rfl,fun i=>rfl⟩
 | seeF p a e=>exact .inl ⟨rfl,fun i=>rfl⟩
 | seeD p a k=>exact .inl ⟨rfl,fun i=>rfl⟩
 | closeF p=>exact .inl ⟨rfl,fun i=>rfl⟩
 | takeB p w=>exact .inl ⟨rfl,fun i=>rfl⟩
 | box11 p=>exact .inl ⟨rfl,fun i=>rfl⟩
 | told p e=>exact .inl ⟨rfl,fun i=>rfl⟩
 | res p=>exact .inl ⟨rfl,fun i=>rfl⟩
 | tell1 p a w=>exact .inl ⟨rfl,fun i=>rfl⟩
 | tell2 p a w=>exact .inl ⟨rfl,fun i=>rfl⟩
 | box17 p=>exact .inl ⟨rfl,fun i=>rfl⟩
 | open18 p=>exact .inl ⟨rfl,fun i=>rfl⟩
 | shut20 p e=>exact .inl ⟨rfl,fun i=>rfl⟩
 | shutF p e=>exact .inl ⟨rfl,fun i=>rfl⟩
 | cap21 p w e=>exact .inl ⟨rfl,fun i=>rfl⟩
 | capF p=>exact .inl ⟨rfl,fun i=>rfl⟩
 | absorb p w=>exact .inl ⟨rfl,fun i=>rfl⟩
 | spinF p e=>exact .inl ⟨rfl,fun i=>rfl⟩
 | spinL p e=>exact .inl ⟨rfl,fun i=>rfl⟩
 | spinO p e=>exact .inl ⟨rfl,fun i=>rfl⟩
 | open24 p=>exact .inl ⟨rfl,fun i=>rfl⟩
 | leave p e hw hw2 o=>exact .inl ⟨rfl,fun i=>rfl⟩
 | leaveF p e=>exact .inl ⟨rfl,fun i=>rfl⟩
end
structure LinT (c:Config) (w:Wld) (th:Thread) (ro:Int) (co:Option Int) (j:Int):Prop where
  ex:∃ (k:Nat) (op:Bool) (last:Event),ansL c.lo c.hi j (ZbY j w.log) (0,false,Za3) w.hist=some (k,op,last)/\(op=true↔ro≠0) /\
    (op=true->last.op=th.op/\last.item=th.item/\last.kind=1/\last.t=j/\last∈w.hist/\last.step<=w.steps) /\
    (co=none->(ZbY j w.log).length=k) /\
    (∀ x,co=some x->(ZbY j w.log).length=k+1/\((ZbY j w.log).getD k ZaS).op=th.op/\((ZbY j w.log).getD k ZaS).item=th.item/\((ZbY j w.log).getD k ZaS).prior=x/\last.step<((ZbY j w.log).getD k ZaS).step/\((ZbY j w.log).getD k ZaS).step<=w.steps)
structure Lin (c:Config) (w:Wld) (ro:Int->Int) (co:Int->Option Int):Prop where
  ans:∀ j,InT c j->LinT c w ((vw c w.m w.t).th j) (ro j) (co j) j
  cells:∀ i,0<=i->i<c.items->Zek c i c.init w.log=some ((vw c w.m w.t).b i 0)
  srt:w.log.Pairwise (fun a b=>a.step<=b.step)
  steps:∀ m∈w.log,1<=m.step/\m.step<=w.steps
  asked:∀ m∈w.log,∃ h∈w.hist,h.kind=1/\h.t=m.t/\h.item=m.item/\h.op=m.op/\h.step<m.step
  inlog:∀ m∈w.log,InT c m.t/\(0<=m.item/\m.item<c.items)/\Zgn m.op c.bounded=true/\Num m.op.v
  ehist:∀ h∈w.hist,InT c h.t/\(h.kind=1\/h.kind=2\/h.kind=3)/\h.step<=w.steps/\0<=h.step/\Num h.op.v/\Num h.prior
  may:∀ j,InT c j->ro j≠0->Zgn ((vw c w.m w.t).th j).op c.bounded=true
  hsrt:w.hist.Pairwise (fun a b=>a.step<=b.step)
section
variable {c:Config} {w:Wld} {n:Nat} {ro pa rt ro' pa' rt':Int->Int} {co co':Int->Option Int} {t:Int}
theorem LinT.skip {th:Thread} {r:Int} {cc:Option Int} {j:Int} (L:LinT c w th r cc j) {w':Wld} {h:Event} (hh:h.t≠j\/h.kind=3) (e1:w'.log=w.log) (e2:w'.hist=w.hist++[h]) (e3:w.steps<=w'.steps):LinT c w' th r cc j:=by
 obtain ⟨k,op,last,a,b,d,f,g⟩:=L.ex
 refine ⟨k,op,last,?_,b,fun x=>?_,by rw [e1];exact f,fun x hx=>?_⟩
 . rw [e1,e2,Zgh a,Zmg]
   unfold ansE
   rw [if_pos hh]
 . obtain ⟨d1,d2,d3,d4,d5,d6⟩:=d x
   exact ⟨d1,d2,d3,d4,by rw [e2];exact List.mem_append_left _ d5,by omega⟩
 . rw [e1]
   obtain ⟨g1,g2,g3,g4,g5,g6⟩:=g x hx
   exact ⟨g1,g2,g3,g4,g5,by omega⟩
theorem LinT.same {th:Thread} {r:Int} {cc:Option Int} {j:Int} (L:LinT c w th r cc j) {w':Wld} (e1:ZbY j w'.log=ZbY j w.log) (e2:w'.hist=w.hist) (e3:w.steps<=w'.steps):LinT c w' th r cc j:=by
 obtain ⟨k,op,last,a,b,d,f,g⟩:=L.ex
 refine ⟨k,op,last,by rw [e1,e2];exact a,b,fun x=>?_,by rw [e1];exact f,fun x hx=>?_⟩
 . obtain ⟨d1,d2,d3,d4,d5,d6⟩:=d x
   exact ⟨d1,d2,d3,d4,by rw [e2];exact d5,by omega⟩
 . rw [e1]
   obtain ⟨g1,g2,g3,g4,g5,g6⟩:=g x hx
   exact ⟨g1,g2,g3,g4,g5,by omega⟩
theorem Lin.hist_more (Li:Lin c w ro co) {h:Event} (hs:w.steps<=h.step):(w.hist++[h]).Pairwise (fun a b=>a.step<=b.step):=by
 rw [List.pairwise_append]
 refine ⟨Li.hsrt,List.pairwise_singleton _ _,fun a ha b hb=>?_⟩
 rw [List.mem_singleton] at hb
 subst hb
 have:=(Li.ehist a ha).2.2.1
 omega
theorem Lin.invoke (Li:Lin c w ro co) (W:WInv c w n ro pa rt co) (hC:CfgOK c) {e:SEntry} (ht:InT c e.t) (ho:Zgn e.op c.bounded=true) (hop:Num e.op.v):(¬(w.t.getD e.t.toNat Zax).phase=0->Lin c (invT w e) ro co)/\((w.t.getD e.t.toNat Zax).phase=0->Lin c (invT w e) (seta ro e.t 1) co):=by
 have hth:(vw c w.m w.t).th e.t=w.t.getD e.t.toNat Zax:=Zgu ht
 have hst:=W.steps
 constructor
 . intro hp
   have e0:invT w e={ w with hist:=w.hist++[⟨3,e.t,e.item,e.op,0,false,w.steps⟩] }:=by unfold invT;rw [if_pos hp]
   rw [e0]
   refine ⟨fun j hj=>(Li.ans j hj).skip (.inr rfl) rfl rfl (Int.le_refl _),Li.cells,Li.srt,Li.steps,fun m hm=>?_,Li.inlog,fun h hh=>?_,Li.may,Li.hist_more (Int.le_refl _)⟩
   . obtain ⟨h,h1,h2⟩:=Li.asked m hm
     exact ⟨h,List.mem_append_left _ h1,h2⟩
   . rcases List.mem_append.1 hh with hh | hh
     . exact Li.ehist h hh
     . rw [List.mem_singleton] at hh;subst hh
       exact ⟨ht,.inr (.inr rfl),Int.le_refl _,hst.1,hop,ZbR (show (-1000000:Int)<=0/\(0:Int)<=1000000 by decide)⟩
 . intro hp
   have h0:ro e.t=0:=(W.inv.busy ht).2 (by rw [hth];exact hp)
   have e0:invT w e={ w with t:=w.t.set e.t.toNat (ZiY w.c e.t e.item e.op w.now (w.t.getD e.t.toNat Zax).width),hist:=w.hist++[⟨1,e.t,e.item,e.op,0,false,w.steps⟩] }:=by unfold invT;rw [if_neg (fun x=>x hp)]
   rw [e0]
   obtain ⟨b,hb⟩:∃ b,b=ZiY w.c e.t e.item e.op w.now (w.t.getD e.t.toNat Zax).width:=⟨_,rfl⟩
   rw [<- hb]
   have hvt:(vw c w.m (w.t.set e.t.toNat b)).th=seta (vw c w.m w.t).th e.t b:=by
     rw [Zqa W.lenT ht];rfl
   refine ⟨fun j hj=>?_,Li.cells,Li.srt,Li.steps,fun m hm=>?_,Li.inlog,fun h hh=>?_,fun j hj hr=>?_,Li.hist_more (Int.le_refl _)⟩
   . show LinT c _ ((vw c w.m (w.t.set e.t.toNat b)).th j) (seta ro e.t 1 j) (co j) j
     rw [hvt]
     by_cases ej:j=e.t
     . rw [ej,Zal,Zal]
       obtain ⟨k,op,last,a,b1,d,f,g⟩:=(Li.ans e.t ht).ex
       have hop:op=false:=by
         cases op with
         | false=>rfl
         | true=>exact (b1.1 rfl h0).elim
       have hct:co e.t=none:=(W.inv.core.k0 e.t h0).1
       refine ⟨k,true,⟨1,e.t,e.item,e.op,0,false,w.steps⟩,?_,⟨fun _=>by decide,fun _=>rfl⟩,fun _=>⟨by rw [hb];rfl,by rw [hb];rfl,rfl,rfl,List.mem_append_right _ (List.mem_singleton.2 rfl),Int.le_refl _⟩,f,fun x hx=>by rw [hct] at hx;cases hx⟩
       rw [Zgh a,Zmg,hop]
       unfold ansE
       rw [if_neg (by show ¬(e.t≠e.t\/(1:Int)=3);simp),if_pos rfl,if_neg (show ¬(false=true) by decide)]
     . rw [Zah ej,Zah ej]
       exact (Li.ans j hj).skip (.inl (Ne.symm ej)) rfl rfl (Int.le_refl _)
   . obtain ⟨h,h1,h2⟩:=Li.asked m hm
     exact ⟨h,List.mem_append_left _ h1,h2⟩
   . rcases List.mem_append.1 hh with hh | hh
     . exact Li.ehist h hh
     . rw [List.mem_singleton] at hh;subst hh
       exact ⟨ht,.inl rfl,Int.le_refl _,hst.1,hop,ZbR (show (-1000000:Int)<=0/\(0:Int)<=1000000 by decide)⟩
   . show Zgn ((vw c w.m (w.t.set e.t.toNat b)).th j).op c.bounded=true
     rw [hvt]
     by_cases ej:j=e.t
     . rw [ej,Zal,hb];exact ho
     . rw [Zah ej] at hr ⊢;exact Li.may j hj hr
theorem Core.inBatch {ba:Int->List Entry} {ks:Int->List Kid} {opf:Int->Op} {it:Int->Int} (C:Core c ba ks opf it ro pa rt co) {r:Int} (hr:ro r=1) (j:Int):(ro j≠0/\co j=none/\rt j=r)↔idxOf (ba r) j<(ba r).length:=by
 obtain ⟨cr,rr⟩:=C.k1 r (by omega)
 constructor
 . rintro ⟨a,b,d⟩
   obtain ⟨_,_,o,hs⟩:=C.k5 j a b
   rw [d] at hs
   obtain ⟨r1,hr1⟩:=C.k3 j a
   have hm:(⟨j,opf j⟩:Entry)∈ba r:=hs.mem (by rw [hr1];exact List.mem_cons_self ..)
   exact ZD7 hm
 . intro h
   unfold idxOf at h
   have h':((ba r).map (·.t)).findIdx (fun t=>t == j)<((ba r).map (·.t)).length:=by rwa [List.length_map]
   have h2:=List.findIdx_getElem (w:=h')
   have h3:j∈(ba r).map (·.t):=by
     rw [<- eq_of_beq h2];exact List.getElem_mem h'
   obtain ⟨e,he,rfl⟩:=List.mem_map.1 h3
   obtain ⟨a,b,d,f,g⟩:=C.k4 r (by omega) cr e he
   exact ⟨a,f,by rw [g,rr]⟩
theorem Lin.pick (Li:Lin c w ro co) (W:WInv c w n ro pa rt co) (hC:CfgOK c) (hlo:Num c.lo) (hhi:Num c.hi) (hn:n<=200000) (hci:Inb c c.init) (ht:InT c t) (hp:(w.t.getD t.toNat Zax).phase≠0) :
   ∃ ro' pa' rt' co',WInv c (Zcj w t (ZaL (Zbc w t))) (n+1) ro' pa' rt' co'/\Lin c (Zcj w t (ZaL (Zbc w t))) ro' co':=by
 obtain ⟨_,ro',pa',rt',co1,W',info,T⟩:=W.pick hC hlo hhi hn ht hp
 refine ⟨ro',pa',rt',_,W',?_⟩
 have hth:(vw c w.m w.t).th t=w.t.getD t.toNat Zax:=Zgu ht
 have hkp:=ZmG (Zbc w t)
 have hL:=W.inv.loc t ht
 have hro:ro t≠0:=by
   intro h0
   have:=(W.inv.busy ht).1 h0
   rw [hth] at this
   exact hp this
 have hop1:(ZaL (Zbc w t)).th.op=(w.t.getD t.toNat Zax).op:=ZwV hkp
 have hit1:(ZaL (Zbc w t)).th.item=(w.t.getD t.toNat Zax).item:=Zz3 hkp
 obtain ⟨u,hu⟩:∃ u,u=ZaL (Zbc w t):=⟨_,rfl⟩
 rw [<- hu] at W' info T hop1 hit1 ⊢
 have hst:=W.steps
 have hs:Zd9 w=w.steps+1:=by unfold Zd9;rw [ZaF (by omega) (by omega)]
 have hvth:(vw c (Zcj w t u).m (Zcj w t u).t).th=seta (vw c w.m w.t).th t u.th:=by
   show vwT c (w.t.set t.toNat u.th)=_
   rw [ZAc W.lenT ht];rfl
 have hidle:=T.idle hth hp
 rw [hvth,Zal] at hidle
 have hcells:=T.cells (fun p=>by rw [<- hth] at p ⊢;exact hL.y p) (ZbG c).1 (fun p=>by
   rw [<- hth] at p ⊢
   have ha:=hL.ari.2.2.2.2.2.2.1 (by omega)
   have:=(W.inv.nodes t ht).1 _ (ZgH (by omega) ha)
   omega)
 have hbz:∀ j,InT c j->j≠t->(ro' j=0↔ro j=0):=by
   intro j hj hjt
   rw [W'.inv.busy hj,W.inv.busy hj,hvth,Zah hjt]
 have hbt:ro' t=0↔u.done=true:=by
   rw [W'.inv.busy ht,hvth,Zal];exact hidle
 obtain ⟨co',hco'⟩:∃ co',co'=if u.done=true then seta co1 t none else co1:=⟨_,rfl⟩
 rw [<- hco'] at W' ⊢
 have hcoj:∀ j,j≠t->co' j=co1 j:=by
   intro j hj;rw [hco'];split
   . rw [Zah hj]
   . rfl
 obtain ⟨ms,hms⟩:∃ ms,ms=u.log.map (ZcG (Zd9 w)):=⟨_,rfl⟩
 have hlog:(Zcj w t u).log=w.log++ms:=by rw [hms];rfl
 have hsteps:(Zcj w t u).steps=w.steps+1:=hs
 have own:∀ j,InT c j->∃ (k:Nat) (op:Bool) (last:Event),ansL c.lo c.hi j (ZbY j (w.log++ms)) (0,false,Za3) w.hist=some (k,op,last)/\(op=true↔ro j≠0) /\
     (op=true->last.op=((vw c w.m w.t).th j).op/\last.item=((vw c w.m w.t).th j).item/\last.kind=1/\last.t=j/\last∈w.hist/\last.step<=w.steps) /\
     (co1 j=none->(ZbY j (w.log++ms)).length=k) /\
     (∀ x,co1 j=some x->(ZbY j (w.log++ms)).length=k+1/\((ZbY j (w.log++ms)).getD k ZaS).op=((vw c w.m w.t).th j).op/\((ZbY j (w.log++ms)).getD k ZaS).item=((vw c w.m w.t).th j).item/\((ZbY j (w.log++ms)).getD k ZaS).prior=x/\last.step<((ZbY j (w.log++ms)).getD k ZaS).step/\((ZbY j (w.log++ms)).getD k ZaS).step<=w.steps+1):=by
   intro j hj
   obtain ⟨k,op,last,a,b,d,f,g⟩:=(Li.ans j hj).ex
   rcases info.1 with ⟨e1,e2⟩ | ⟨hr1,e1,e2⟩
   . have:ms=[]:=by rw [hms,e1];rfl
     rw [this,List.append_nil,e2]
     exact ⟨k,op,last,a,b,d,f,fun x hx=>by obtain ⟨g1,g2,g3,g4,g5,g6⟩:=g x hx;exact ⟨g1,g2,g3,g4,g5,by omega⟩⟩
   . have hmo:ZbY j ms=if idxOf ((vw c w.m w.t).th t).batch j<((vw c w.m w.t).th t).batch.length then [⟨j,((vw c w.m w.t).th t).item,(((vw c w.m w.t).th t).batch.getD (idxOf ((vw c w.m w.t).th t).batch j) ⟨0,⟨0,0⟩⟩).op,allT c.lo c.hi (((vw c w.m w.t).th t).batch.take (idxOf ((vw c w.m w.t).th t).batch j)) ((vw c w.m w.t).b ((vw c w.m w.t).th t).item 0),Zd9 w⟩] else []:=by
       rw [hms,e1]
       exact ZsN _ _ j _ _ (W.inv.core.nod t hro)
     have hib:=W.inv.core.inBatch hr1 j
     rw [Zx5,hmo]
     by_cases hlt:idxOf ((vw c w.m w.t).th t).batch j<((vw c w.m w.t).th t).batch.length
     . obtain ⟨q1,q2,q3⟩:=hib.2 hlt
       have hf:=f q2
       have hc1:co1 j=some (allT c.lo c.hi (((vw c w.m w.t).th t).batch.take (idxOf ((vw c w.m w.t).th t).batch j)) ((vw c w.m w.t).b ((vw c w.m w.t).th t).item 0)):=by
         rw [e2];exact if_pos ⟨q1,q2,q3⟩
       have hd:=d (b.2 q1)
       have hget:(((vw c w.m w.t).th t).batch.getD (idxOf ((vw c w.m w.t).th t).batch j) ⟨0,⟨0,0⟩⟩)∈((vw c w.m w.t).th t).batch:=by
         rw [List.getD_eq_getElem?_getD,List.getElem?_eq_getElem hlt];exact List.getElem_mem hlt
       have hgt:(((vw c w.m w.t).th t).batch.getD (idxOf ((vw c w.m w.t).th t).batch j) ⟨0,⟨0,0⟩⟩).t=j:=by
         rw [List.getD_eq_getElem?_getD,List.getElem?_eq_getElem hlt]
         have h':(((vw c w.m w.t).th t).batch.map (·.t)).findIdx (fun t=>t == j)<(((vw c w.m w.t).th t).batch.map (·.t)).length:=by rw [List.length_map];exact hlt
         have h2:=List.findIdx_getElem (w:=h')
         have:=eq_of_beq h2
         rw [List.getElem_map] at this
         exact this
       have hk4:=W.inv.core.k4 t hro (W.inv.core.k1 t (by omega)).1 _ hget
       rw [hgt] at hk4
       rw [if_pos hlt]
       refine ⟨k,op,last,Zsm a,b,d,fun x=>(by rw [hc1] at x;cases x),fun x hx=>?_⟩
       rw [hc1] at hx
       have hx:=Option.some.inj hx
       have hg:(ZbY j w.log++[(⟨j,((vw c w.m w.t).th t).item,(((vw c w.m w.t).th t).batch.getD (idxOf ((vw c w.m w.t).th t).batch j) ⟨0,⟨0,0⟩⟩).op,allT c.lo c.hi (((vw c w.m w.t).th t).batch.take (idxOf ((vw c w.m w.t).th t).batch j)) ((vw c w.m w.t).b ((vw c w.m w.t).th t).item 0),Zd9 w⟩:Mark)]).getD k ZaS=⟨j,((vw c w.m w.t).th t).item,(((vw c w.m w.t).th t).batch.getD (idxOf ((vw c w.m w.t).th t).batch j) ⟨0,⟨0,0⟩⟩).op,allT c.lo c.hi (((vw c w.m w.t).th t).batch.take (idxOf ((vw c w.m w.t).th t).batch j)) ((vw c w.m w.t).b ((vw c w.m w.t).th t).item 0),Zd9 w⟩:=by
         rw [List.getD_eq_getElem?_getD,List.getElem?_append_right (by omega),hf,Nat.sub_self];rfl
       rw [hg]
       refine ⟨by rw [List.length_append,hf];rfl,hk4.2.1.symm,hk4.2.2.1.symm,hx,?_,?_⟩
       . show last.step<Zd9 w
         rw [hs];omega
       . show Zd9 w<=w.steps+1
         rw [hs];exact Int.le_refl _
     . rw [if_neg hlt,List.append_nil]
       have hc1:co1 j=co j:=by rw [e2];exact if_neg (fun x=>hlt (hib.1 x))
       rw [hc1]
       exact ⟨k,op,last,a,b,d,f,fun x hx=>by obtain ⟨g1,g2,g3,g4,g5,g6⟩:=g x hx;exact ⟨g1,g2,g3,g4,g5,by omega⟩⟩
 have hmst:∀ m∈ms,m.step=w.steps+1:=by
   intro m hm
   rw [hms] at hm
   obtain ⟨m0,_,rfl⟩:=List.mem_map.1 hm
   exact hs
 have hment:∀ m∈ms,∃ e∈((vw c w.m w.t).th t).batch,ro t=1/\m.t=e.t/\m.op=e.op/\m.item=((vw c w.m w.t).th t).item:=by
   intro m hm
   rw [hms] at hm
   obtain ⟨m0,hm0,rfl⟩:=List.mem_map.1 hm
   rcases info.1 with ⟨e1,_⟩ | ⟨hr1,e1,_⟩
   . rw [e1] at hm0;cases hm0
   . rw [e1] at hm0
     unfold ZfD at hm0
     obtain ⟨i,hi,hg⟩:=List.mem_iff_getElem.1 hm0
     rw [List.getElem_zipWith] at hg
     rw [List.length_zipWith] at hi
     exact ⟨((vw c w.m w.t).th t).batch[i]'(by omega),List.getElem_mem _,hr1,by rw [<- hg];rfl,by rw [<- hg];rfl,by rw [<- hg];rfl⟩
 have hk4m:∀ m∈ms,InT c m.t/\ro m.t≠0/\((vw c w.m w.t).th m.t).op=m.op/\((vw c w.m w.t).th m.t).item=m.item:=by
   intro m hm
   obtain ⟨e,he,hr1,a,b,d⟩:=hment m hm
   have hk:=W.inv.core.k4 t hro (W.inv.core.k1 t (by omega)).1 e he
   rw [a,b,d]
   exact ⟨W.inv.core.ent t hro e he,hk.1,hk.2.1,hk.2.2.1⟩
 have hopt:((vw c w.m w.t).th t).op=u.th.op:=by rw [hop1,hth]
 have hitt:((vw c w.m w.t).th t).item=u.th.item:=by rw [hit1,hth]
 refine ⟨fun j hj=>?_,fun i h0 h1=>?_,?_,fun m hm=>?_,fun m hm=>?_,fun m hm=>?_,fun h hh=>?_,fun j hj hr=>?_,?_⟩
 . rw [hvth]
   obtain ⟨k,op,last,a,b,d,f,g⟩:=own j hj
   by_cases ej:j=t
   . rw [ej] at a b d f g hj ⊢
     rw [Zal]
     have hopen:op=true:=b.2 hro
     obtain ⟨d1,d2,d3,d4,d5,d6⟩:=d hopen
     cases hd:u.done with
     | false =>
       have hh:(Zcj w t u).hist=w.hist:=by show (if u.done=true then _ else _)=_;rw [hd];rfl
       have hct:co' t=co1 t:=by rw [hco',hd];rfl
       refine ⟨k,op,last,by rw [hlog,hh];exact a,⟨fun _ x=>?_,fun _=>hopen⟩,fun _=>⟨by rw [<- hopt];exact d1,by rw [<- hitt];exact d2,d3,d4,by rw [hh];exact d5,by rw [hsteps];omega⟩,fun x=>?_,fun x hx=>?_⟩
       . have:=hbt.1 x;rw [hd] at this;cases this
       . rw [hlog];exact f (by rw [<- hct];exact x)
       . rw [hlog,hsteps]
         have:=g x (by rw [<- hct];exact hx)
         rw [hopt,hitt] at this
         exact this
     | true =>
       have hh:(Zcj w t u).hist=w.hist++[ZjH w t u]:=by show (if u.done=true then _ else _)=_;rw [hd];rfl
       have hc1:co1 t=some u.th.x:=by
         have:=info.2 hd
         rw [hvth,Zal] at this
         exact this
       have hct:co' t=none:=by rw [hco',hd,if_pos rfl,Zal]
       obtain ⟨g1,g2,g3,g4,g5,g6⟩:=g _ hc1
       have hfit:Fits c.lo c.hi (ZbY t (w.log++ms)) k last (ZjH w t u):=by
         refine ⟨by omega,by rw [g2,hopt];rfl,by rw [g3,hitt];rfl,g4,?_,by rw [d1,hopt];rfl,by rw [d2,hitt];rfl,g5,?_⟩
         . show (App u.th.op u.th.x w.c.lo w.c.hi).2=(App u.th.op u.th.x c.lo c.hi).2
           rw [W.cE]
         . show _<=Zd9 w
           rw [hs];exact g6
       refine ⟨k+1,false,last,?_,⟨fun x=>(by cases x),fun x=>(x (hbt.2 hd)).elim⟩,fun x=>(by cases x),fun _=>?_,fun x hx=>by rw [hct] at hx;cases hx⟩
       . rw [hlog,hh,Zgh a,Zmg]
         unfold ansE
         rw [if_neg (by show ¬(t≠t\/(2:Int)=3);simp),if_neg (by show ¬(2:Int)=1;decide),if_pos ⟨hopen,hfit⟩]
       . rw [hlog];exact g1
   . rw [Zah ej,hcoj j ej]
     have hskip:ansL c.lo c.hi j (ZbY j (Zcj w t u).log) (0,false,Za3) (Zcj w t u).hist=some (k,op,last):=by
       rw [hlog]
       show ansL c.lo c.hi j (ZbY j (w.log++ms)) (0,false,Za3) (if u.done=true then w.hist++[ZjH w t u] else w.hist)=_
       split
       . rw [Zgh a,Zmg]
         unfold ansE
         rw [if_pos (.inl (by show t≠j;exact Ne.symm ej))]
       . exact a
     have hb:=hbz j hj ej
     refine ⟨k,op,last,hskip,⟨fun x=>fun y=>b.1 x (hb.1 y),fun x=>b.2 (fun y=>x (hb.2 y))⟩,fun x=>?_,fun x=>by rw [hlog];exact f x,fun x hx=>by rw [hlog,hsteps];exact g x hx⟩
     obtain ⟨d1,d2,d3,d4,d5,d6⟩:=d x
     refine ⟨d1,d2,d3,d4,?_,by rw [hsteps];omega⟩
     show last∈(if u.done=true then w.hist++[ZjH w t u] else w.hist)
     split
     . exact List.mem_append_left _ d5
     . exact d5
 . rw [hlog]
   have old:=Li.cells i h0 h1
   rw [Zj1 old]
   have hCin:Inb c ((vw c w.m w.t).b i 0):=Zpu old hci
   have hnx:=W.inv.num.1 i 0
   rcases hcells with ⟨e1,e2⟩ | ⟨e1,e2,e3⟩
   . rw [hms,e1]
     show some _=some _
     rw [e2 i]
   . by_cases ei:i=(w.t.getD t.toNat Zax).item
     . have hr1:ro t=1:=by
         rcases info.1 with ⟨x,_⟩ | ⟨x,_,_⟩
         . exfalso
           rw [x] at e1
           have hb:=W.inv.core.k3 t hro
           obtain ⟨r,hb⟩:=hb
           have hb:((vw c w.m w.t).th t).batch=⟨t,((vw c w.m w.t).th t).op⟩::r:=hb
           rw [hth] at hb
           unfold ZfD at e1
           rw [hb] at e1
           cases e1
         . exact x
       rw [hms,e1,ei,e2]
       unfold ZfD
       rw [<- ei]
       have:=Zp9 hlo i (Zd9 w) (w.t.getD t.toNat Zax).batch ((vw c w.m w.t).b i 0) hnx hCin (fun e he=>by
         rw [<- hth] at he
         have hk:=W.inv.core.k4 t hro (W.inv.core.k1 t (by omega)).1 e he
         refine ⟨hL.ops (by rw [hth];exact hp) e he,?_⟩
         have:=Li.may e.t (W.inv.core.ent t hro e he) hk.1
         have h2:((vw c w.m w.t).th e.t).op=e.op:=hk.2.1
         rwa [h2] at this)
       exact this
     . rw [hms,e1,e3 i ei]
       exact ZoH (Ne.symm ei) _ (fun _ _=>rfl) _ _ _
 . rw [hlog,List.pairwise_append]
   refine ⟨Li.srt,?_,fun a ha b hb=>?_⟩
   . rw [List.pairwise_iff_getElem]
     intro i j hi hj _
     rw [hmst _ (List.getElem_mem hi),hmst _ (List.getElem_mem hj)]
     exact Int.le_refl _
   . rw [hmst b hb]
     have:=(Li.steps a ha).2
     omega
 . rw [hsteps]
   rw [hlog] at hm
   rcases List.mem_append.1 hm with hm | hm
   . have:=Li.steps m hm;omega
   . rw [hmst m hm];omega
 . rw [hlog] at hm
   have hsub:∀ h∈w.hist,h∈(Zcj w t u).hist:=by
     intro h hh
     show h∈(if u.done=true then w.hist++[ZjH w t u] else w.hist)
     split
     . exact List.mem_append_left _ hh
     . exact hh
   rcases List.mem_append.1 hm with hm | hm
   . obtain ⟨h,h1,h2⟩:=Li.asked m hm
     exact ⟨h,hsub h h1,h2⟩
   . obtain ⟨q1,q2,q3,q4⟩:=hk4m m hm
     obtain ⟨k,op,last,a,b,d,_,_⟩:=(Li.ans m.t q1).ex
     obtain ⟨d1,d2,d3,d4,d5,d6⟩:=d (b.2 q2)
     exact ⟨last,hsub _ d5,d3,d4,by rw [d2,q4],by rw [d1,q3],by rw [hmst m hm];omega⟩
 . rw [hlog] at hm
   rcases List.mem_append.1 hm with hm | hm
   . exact Li.inlog m hm
   . obtain ⟨q1,q2,q3,q4⟩:=hk4m m hm
     have hLm:=W.inv.loc m.t q1
     have hpm:((vw c w.m w.t).th m.t).phase≠0:=fun x=>q2 ((W.inv.busy q1).2 x)
     refine ⟨q1,by rw [<- q4];exact hLm.item hpm,by rw [<- q3];exact Li.may m.t q1 q2,?_⟩
     obtain ⟨e,he,_,_,b,_⟩:=hment m hm
     rw [b]
     exact hL.ops (by rw [hth];exact hp) e he
 . have hh:h∈(if u.done=true then w.hist++[ZjH w t u] else w.hist):=hh
   rw [hsteps]
   have old:h∈w.hist->_:=fun hh=>Li.ehist h hh
   split at hh
   . rcases List.mem_append.1 hh with hh | hh
     . have:=old hh;exact ⟨this.1,this.2.1,by omega,this.2.2.2⟩
     . rw [List.mem_singleton] at hh;subst hh
       refine ⟨ht,.inr (.inl rfl),by show Zd9 w<=_;rw [hs];exact Int.le_refl _,by show 0<=Zd9 w;rw [hs];omega,?_,?_⟩
       . show Num u.th.op.v
         obtain ⟨r,hb⟩:=W.inv.core.k3 t hro
         have hb:((vw c w.m w.t).th t).batch=⟨t,((vw c w.m w.t).th t).op⟩::r:=hb
         have:=hL.ops (by rw [hth];exact hp) ⟨t,((vw c w.m w.t).th t).op⟩ (by rw [hb];exact List.mem_cons_self ..)
         rw [<- hopt];exact this
       . show Num u.th.x
         have:=(W'.inv.loc t ht).nx
         rw [hvth,Zal] at this
         exact this
   . have:=old hh;exact ⟨this.1,this.2.1,by omega,this.2.2.2⟩
 . rw [hvth]
   by_cases ej:j=t
   . rw [ej,Zal,hop1,<- hth];exact Li.may t ht hro
   . rw [Zah ej];exact Li.may j hj (fun x=>hr ((hbz j hj ej).2 x))
 . show (if u.done=true then w.hist++[ZjH w t u] else w.hist).Pairwise _
   split
   . exact Li.hist_more (by show w.steps<=Zd9 w;rw [hs];omega)
   . exact Li.hsrt
theorem Lin.entry (Li:Lin c w ro co) (W:WInv c w n ro pa rt co) (hC:CfgOK c) (hlo:Num c.lo) (hhi:Num c.hi) (hn:n<=200000) (hci:Inb c c.init) {e:SEntry} (he:Zcd c e=0) (hop:Num e.op.v) :
   ∃ ro' pa' rt' co',WInv c (ZcZ w e) (n+1) ro' pa' rt' co'/\Lin c (ZcZ w e) ro' co':=by
 have hE:=(W.entry hC hlo hhi hn he hop).2
 rcases Zpk he with ⟨k,ht,hi,ho⟩ | ⟨k,ht⟩ | k
 . unfold ZcZ
   rw [if_pos k]
   have hI:=Li.invoke W hC ht ho hop
   by_cases hp:(w.t.getD e.t.toNat Zax).phase=0
   . have h2:=hI.2 hp
     have hth:(vw c w.m w.t).th e.t=w.t.getD e.t.toNat Zax:=Zgu ht
     have hl:=W.log;have hh:=W.hist;have hst:=W.steps;have hnw:=W.now
     refine ⟨seta ro e.t 1,pa,seta rt e.t e.t,co,?_,h2⟩
     have hv:=W.inv.invoke hC ht (by rw [hth];exact hp) (i:=e.item) (op:=e.op) (now:=w.now) (wd:=(w.t.getD e.t.toNat Zax).width) hi hop (by rw [hth])
     unfold invT
     rw [if_neg (fun x=>x hp)]
     refine ⟨W.cE,?_,W.lenW,W.lenB,W.tape,?_,?_,?_,?_,?_⟩
     . show ((w.t.set _ _).length:Int)=_
       rw [List.length_set];exact W.lenT
     . show w.log.length<=_;omega
     . show (w.hist++[_]).length<=_
       rw [List.length_append,List.length_singleton];omega
     . show 0<=w.steps/\w.steps<=((n+1:Nat):Int);omega
     . show 0<=w.now/\w.now<=((n+1:Nat):Int);omega
     . show Inv c (vw c w.m (w.t.set _ _)) _ _ _ _
       rw [Zqa W.lenT ht,W.cE]
       exact hv
   . have h2:=hI.1 hp
     have hl:=W.log;have hh:=W.hist;have hst:=W.steps;have hnw:=W.now
     refine ⟨ro,pa,rt,co,?_,h2⟩
     unfold invT
     rw [if_pos hp]
     refine ⟨W.cE,W.lenT,W.lenW,W.lenB,W.tape,?_,?_,?_,?_,W.inv⟩
     . show w.log.length<=_;omega
     . show (w.hist++[_]).length<=_
       rw [List.length_append,List.length_singleton];omega
     . show 0<=w.steps/\w.steps<=((n+1:Nat):Int);omega
     . show 0<=w.now/\w.now<=((n+1:Nat):Int);omega
 . unfold ZcZ
   rw [if_neg (show ¬e.kind=1 by omega),if_pos k]
   have hl:=W.log;have hh:=W.hist;have hst:=W.steps;have hnw:=W.now
   by_cases hp:(w.t.getD e.t.toNat Zax).phase=0
   . rw [if_pos hp]
     exact ⟨ro,pa,rt,co,⟨W.cE,W.lenT,W.lenW,W.lenB,W.tape,by omega,by omega,by omega,by omega,W.inv⟩,Li⟩
   . rw [if_neg hp]
     exact Li.pick W hC hlo hhi hn hci ht hp
 . have hl:=W.log;have hh:=W.hist;have hst:=W.steps;have hnw:=W.now
   unfold ZcZ
   rw [if_neg (show ¬e.kind=1 by omega),if_neg (show ¬e.kind=2 by omega),if_pos k]
   refine ⟨ro,pa,rt,co,⟨W.cE,W.lenT,W.lenW,W.lenB,W.tape,?_,?_,?_,?_,W.inv⟩,⟨fun j hj=>(Li.ans j hj).same rfl rfl (Int.le_refl _),Li.cells,Li.srt,Li.steps,Li.asked,Li.inlog,Li.ehist,Li.may,Li.hsrt⟩⟩
   . show w.log.length<=_;omega
   . show w.hist.length<=_;omega
   . show 0<=w.steps/\w.steps<=((n+1:Nat):Int);omega
   . show 0<=Zaf .i64 (w.now+1)/\Zaf .i64 (w.now+1)<=((n+1:Nat):Int)
     rw [ZaF (by omega) (by omega)];omega
theorem Lin.entries (hC:CfgOK c) (hlo:Num c.lo) (hhi:Num c.hi) (hci:Inb c c.init):∀ {l:List SEntry} {w:Wld} {n:Nat} {ro pa rt:Int->Int} {co:Int->Option Int},WInv c w n ro pa rt co->Lin c w ro co->n+l.length<=200000->(∀ e∈l,Zcd c e=0/\Num e.op.v) ->
   ∃ ro' pa' rt' co',WInv c (l.foldl ZcZ w) (n+l.length) ro' pa' rt' co'/\Lin c (l.foldl ZcZ w) ro' co'
 | [],w,n,ro,pa,rt,co,W,Li,_,_=>⟨ro,pa,rt,co,W,Li⟩
 | e :: l, w, n, ro, pa, rt, co, W, Li, hn, he => by
   rw [List.length_cons] at hn
   obtain ⟨ro',pa',rt',co',W',Li'⟩:=Li.entry W hC hlo hhi (by omega) hci (he e (List.mem_cons_self ..)).1 (he e (List.mem_cons_self ..)).2
   have:=Lin.entries hC hlo hhi hci W' Li' (by omega) (fun x hx=>he x (List.mem_cons_of_mem _ hx))
   rw [List.length_cons,show n+(l.length+1)=n+1+l.length by omega]
   exact this
theorem ZAo (hC:CfgOK c) (hci:Num c.init) {d:List Int}:Lin c (newW c d) (fun _=>0) (fun _=>none):=by
 have hth:=hC.threads
 have hit:=hC.items
 refine ⟨fun j hj=>⟨0,false,Za3,rfl,⟨fun x=>(by cases x),fun x=>(x rfl).elim⟩,fun x=>(by cases x),fun _=>rfl,fun x hx=>(by cases hx)⟩,fun i h0 h1=>?_,List.Pairwise.nil,fun m hm=>(by cases hm),fun m hm=>(by cases hm),fun m hm=>(by cases hm),fun h hh=>(by cases hh),fun j _ h=>(h rfl).elim,List.Pairwise.nil⟩
 show some c.init=some (vwB c (ZcM c).words i 0)
 have hb:=ZcW hC
 unfold vwB
 rw [if_pos ⟨⟨h0,h1⟩,Int.le_refl 0,by omega⟩]
 rw [(ZnE (t:=0) (i:=0) hC hci ⟨by omega,by omega⟩ ⟨by omega,by omega⟩).cells i h0 h1]
end
end Go.Proofs.Mill
/- Any script, run. -/
namespace Go.Proofs.Mill
theorem ZzW {e:SEntry} (h:Ty.Ok .sentry e):Num e.op.v:=by
 have:=h (.int .i64 e.op.v) (by simp [Ty.enc,Zld])
 cases this with
 | int h=>exact Zz7 h
theorem Zv7 {l:List SEntry} (h:(Zau .sentry).Ok l):∀ e∈l,Num e.op.v:=fun e he=>ZzW (h.2 e he)
def ZCu:Wld:=Wld.mk (Config.mk (0:Int) (0:Int) (0:Int) (0:Int) (0:Int) (0:Int) (0:Int) (0:Int) false (0:Int) (0:Int) (0:Int)) (Memo.mk ([]:List Int) ([]:List (List Entry))) ([]:List Thread) (0:Int) (0:Int) (Tape.mk ([]:List Int) (0:Int)) ([]:List Mark) ([]:List Event)
theorem Zz2 {c:Config} {l:List SEntry} (h:(allE c l).2=0):CfgOK c/\l.length<=65536/\∀ e∈l,Zcd c e=0:=by
 obtain ⟨e,he,hE⟩:=ZjJ c
 unfold allE at h
 rw [he,Option.getD_some] at h
 by_cases h0:e≠0
 . rw [if_pos h0] at h;exact (h0 h).elim
 rw [if_neg h0] at h
 have h0:=Classical.not_not.1 h0
 by_cases h1:l.length>65536
 . rw [if_pos h1] at h;exact absurd h (by decide)
 rw [if_neg h1] at h
 refine ⟨hE.1 h0,by omega,?_⟩
 cases hb:Zgs c 0 l with
 | none=>exact Zsx hb
 | some y =>
   rw [hb] at h
   have key:∀ (l:List SEntry) (i:Nat),Zgs c i l=some y->y.2≠0:=by
     intro l
     induction l with
     | nil=>intro i h;cases h
     | cons e l ih =>
       intro i h
       unfold Zgs at h
       by_cases g:Zcd c e=0
       . rw [if_pos g] at h;exact ih _ h
       . rw [if_neg g] at h;rw [<- Option.some.inj h];exact g
   exact (key l 0 hb h).elim
theorem ZCZ {c:Config} {l:List SEntry} {d:List Int} (hc:Num c.init/\Num c.lo/\Num c.hi) (hl:∀ e∈l,Num e.op.v) (hd:d.length<=4294967296) :
   (Ze6 c l d=some (ZCu,allE c l)/\(allE c l).2≠0) \/
   (Ze6 c l d=some (l.foldl ZcZ (newW c d),0,0)/\allE c l=(0,0)/\CfgOK c/\l.length<=65536/\(∀ e∈l,Zcd c e=0)/\∃ ro pa rt co,WInv c (l.foldl ZcZ (newW c d)) l.length ro pa rt co/\Lin c (l.foldl ZcZ (newW c d)) ro co):=by
 by_cases h:(allE c l).2=0
 . obtain ⟨hC,h1,h2⟩:=Zz2 h
   have hB:Inb c c.init:=fun hb=>hC.bounds hb
   have hW:=Zvg hC hc.1 hd
   have hE:=WInv.entries hC hc.2.1 hc.2.2 hW (l:=l) (by omega) (fun e he=>⟨h2 e he,hl e he⟩)
   obtain ⟨ro,pa,rt,co,w1,w2⟩:=Lin.entries hC hc.2.1 hc.2.2 hB hW (ZAo hC hc.1 (d:=d)) (l:=l) (by omega) (fun e he=>⟨h2 e he,hl e he⟩)
   rw [Nat.zero_add] at w1
   exact .inr ⟨Zz1 hC h1 h2 hd hE.1,Zw7 hC h1 h2,hC,h1,h2,ro,pa,rt,co,w1,w2⟩
 . refine .inl ⟨?_,h⟩
   unfold Ze6
   rw [show Zhw (c,l)=some (allE c l) from Zp6 c l]
   simp only []
   rw [Zgq h]
   rfl
end Go.Proofs.Mill
/- Worlds as the references have them, and alike (law17). -/
namespace Go.Proofs.Mill
structure WSm (w:Wld):Prop where
  boxes:w.m.boxes.length<=4294967296
  box:∀ b∈w.m.boxes,b.length<=4294967296
  t:w.t.length<=4294967296
  batch:∀ t∈w.t,t.batch.length<=4294967296
  kids:∀ t∈w.t,t.kids.length<=4294967296
  log:w.log.length<=4294967296
  hist:w.hist.length<=4294967296
structure WBig (w:Wld):Prop extends WSm w where
  words:w.m.words.length<=4294967296
  held:∀ t∈w.t,t.held.length<=4294967296
  tape:w.tape.l.length<=4294967296
end Go.Proofs.Mill
/- A world's step as world.Step takes it; how long its lists are. -/
namespace Go.Proofs.Mill
section
variable {c:Config} {w:Wld} {n:Nat} {ro pa rt:Int->Int} {co:Int->Option Int} {t:Int}
end
def ZEw (h:Thread):Prop:=h.batch.length<=1000000/\h.kids.length<=1000000/\h.held.length<=4294967295
theorem ZhD (g:Thread):(Zbv g).batch=g.batch/\(Zbv g).kids=g.kids/\(Zbv g).held=g.held:=by
 unfold Zbv
 split <;> exact ⟨rfl,rfl,rfl⟩
theorem Tr.done_lists {c:Config} {t:Int} {v v':Vw} {h:Thread} {log:List Mark} (T:Tr c t v h v' log true):(v'.th t).batch=h.batch/\(v'.th t).kids=h.kids/\(v'.th t).held=h.held:=by
 generalize hd:true=d at T
 cases T with
 | same p e=>rw [Zbh];exact ZhD _
 | cas p e=>rw [Zbh];exact ZhD _
 | res p=>rw [Zbh];exact ZhD _
 | tell2 p a w=>rw [Zbh];exact ZhD _
 | _=>cases hd
def Shorts (w:Wld):Prop:=∀ h∈w.t,ZEw h
theorem Zxd {α:Type} {l:List α} {i:Nat} {x y:α} (h:y∈l.set i x):y=x\/y∈l:=by
 rcases List.mem_or_eq_of_mem_set h with h | h
 . exact .inr h
 . exact .inl h
section
variable {c:Config} {w:Wld} {n:Nat} {ro pa rt:Int->Int} {co:Int->Option Int} {t:Int}
theorem Shorts.entry (S:Shorts w) (W:WInv c w n ro pa rt co) (hC:CfgOK c) (hlo:Num c.lo) (hhi:Num c.hi) (hn:n<=190000) {e:SEntry} (he:Zcd c e=0):Shorts (ZcZ w e):=by
 unfold ZcZ
 rcases Zpk he with ⟨k,ht,hi,ho⟩ | ⟨k,ht⟩ | k
 . rw [if_pos k]
   unfold invT
   split
   . exact S
   . intro h hh
     rcases Zxd hh with rfl | hh
     . exact ⟨by show ([_]:List Entry).length<=_;simp,by show ([]:List Kid).length<=_;simp,by show ([]:List Int).length<=_;simp⟩
     . exact S h hh
 . rw [if_neg (by omega),if_pos k]
   split
   . exact S
   . rename_i hp
     obtain ⟨_,ro',pa',rt',co1,W',_,T⟩:=W.pick hC hlo hhi (by omega) ht hp
     intro h hh
     have hth:((vw c (Zcj w e.t (ZaL (Zbc w e.t))).m (Zcj w e.t (ZaL (Zbc w e.t))).t).th e.t)=(ZaL (Zbc w e.t)).th:=by
       have h0:=ht.1
       have h1:=ht.2
       have:=W.lenT
       rw [Zgu ht]
       have e2:(Zcj w e.t (ZaL (Zbc w e.t))).t=w.t.set e.t.toNat (ZaL (Zbc w e.t)).th:=by unfold Zcj;split <;> rfl
       rw [e2,List.getD_eq_getElem?_getD,List.getElem?_set_self (by omega)]
       rfl
     have hh:h∈(Zcj w e.t (ZaL (Zbc w e.t))).t:=hh
     have e2:(Zcj w e.t (ZaL (Zbc w e.t))).t=w.t.set e.t.toNat (ZaL (Zbc w e.t)).th:=by unfold Zcj;split <;> rfl
     rw [e2] at hh
     rcases Zxd hh with rfl | hh
     . by_cases hz:(ZaL (Zbc w e.t)).th.phase=0
       . have hd:(ZaL (Zbc w e.t)).done=true:=by
           have:=(T.idle (by rw [Zgu ht]) hp).1
           rw [hth] at this
           exact this hz
         rw [hd] at T
         obtain ⟨a,b,d⟩:=T.done_lists
         rw [hth] at a b d
         have hm:w.t.getD e.t.toNat Zax∈w.t:=by
           have h0:=ht.1
           have h1:=ht.2
           have:=W.lenT
           rw [List.getD_eq_getElem?_getD,List.getElem?_eq_getElem (by omega),Option.getD_some]
           exact List.getElem_mem _
         obtain ⟨s1,s2,s3⟩:=S _ hm
         exact ⟨by rw [a];exact s1,by rw [b];exact s2,by rw [d];exact s3⟩
       . have hg:(Zcj w e.t (ZaL (Zbc w e.t))).t.getD e.t.toNat Zax=(ZaL (Zbc w e.t)).th:=by rw [<- Zgu ht];exact hth
         have hf:=W'.fit hC hlo hhi ht (by rw [hg];exact hz)
         have e3:(Zbc (Zcj w e.t (ZaL (Zbc w e.t))) e.t).th=(ZaL (Zbc w e.t)).th:=hg
         have f1:=hf.g.batch
         have f2:=hf.g.kids
         have f3:=hf.held
         rw [e3] at f1 f2 f3
         exact ⟨f1,f2,f3⟩
     . exact S h hh
 . rw [if_neg (by omega),if_neg (by omega),if_pos k]
   exact S
theorem Shorts.entries (hC:CfgOK c) (hlo:Num c.lo) (hhi:Num c.hi):∀ {l:List SEntry} {w:Wld} {n:Nat} {ro pa rt:Int->Int} {co:Int->Option Int},Shorts w->WInv c w n ro pa rt co->n+l.length<=190000->(∀ e∈l,Zcd c e=0/\Num e.op.v)->Shorts (l.foldl ZcZ w)
 | [],w,n,ro,pa,rt,co,S,_,_,_=>S
 | e :: l, w, n, ro, pa, rt, co, S, W, hn, he => by
   rw [List.length_cons] at hn
   obtain ⟨_,ro',pa',rt',co',b⟩:=W.entry hC hlo hhi (by omega) (he e (List.mem_cons_self ..)).1 (he e (List.mem_cons_self ..)).2
   show Shorts (l.foldl ZcZ (ZcZ w e))
   exact Shorts.entries hC hlo hhi (S.entry W hC hlo hhi (by omega) (he e (List.mem_cons_self ..)).1) b (by omega) (fun x hx=>he x (List.mem_cons_of_mem _ hx))
theorem Zwk (d:List Int):Shorts (newW c d):=by
 intro h hh
 have hh:h∈List.replicate c.threads.toNat newT:=hh
 rw [(List.mem_replicate.1 hh).2]
 exact ⟨by show ([]:List Entry).length<=_;simp,by show ([]:List Kid).length<=_;simp,by show ([]:List Int).length<=_;simp⟩
theorem WInv.big (W:WInv c w n ro pa rt co) (S:Shorts w) (hC:CfgOK c) (hn:n<=190000):WBig w:=by
 have hlT:=W.lenT
 have hlB:=W.lenB
 have hlW:=W.lenW
 have hT:=hC.threads
 have hs:=ZiD hC
 have hl:=W.log
 have hh:=W.hist
 refine ⟨⟨by omega,fun b hb=>?_,by omega,fun h hm=>by have:=(S h hm).1;omega,fun h hm=>by have:=(S h hm).2.1;omega,by omega,by omega⟩,by omega,fun h hm=>by have:=(S h hm).2.2;omega,W.tape.2⟩
 obtain ⟨i,hi',rfl⟩:=List.mem_iff_getElem.1 hb
 have hin:InT c (i:Int):=⟨by omega,by omega⟩
 have:=(W.inv.loc i hin).boxl
 rw [rd_X hin,Int.toNat_natCast,List.getD_eq_getElem?_getD,List.getElem?_eq_getElem hi'] at this
 have this:(w.m.boxes[i]).length<=16:=this
 omega
end
end Go.Proofs.Mill
/- What the laws of layer 17 have in common. -/
namespace Go.Proofs.Mill
def ZDR (c:Config):Prop:=Num c.init/\Num c.lo/\Num c.hi
theorem ZDw {c:Config} (o:(Zap celConfig).Ok c):ZDR c:=by
 have h1:∀ x:Int,AV.int .i64 x∈celConfig.enc c->Num x:=fun x hx=>Zz7 (o _ hx)
 refine ⟨h1 _ ?_,h1 _ ?_,h1 _ ?_⟩ <;> simp [celConfig,Za8,Zae,Zao,celBool]
theorem ZC4:Ze2 ()=some true:=rfl
theorem ZDS (l:List SEntry) (d:List Int):Zkx (l,d)=some (decide (400<l.length\/200<d.length)):=by
 show ZkP l d=_
 unfold ZkP
 rw [Zaz]
 by_cases h:400<l.length
 . rw [if_pos (by omega),decide_eq_true (.inl h)]
 . rw [if_neg (by omega)]
   congr 1
   exact decide_eq_decide.2 ⟨fun x=>.inr (by omega),fun x=>by omega⟩
def count (l:List Event) (k:Int):Int:=((l.filter fun e=>e.kind == k).length:Int)
theorem Zwq {α:Type} (p:α->Bool) (l:List α) (d:α) (i:Nat) (h:i<l.length):(l.take (i+1)).filter p=if p (l.getD i d)=true then (l.take i).filter p++[l.getD i d] else (l.take i).filter p:=by
 rw [<- Zn2 l d i h,List.filter_append]
 by_cases hp:p (l.getD i d)=true
 . rw [if_pos hp,List.filter_cons_of_pos hp,List.filter_nil]
 . rw [if_neg hp,List.filter_cons_of_neg hp,List.filter_nil,List.append_nil]
def ZcR:Nat->(Nat->Nat)->Nat
 | 0,_=>0
 | n+1,g=>ZcR n g+g n
theorem ZnF:∀ (n:Nat) (f g:Nat->Nat),ZcR n (fun j=>f j+g j)=ZcR n f+ZcR n g
 | 0,_,_=>rfl
 | n + 1, f, g => by
   show ZcR n _+(f n+g n)=ZcR n f+f n+(ZcR n g+g n)
   rw [ZnF n f g];omega
theorem Zla:∀ (n:Nat) {f g:Nat->Nat},(∀ j,j<n->f j=g j)->ZcR n f=ZcR n g
 | 0,_,_,_=>rfl
 | n + 1, f, g, h => by
   show ZcR n f+f n=ZcR n g+g n
   rw [Zla n (fun j hj=>h j (by omega)),h n (by omega)]
theorem Zt5:∀ (n:Nat) {f g:Nat->Nat},(∀ j,j<n->f j<=g j)->ZcR n f<=ZcR n g
 | 0,_,_,_=>Nat.le_refl _
 | n + 1, f, g, h => by
   have:=Zt5 n (f:=f) (g:=g) (fun j hj=>h j (by omega))
   have:=h n (by omega)
   show ZcR n f+f n<=ZcR n g+g n
   omega
theorem ZmE:∀ n,ZcR n (fun _=>0)=0
 | 0=>rfl
 | n+1=>by show ZcR n _+0=0;rw [ZmE n]
theorem Zsw {k:Nat}:∀ n,k<n->ZcR n (fun j=>if k=j then 1 else 0)=1
 | 0,h=>by omega
 | n + 1, h => by
   show ZcR n _+(if k=n then 1 else 0)=1
   by_cases e:k=n
   . rw [if_pos e,Zla n (g:=fun _=>0) (fun j hj=>if_neg (by omega)),ZmE]
   . rw [if_neg e,Zsw n (by omega)]
theorem ZgX {α:Type} {f:α->Int} {T:Nat}:∀ l:List α,(∀ x∈l,0<=f x/\f x<(T:Int))->l.length=ZcR T (fun j=>(l.filter fun x=>f x == (j:Int)).length)
 | [],_=>(ZmE T).symm
 | a :: l, h => by
   have ih:=ZgX l (fun x hx=>h x (List.mem_cons_of_mem _ hx))
   have ha:=h a (List.mem_cons_self ..)
   have e:ZcR T (fun j=>((a::l).filter fun x=>f x == (j:Int)).length)=ZcR T (fun j=>(if (f a).toNat=j then 1 else 0)+(l.filter fun x=>f x == (j:Int)).length):=by
     refine Zla T fun j hj=>?_
     rw [List.filter_cons]
     by_cases g:f a=(j:Int)
     . rw [if_pos (by simp [g]),if_pos (by omega),List.length_cons];omega
     . rw [if_neg (by simp [g]),if_neg (by omega)];omega
   rw [e,ZnF,Zsw T (by omega),<- ih,List.length_cons]
   omega
theorem ZqF {l:List Thread}:∀ n,n<=l.length->ZtN (l.take n)=ZcR n (fun j=>if (l.getD j Zax).phase≠0 then 1 else 0)
 | 0,_=>by rw [List.take_zero];rfl
 | n + 1, h => by
   unfold ZtN
   rw [Zwq (fun t:Thread=>t.phase != 0) l Zax n (by omega)]
   show _=ZcR n _+(if (l.getD n Zax).phase≠0 then 1 else 0)
   rw [<- ZqF n (by omega)]
   unfold ZtN
   by_cases g:(l.getD n Zax).phase=0
   . rw [if_neg (show ¬((l.getD n Zax).phase != 0)=true by rw [ZiL g];decide),if_neg (fun x=>x g)];rfl
   . rw [if_pos (show ((l.getD n Zax).phase != 0)=true from Zgq g),if_pos g,List.length_append,List.length_singleton]
theorem ZpK {lo hi j:Int} {own:List Mark}:∀ {l:List Event} {s s':Nat×Bool×Event},ansL lo hi j own s l=some s'->(∀ e∈l,e.kind=1\/e.kind=2\/e.kind=3) ->
   s'.1=s.1+(((l.filter fun e=>e.kind == 2)).filter fun e=>e.t == j).length /\
   s'.1+(if s'.2.1=true then 1 else 0)=s.1+(if s.2.1=true then 1 else 0)+(((l.filter fun e=>e.kind == 1)).filter fun e=>e.t == j).length
 | [],s,s',h,_=>by cases h;exact ⟨rfl,rfl⟩
 | e :: l, s, s', h, hk => by
   have h:(match ansE lo hi j own s e with | some s=>ansL lo hi j own s l | none=>none)=some s':=h
   have hke:=hk e (List.mem_cons_self ..)
   cases h1:ansE lo hi j own s e with
   | none=>rw [h1] at h;cases h
   | some v =>
     rw [h1] at h
     obtain ⟨i1,i2⟩:=ZpK h (fun x hx=>hk x (List.mem_cons_of_mem _ hx))
     rw [i1]
     rw [i1] at i2
     have key:∀ k:Int,(((e::l).filter fun e=>e.kind == k).filter fun e=>e.t == j).length=(if e.kind=k/\e.t=j then 1 else 0)+((l.filter fun e=>e.kind == k).filter fun e=>e.t == j).length:=by
       intro k
       rw [List.filter_cons]
       by_cases g:e.kind=k
       . rw [if_pos (by simp [g]),List.filter_cons]
         by_cases g2:e.t=j
         . rw [if_pos (by simp [g2]),if_pos ⟨g,g2⟩,List.length_cons];omega
         . rw [if_neg (by simp [g2]),if_neg (fun x=>g2 x.2)];omega
       . rw [if_neg (by simp [g]),if_neg (fun x=>g x.1)];omega
     rw [key 1,key 2]
     unfold ansE at h1
     by_cases g:e.t≠j\/e.kind=3
     . rw [if_pos g] at h1
       obtain rfl:=Option.some.inj h1
       rw [if_neg (show ¬(e.kind=2/\e.t=j) from fun x=>g.elim (fun y=>y x.2) (fun y=>by omega)),if_neg (show ¬(e.kind=1/\e.t=j) from fun x=>g.elim (fun y=>y x.2) (fun y=>by omega))]
       omega
     . rw [if_neg g] at h1
       have ht:e.t=j:=Classical.not_not.1 (fun x=>g (.inl x))
       have h3:e.kind≠3:=fun x=>g (.inr x)
       by_cases k:e.kind=1
       . rw [if_pos k] at h1
         split at h1
         . cases h1
         . rename_i so
           obtain rfl:=Option.some.inj h1
           rw [if_neg (show ¬(e.kind=2/\e.t=j) by omega),if_pos (show e.kind=1/\e.t=j from ⟨k,ht⟩),if_neg so]
           rw [if_pos (show ((s.1,true,e):Nat×Bool×Event).2.1=true from rfl)] at i2
           have e0:((s.1,true,e):Nat×Bool×Event).1=s.1:=rfl
           rw [e0] at i2 ⊢
           omega
       . rw [if_neg k] at h1
         split at h1
         . rename_i f
           obtain rfl:=Option.some.inj h1
           rw [if_pos (show e.kind=2/\e.t=j from ⟨by omega,ht⟩),if_neg (show ¬(e.kind=1/\e.t=j) from fun x=>k x.1),if_pos f.1]
           rw [if_neg (show ¬((s.1+1,false,s.2.2):Nat×Bool×Event).2.1=true from fun x=>by cases x)] at i2
           have e0:((s.1+1,false,s.2.2):Nat×Bool×Event).1=s.1+1:=rfl
           rw [e0] at i2 ⊢
           omega
         . cases h1
section
variable {c:Config} {w:Wld} {n:Nat} {ro pa rt:Int->Int} {co:Int->Option Int}
theorem Lin.counts (Li:Lin c w ro co) (W:WInv c w n ro pa rt co) (hC:CfgOK c):count w.hist 1=count w.hist 2+(ZtN w.t:Int)/\w.log.length<=(w.hist.filter fun e=>e.kind == 1).length:=by
 have hT:=hC.threads
 have hlT:=W.lenT
 have hk:∀ e∈w.hist,e.kind=1\/e.kind=2\/e.kind=3:=fun e he=>(Li.ehist e he).2.1
 have hin:∀ (k:Int),∀ e∈(w.hist.filter fun e=>e.kind == k),0<=e.t/\e.t<((c.threads.toNat:Nat):Int):=by
   intro k e he
   have:=(Li.ehist e (List.mem_filter.1 he).1).1
   unfold InT at this
   omega
 have s1:=ZgX (f:=fun e:Event=>e.t) (T:=c.threads.toNat) (w.hist.filter fun e=>e.kind == 1) (hin 1)
 have s2:=ZgX (f:=fun e:Event=>e.t) (T:=c.threads.toNat) (w.hist.filter fun e=>e.kind == 2) (hin 2)
 have s3:=ZgX (f:=fun m:Mark=>m.t) (T:=c.threads.toNat) w.log (fun m hm=>by
   have:=(Li.inlog m hm).1
   unfold InT at this
   omega)
 have s4:=ZqF (l:=w.t) w.t.length (Nat.le_refl _)
 rw [List.take_length] at s4
 have hTn:w.t.length=c.threads.toNat:=by omega
 rw [hTn] at s4
 have per:∀ j:Nat,j<c.threads.toNat->((w.hist.filter fun e=>e.kind == 1).filter fun x=>x.t == (j:Int)).length=((w.hist.filter fun e=>e.kind == 2).filter fun x=>x.t == (j:Int)).length+(if (w.t.getD j Zax).phase≠0 then 1 else 0)/\(ZbY j w.log).length<=((w.hist.filter fun e=>e.kind == 1).filter fun x=>x.t == (j:Int)).length:=by
   intro j hj
   have hjn:InT c (j:Int):=⟨by omega,by omega⟩
   obtain ⟨k,op,last,a,b,d,f,g⟩:=(Li.ans j hjn).ex
   obtain ⟨c1,c2⟩:=ZpK a hk
   have hph:(vw c w.m w.t).th j=w.t.getD j Zax:=by rw [Zgu hjn];rfl
   have hb:=W.inv.busy hjn
   rw [hph] at hb
   have c1:k=0+((w.hist.filter fun e=>e.kind == 2).filter fun x=>x.t == (j:Int)).length:=c1
   have c2:k+(if op=true then 1 else 0)=0+0+((w.hist.filter fun e=>e.kind == 1).filter fun x=>x.t == (j:Int)).length:=c2
   have hle:(ZbY j w.log).length<=k+(if op=true then 1 else 0):=by
     cases hco:co j with
     | none=>rw [f hco];omega
     | some x =>
       have hr:ro j≠0:=by
         intro h0
         have:=(W.inv.core.k0 j h0).1
         rw [hco] at this;cases this
       rw [(g x hco).1,if_pos (b.2 hr)]
       exact Nat.le_refl _
   refine ⟨?_,by omega⟩
   cases ho:op with
   | true =>
     have hr:=b.1 ho
     rw [ho,if_pos rfl] at c2
     rw [if_pos (fun x=>hr (hb.2 x))]
     omega
   | false =>
     have hr:¬ro j≠0:=fun x=>by have:=b.2 x;rw [ho] at this;cases this
     rw [ho,if_neg (by decide)] at c2
     rw [if_neg (fun x=>hr (fun y=>x (hb.1 y)))]
     omega
 constructor
 . have e:=Zla c.threads.toNat (fun j hj=>(per j hj).1)
   rw [ZnF] at e
   unfold count
   rw [s1,s2,s4,e]
   omega
 . rw [s3,s1]
   exact Zt5 _ fun j hj=>(per j hj).2
end
section
variable {c:Config} {w:Wld} {n:Nat} {ro pa rt:Int->Int} {co:Int->Option Int}
theorem Lin.few (Li:Lin c w ro co) (W:WInv c w n ro pa rt co) (hC:CfgOK c):w.log.length<=w.hist.length :=
 Nat.le_trans (Li.counts W hC).2 (List.length_filter_le _ _)
end
theorem ZC2 {α:Type} {l:List α} {j:Nat} (d:α) (h:j<l.length):l.drop j=l.getD j d::l.drop (j+1):=by
 rw [List.drop_eq_getElem_cons h,List.getD_eq_getElem?_getD,List.getElem?_eq_getElem h,Option.getD_some]
theorem ZDX {a b:Op} (h:a=b):(a.tag == b.tag && (a.v == b.v && true))=true:=by subst h;simp
theorem ZEQ {c:Config} {l:List SEntry} {d:List Int} (hc:Num c.init/\Num c.lo/\Num c.hi) (hl:∀ e∈l,Num e.op.v) (hd:d.length<=4294967296) (hn:l.length<=2000) :
   (ZiI (c,l,d)=some (ZCu,allE c l)/\(allE c l).2≠0) \/
   (∃ w,w=l.foldl ZcZ (newW c d)/\ZiI (c,l,d)=some (w,0,0)/\allE c l=(0,0)/\CfgOK c/\(∀ e∈l,Zcd c e=0)/\Shorts w/\WBig w/\∃ ro pa rt co,WInv c w l.length ro pa rt co/\Lin c w ro co):=by
 rcases ZCZ (c:=c) (l:=l) (d:=d) hc hl hd with ⟨r1,r2⟩ | ⟨r1,r2,hC,r3,r4,ro,pa,rt,co,W,Li⟩
 . exact .inl ⟨r1,r2⟩
 . have S:=Shorts.entries hC hc.2.1 hc.2.2 (l:=l) (Zwk (c:=c) d) (Zvg hC hc.1 hd) (by omega) (fun e he=>⟨r4 e he,hl e he⟩)
   exact .inr ⟨_,rfl,r1,r2,hC,r4,S,W.big S hC (by omega),ro,pa,rt,co,W,Li⟩
end Go.Proofs.Mill
