/- Parts of the proof: MillRLin2, MillRRunAll, MillRSame, MillRWld, MillRCommon, MillRNow. -/
import Derived.Test.YtecgogmolkjhjaaGreatMillAll36
import Derived.Test.YtecgogmolkjhjaaGreatMillAll4
import Derived.Test.YtecgogmolkjhjaaGreatMillAll34
import Derived.Test.YtecgogmolkjhjaaGreatMillFDa
set_option linter.all false
/- Whatever is done, the ops are as if done one after another: kept by every entry. -/
namespace Go.Proofs.Mill
theorem Zyk (h:Thread):(Zff h).phase=4\/(Zff h).phase=7\/(Zff h).phase=11\/(Zff h).phase=2:=by
 unfold Zff
 split
 . exact .inl rfl
 . have:=Ze6 { h with phase:=4,held:=h.held++[h.node],node:=h.node / 2,at_:=0 }
   have e:(Zkr { h with phase:=4,held:=h.held++[h.node],node:=h.node / 2 }).phase=(Ze5 { h with phase:=4,held:=h.held++[h.node],node:=h.node / 2,at_:=0 }).phase:=rfl
   rw [e]
   omega
theorem Zja (h:Thread):(Ze5 h).phase=7\/(Ze5 h).phase=11\/(Ze5 h).phase=2:=by
 have:=Ze6 h
 omega
section
variable {c:Config} {t:Int} {v v':Vw} {h:Thread} {log:List Mark} {done:Bool}
theorem Zbi {h':Thread}:(put v t h').th t=h':=Zal
theorem Zji (g:Thread):((Zby g).phase=0↔Zek g=true):=by
 have:=Zih g
 cases hd:Zek g with
 | true=>rw [hd] at this;simp at this ⊢;exact this.1
 | false=>rw [hd] at this;simp at this ⊢;omega
theorem Tr.idle (T:Tr c t v h v' log done) (hv:v.th t=h) (hp:h.phase≠0):((v'.th t).phase=0↔done=true):=by
 have no:∀ {p:Int},p≠0->(p=0↔false=true):=fun h=>⟨fun x=>(h x).elim,fun x=>by cases x⟩
 cases T with
 | nop s=>rw [hv];exact no hp
 | start p s=>rw [Zbi];cases s <;> exact no (by dsimp only;decide)
 | load p=>rw [Zbi];exact no (by dsimp only;decide)
 | casF p hw hw2=>rw [Zbi];exact no (by dsimp only;decide)
 | same p e=>rw [Zbi];exact Zji _
 | cas p e=>rw [Zbi];exact Zji _
 | on25 p o=>rw [Zbi];cases o <;> exact no (by dsimp only;decide)
 | look1 p k=>rw [Zbi];exact no (by dsimp only;decide)
 | look0 p=>rw [Zbi];exact no (by dsimp only;decide)
 | lookL p=>rw [Zbi];exact no (by have:=Zja { h with at_:=0 };show (Ze5 { h with at_:=0 }).phase≠0;omega)
 | take p n e=>rw [Zbi];exact no (by have:=Zyk h;omega)
 | takeF p=>rw [Zbi];exact no (by dsimp only;decide)
 | join p n e=>rw [Zbi];exact no (by have:=Zja { h with phase:=4,stop:=h.node,at_:=0 };show (Ze5 { h with phase:=4,stop:=h.node,at_:=0 }).phase≠0;omega)
 | joinF p=>rw [Zbi];exact no (by dsimp only;decide)
 | seeF p a e=>rw [Zbi];exact no (by dsimp only;decide)
 | seeD p a k=>rw [Zbi];exact no (by dsimp only;decide)
 | close p a e=>rw [Zbi];exact no (by have:=Zja { h with at_:=Zaf IntKind.i64 (h.at_+1) };show (Ze5 { h with at_:=Zaf IntKind.i64 (h.at_+1) }).phase≠0;omega)
 | closeF p=>rw [Zbi];exact no (by dsimp only;decide)
 | takeB p w=>rw [Zbi];exact no (by dsimp only;decide)
 | clear p a=>rw [Zbi];exact no (by have:=Zja { h with at_:=Zaf IntKind.i64 (h.at_+1) };show (Ze5 { h with at_:=Zaf IntKind.i64 (h.at_+1) }).phase≠0;omega)
 | box11 p=>rw [Zbi];exact no (by dsimp only;decide)
 | dep p n=>rw [Zbi];exact no (by dsimp only;decide)
 | told p e=>rw [Zbi];exact no (by dsimp only;decide)
 | res p=>rw [Zbi];exact Zji _
 | tell1 p a w=>rw [Zbi];exact no (by dsimp only;decide)
 | tell2 p a w=>rw [Zbi];exact Zji _
 | box17 p=>rw [Zbi];exact no (by dsimp only;decide)
 | open18 p=>rw [Zbi];exact no (by dsimp only;decide)
 | swap20 p s w=>rw [Zbi];exact no (by dsimp only;decide)
 | swap23 p s=>rw [Zbi];exact no (by dsimp only;decide)
 | shut20 p e=>rw [Zbi];exact no (by dsimp only;decide)
 | shutF p e=>rw [Zbi];exact no (by dsimp only;decide)
 | cap21 p w e=>rw [Zbi];exact no (by dsimp only;decide)
 | capF p=>rw [Zbi];exact no (by dsimp only;decide)
 | absorb p w=>rw [Zbi];exact no (by dsimp only;decide)
 | spinF p e=>rw [Zbi];exact no (by dsimp only;decide)
 | spinL p e=>rw [Zbi];exact no (by dsimp only;omega)
 | spinO p e=>rw [Zbi];exact no (by dsimp only;decide)
 | open24 p=>rw [Zbi];exact no (by dsimp only;decide)
 | leave p e hw hw2 o=>rw [Zbi];cases o <;> exact no (by dsimp only;decide)
 | leaveF p e=>rw [Zbi];exact no (by dsimp only;decide)
def ZCI (c:Config) (v v':Vw) (h:Thread) (log:List Mark):Prop :=
 (log=[]/\∀ i,v'.b i 0=v.b i 0)\/(log=Zf4 c h (v.b h.item 0)/\v'.b h.item 0=allT c.lo c.hi h.batch (v.b h.item 0)/\∀ i,i≠h.item->v'.b i 0=v.b i 0)
theorem Tr.cells (T:Tr c t v h v' log done) (hy:h.phase=3->h.y=allT c.lo c.hi h.batch h.x) (hn:0<=ZaO c) (hat:h.phase=8\/h.phase=10->ZbZ h≠0):ZCI c v v' h log:=by
 have sm:∀ {a b:List Mark},(∀ i,v'.b i 0=v.b i 0)->ZCI c v v' h []:=fun x=>.inl ⟨rfl,x⟩
 have wn:∀ {i m w:Int},m≠0->∀ k,setb v.b i m w k 0=v.b k 0:=fun hm k=>Zdx (fun x=>hm x.2.symm)
 cases T with
 | same p e=>exact .inr ⟨rfl,e.symm,fun i _=>rfl⟩
 | cas p e =>
   refine .inr ⟨by rw [e],?_,fun i hi=>Zdx (fun x=>hi x.1)⟩
   show setb v.b h.item 0 h.y h.item 0=_
   rw [ZfK,hy p,e]
 | take p n e=>exact .inl ⟨rfl,wn (by omega)⟩
 | join p n e=>exact .inl ⟨rfl,wn (by omega)⟩
 | close p a e=>exact .inl ⟨rfl,wn (hat (.inl p))⟩
 | clear p a=>exact .inl ⟨rfl,wn (hat (.inr p))⟩
 | dep p n=>exact .inl ⟨rfl,wn (by omega)⟩
 | swap20 p s w=>exact .inl ⟨rfl,wn (by omega)⟩
 | swap23 p s=>exact .inl ⟨rfl,wn (by omega)⟩
 | nop s=>exact .inl ⟨rfl,fun i=>rfl⟩
 | start p s=>exact .inl ⟨rfl,fun i=>rfl⟩
 | load p=>exact .inl ⟨rfl,fun i=>rfl⟩
 | casF p hw hw2=>exact .inl ⟨rfl,fun i=>rfl⟩
 | on25 p o=>exact .inl ⟨rfl,fun i=>rfl⟩
 | look1 p k=>exact .inl ⟨rfl,fun i=>rfl⟩
 | look0 p=>exact .inl ⟨rfl,fun i=>rfl⟩
 | lookL p=>exact .inl ⟨rfl,fun i=>rfl⟩
 | takeF p=>exact .inl ⟨rfl,fun i=>rfl⟩
 | joinF p=>exact .inl ⟨rfl,fun i=>rfl⟩
 | seeF p a e=>exact .inl ⟨rfl,fun i=>rfl⟩
 | seeD p a k=>exact .inl ⟨rfl,fun i=>rfl⟩
 | closeF p=>exact .inl ⟨rfl,fun i=>rfl⟩
 | takeB p w=>exact .inl ⟨rfl,fun i=>rfl⟩
 | box11 p=>exact .inl ⟨rfl,fun i=>rfl⟩
 | told p e=>exact .inl ⟨rfl,fun i=>rfl⟩
 | res p=>exact .inl ⟨rfl,fun i=>rfl⟩
 | tell1 p a w=>exact .inl ⟨rfl,fun i=>rfl⟩
 | tell2 p a w=>exact .inl ⟨rfl,fun i=>rfl⟩
 | box17 p=>exact .inl ⟨rfl,fun i=>rfl⟩
 | open18 p=>exact .inl ⟨rfl,fun i=>rfl⟩
 | shut20 p e=>exact .inl ⟨rfl,fun i=>rfl⟩
 | shutF p e=>exact .inl ⟨rfl,fun i=>rfl⟩
 | cap21 p w e=>exact .inl ⟨rfl,fun i=>rfl⟩
 | capF p=>exact .inl ⟨rfl,fun i=>rfl⟩
 | absorb p w=>exact .inl ⟨rfl,fun i=>rfl⟩
 | spinF p e=>exact .inl ⟨rfl,fun i=>rfl⟩
 | spinL p e=>exact .inl ⟨rfl,fun i=>rfl⟩
 | spinO p e=>exact .inl ⟨rfl,fun i=>rfl⟩
 | open24 p=>exact .inl ⟨rfl,fun i=>rfl⟩
 | leave p e hw hw2 o=>exact .inl ⟨rfl,fun i=>rfl⟩
 | leaveF p e=>exact .inl ⟨rfl,fun i=>rfl⟩
end
structure LinT (c:Config) (w:Wld) (th:Thread) (ro:Int) (co:Option Int) (j:Int):Prop where
  ex:∃ (k:Nat) (op:Bool) (last:Event),ansL c.lo c.hi j (Zcb j w.log) (0,false,Zbo) w.hist=some (k,op,last)/\(op=true↔ro≠0) /\
    (op=true->last.op=th.op/\last.item=th.item/\last.kind=1/\last.t=j/\last∈w.hist/\last.step<=w.steps) /\
    (co=none->(Zcb j w.log).length=k) /\
    (∀ x,co=some x->(Zcb j w.log).length=k+1/\((Zcb j w.log).getD k Za1).op=th.op/\((Zcb j w.log).getD k Za1).item=th.item/\((Zcb j w.log).getD k Za1).prior=x/\last.step<((Zcb j w.log).getD k Za1).step/\((Zcb j w.log).getD k Za1).step<=w.steps)
structure Lin (c:Config) (w:Wld) (ro:Int->Int) (co:Int->Option Int):Prop where
  ans:∀ j,InT c j->LinT c w ((vw c w.m w.t).th j) (ro j) (co j) j
  cells:∀ i,0<=i->i<c.items->Zet c i c.init w.log=some ((vw c w.m w.t).b i 0)
  srt:w.log.Pairwise (fun a b=>a.step<=b.step)
  steps:∀ m∈w.log,1<=m.step/\m.step<=w.steps
  asked:∀ m∈w.log,∃ h∈w.hist,h.kind=1/\h.t=m.t/\h.item=m.item/\h.op=m.op/\h.step<m.step
  inlog:∀ m∈w.log,InT c m.t/\(0<=m.item/\m.item<c.items)/\ZgQ m.op c.bounded=true/\Num m.op.v
  ehist:∀ h∈w.hist,InT c h.t/\(h.kind=1\/h.kind=2\/h.kind=3)/\h.step<=w.steps/\0<=h.step/\Num h.op.v/\Num h.prior
  may:∀ j,InT c j->ro j≠0->ZgQ ((vw c w.m w.t).th j).op c.bounded=true
  hsrt:w.hist.Pairwise (fun a b=>a.step<=b.step)
section
variable {c:Config} {w:Wld} {n:Nat} {ro pa rt ro' pa' rt':Int->Int} {co co':Int->Option Int} {t:Int}
theorem LinT.skip {th:Thread} {r:Int} {cc:Option Int} {j:Int} (L:LinT c w th r cc j) {w':Wld} {h:Event} (hh:h.t≠j\/h.kind=3) (e1:w'.log=w.log) (e2:w'.hist=w.hist++[h]) (e3:w.steps<=w'.steps):LinT c w' th r cc j:=by
 obtain ⟨k,op,last,a,b,d,f,g⟩:=L.ex
 refine ⟨k,op,last,?_,b,fun x=>?_,by rw [e1];exact f,fun x hx=>?_⟩
 . rw [e1,e2,ZgH a,Zm7]
   unfold ansE
   rw [if_pos hh]
 . obtain ⟨d1,d2,d3,d4,d5,d6⟩:=d x
   exact ⟨d1,d2,d3,d4,by rw [e2];exact List.mem_append_left _ d5,by omega⟩
 . rw [e1]
   obtain ⟨g1,g2,g3,g4,g5,g6⟩:=g x hx
   exact ⟨g1,g2,g3,g4,g5,by omega⟩
theorem LinT.same {th:Thread} {r:Int} {cc:Option Int} {j:Int} (L:LinT c w th r cc j) {w':Wld} (e1:Zcb j w'.log=Zcb j w.log) (e2:w'.hist=w.hist) (e3:w.steps<=w'.steps):LinT c w' th r cc j:=by
 obtain ⟨k,op,last,a,b,d,f,g⟩:=L.ex
 refine ⟨k,op,last,by rw [e1,e2];exact a,b,fun x=>?_,by rw [e1];exact f,fun x hx=>?_⟩
 . obtain ⟨d1,d2,d3,d4,d5,d6⟩:=d x
   exact ⟨d1,d2,d3,d4,by rw [e2];exact d5,by omega⟩
 . rw [e1]
   obtain ⟨g1,g2,g3,g4,g5,g6⟩:=g x hx
   exact ⟨g1,g2,g3,g4,g5,by omega⟩
theorem Lin.hist_more (Li:Lin c w ro co) {h:Event} (hs:w.steps<=h.step):(w.hist++[h]).Pairwise (fun a b=>a.step<=b.step):=by
 rw [List.pairwise_append]
 refine ⟨Li.hsrt,List.pairwise_singleton _ _,fun a ha b hb=>?_⟩
 rw [List.mem_singleton] at hb
 subst hb
 have:=(Li.ehist a ha).2.2.1
 omega
theorem Lin.invoke (Li:Lin c w ro co) (W:WInv c w n ro pa rt co) (hC:CfgOK c) {e:SEntry} (ht:InT c e.t) (ho:ZgQ e.op c.bounded=true) (hop:Num e.op.v):(¬(w.t.getD e.t.toNat Zay).phase=0->Lin c (invT w e) ro co)/\((w.t.getD e.t.toNat Zay).phase=0->Lin c (invT w e) (seta ro e.t 1) co):=by
 have hth:(vw c w.m w.t).th e.t=w.t.getD e.t.toNat Zay:=Zho ht
 have hst:=W.steps
 constructor
 . intro hp
   have e0:invT w e={ w with hist:=w.hist++[⟨3,e.t,e.item,e.op,0,false,w.steps⟩] }:=by unfold invT;rw [if_pos hp]
   rw [e0]
   refine ⟨fun j hj=>(Li.ans j hj).skip (.inr rfl) rfl rfl (Int.le_refl _),Li.cells,Li.srt,Li.steps,fun m hm=>?_,Li.inlog,fun h hh=>?_,Li.may,Li.hist_more (Int.le_refl _)⟩
   . obtain ⟨h,h1,h2⟩:=Li.asked m hm
     exact ⟨h,List.mem_append_left _ h1,h2⟩
   . rcases List.mem_append.1 hh with hh | hh
     . exact Li.ehist h hh
     . rw [List.mem_singleton] at hh;subst hh
       exact ⟨ht,.inr (.inr rfl),Int.le_refl _,hst.1,hop,ZbU (show (-1000000:Int)<=0/\(0:Int)<=1000000 by decide)⟩
 . intro hp
   have h0:ro e.t=0:=(W.inv.busy ht).2 (by rw [hth];exact hp)
   have e0:invT w e={ w with t:=w.t.set e.t.toNat (ZfJ w.c e.t e.item e.op w.now (w.t.getD e.t.toNat Zay).width),hist:=w.hist++[⟨1,e.t,e.item,e.op,0,false,w.steps⟩] }:=by unfold invT;rw [if_neg (fun x=>x hp)]
   rw [e0]
   obtain ⟨b,hb⟩:∃ b,b=ZfJ w.c e.t e.item e.op w.now (w.t.getD e.t.toNat Zay).width:=⟨_,rfl⟩
   rw [<- hb]
   have hvt:(vw c w.m (w.t.set e.t.toNat b)).th=seta (vw c w.m w.t).th e.t b:=by
     rw [Zqr W.lenT ht];rfl
   refine ⟨fun j hj=>?_,Li.cells,Li.srt,Li.steps,fun m hm=>?_,Li.inlog,fun h hh=>?_,fun j hj hr=>?_,Li.hist_more (Int.le_refl _)⟩
   . show LinT c _ ((vw c w.m (w.t.set e.t.toNat b)).th j) (seta ro e.t 1 j) (co j) j
     rw [hvt]
     by_cases ej:j=e.t
     . rw [ej,Zal,Zal]
       obtain ⟨k,op,last,a,b1,d,f,g⟩:=(Li.ans e.t ht).ex
       have hop:op=false:=by
         cases op with
         | false=>rfl
         | true=>exact (b1.1 rfl h0).elim
       have hct:co e.t=none:=(W.inv.core.k0 e.t h0).1
       refine ⟨k,true,⟨1,e.t,e.item,e.op,0,false,w.steps⟩,?_,⟨fun _=>by decide,fun _=>rfl⟩,fun _=>⟨by rw [hb];rfl,by rw [hb];rfl,rfl,rfl,List.mem_append_right _ (List.mem_singleton.2 rfl),Int.le_refl _⟩,f,fun x hx=>by rw [hct] at hx;cases hx⟩
       rw [ZgH a,Zm7,hop]
       unfold ansE
       rw [if_neg (by show ¬(e.t≠e.t\/(1:Int)=3);simp),if_pos rfl,if_neg (show ¬(false=true) by decide)]
     . rw [Zah ej,Zah ej]
       exact (Li.ans j hj).skip (.inl (Ne.symm ej)) rfl rfl (Int.le_refl _)
   . obtain ⟨h,h1,h2⟩:=Li.asked m hm
     exact ⟨h,List.mem_append_left _ h1,h2⟩
   . rcases List.mem_append.1 hh with hh | hh
     . exact Li.ehist h hh
     . rw [List.mem_singleton] at hh;subst hh
       exact ⟨ht,.inl rfl,Int.le_refl _,hst.1,hop,ZbU (show (-1000000:Int)<=0/\(0:Int)<=1000000 by decide)⟩
   . show ZgQ ((vw c w.m (w.t.set e.t.toNat b)).th j).op c.bounded=true
     rw [hvt]
     by_cases ej:j=e.t
     . rw [ej,Zal,hb];exact ho
     . rw [Zah ej] at hr ⊢;exact Li.may j hj hr
theorem Core.inBatch {ba:Int->List Entry} {ks:Int->List Kid} {opf:Int->Op} {it:Int->Int} (C:Core c ba ks opf it ro pa rt co) {r:Int} (hr:ro r=1) (j:Int):(ro j≠0/\co j=none/\rt j=r)↔idxOf (ba r) j<(ba r).length:=by
 obtain ⟨cr,rr⟩:=C.k1 r (by omega)
 constructor
 . rintro ⟨a,b,d⟩
   obtain ⟨_,_,o,hs⟩:=C.k5 j a b
   rw [d] at hs
   obtain ⟨r1,hr1⟩:=C.k3 j a
   have hm:(⟨j,opf j⟩:Entry)∈ba r:=hs.mem (by rw [hr1];exact List.mem_cons_self ..)
   exact ZEO hm
 . intro h
   unfold idxOf at h
   have h':((ba r).map (·.t)).findIdx (fun t=>t == j)<((ba r).map (·.t)).length:=by rwa [List.length_map]
   have h2:=List.findIdx_getElem (w:=h')
   have h3:j∈(ba r).map (·.t):=by
     rw [<- eq_of_beq h2];exact List.getElem_mem h'
   obtain ⟨e,he,rfl⟩:=List.mem_map.1 h3
   obtain ⟨a,b,d,f,g⟩:=C.k4 r (by omega) cr e he
   exact ⟨a,f,by rw [g,rr]⟩
theorem Lin.pick (Li:Lin c w ro co) (W:WInv c w n ro pa rt co) (hC:CfgOK c) (hlo:Num c.lo) (hhi:Num c.hi) (hn:n<=200000) (hci:Inb c c.init) (ht:InT c t) (hp:(w.t.getD t.toNat Zay).phase≠0) :
   ∃ ro' pa' rt' co',WInv c (Zb0 w t (ZaH (Za2 w t))) (n+1) ro' pa' rt' co'/\Lin c (Zb0 w t (ZaH (Za2 w t))) ro' co':=by
 obtain ⟨_,ro',pa',rt',co1,W',info,T⟩:=W.pick hC hlo hhi hn ht hp
 refine ⟨ro',pa',rt',_,W',?_⟩
 have hth:(vw c w.m w.t).th t=w.t.getD t.toNat Zay:=Zho ht
 have hkp:=ZjX (Za2 w t)
 have hL:=W.inv.loc t ht
 have hro:ro t≠0:=by
   intro h0
   have:=(W.inv.busy ht).1 h0
   rw [hth] at this
   exact hp this
 have hop1:(ZaH (Za2 w t)).th.op=(w.t.getD t.toNat Zay).op:=Zxi hkp
 have hit1:(ZaH (Za2 w t)).th.item=(w.t.getD t.toNat Zay).item:=ZAi hkp
 obtain ⟨u,hu⟩:∃ u,u=ZaH (Za2 w t):=⟨_,rfl⟩
 rw [<- hu] at W' info T hop1 hit1 ⊢
 have hst:=W.steps
 have hs:Zei w=w.steps+1:=by unfold Zei;rw [Zaz (by omega) (by omega)]
 have hvth:(vw c (Zb0 w t u).m (Zb0 w t u).t).th=seta (vw c w.m w.t).th t u.th:=by
   show vwT c (w.t.set t.toNat u.th)=_
   rw [ZAz W.lenT ht];rfl
 have hidle:=T.idle hth hp
 rw [hvth,Zal] at hidle
 have hcells:=T.cells (fun p=>by rw [<- hth] at p ⊢;exact hL.y p) (ZbM c).1 (fun p=>by
   rw [<- hth] at p ⊢
   have ha:=hL.ari.2.2.2.2.2.2.1 (by omega)
   have:=(W.inv.nodes t ht).1 _ (Zg2 (by omega) ha)
   omega)
 have hbz:∀ j,InT c j->j≠t->(ro' j=0↔ro j=0):=by
   intro j hj hjt
   rw [W'.inv.busy hj,W.inv.busy hj,hvth,Zah hjt]
 have hbt:ro' t=0↔u.done=true:=by
   rw [W'.inv.busy ht,hvth,Zal];exact hidle
 obtain ⟨co',hco'⟩:∃ co',co'=if u.done=true then seta co1 t none else co1:=⟨_,rfl⟩
 rw [<- hco'] at W' ⊢
 have hcoj:∀ j,j≠t->co' j=co1 j:=by
   intro j hj;rw [hco'];split
   . rw [Zah hj]
   . rfl
 obtain ⟨ms,hms⟩:∃ ms,ms=u.log.map (ZcJ (Zei w)):=⟨_,rfl⟩
 have hlog:(Zb0 w t u).log=w.log++ms:=by rw [hms];rfl
 have hsteps:(Zb0 w t u).steps=w.steps+1:=hs
 have own:∀ j,InT c j->∃ (k:Nat) (op:Bool) (last:Event),ansL c.lo c.hi j (Zcb j (w.log++ms)) (0,false,Zbo) w.hist=some (k,op,last)/\(op=true↔ro j≠0) /\
     (op=true->last.op=((vw c w.m w.t).th j).op/\last.item=((vw c w.m w.t).th j).item/\last.kind=1/\last.t=j/\last∈w.hist/\last.step<=w.steps) /\
     (co1 j=none->(Zcb j (w.log++ms)).length=k) /\
     (∀ x,co1 j=some x->(Zcb j (w.log++ms)).length=k+1/\((Zcb j (w.log++ms)).getD k Za1).op=((vw c w.m w.t).th j).op/\((Zcb j (w.log++ms)).getD k Za1).item=((vw c w.m w.t).th j).item/\((Zcb j (w.log++ms)).getD k Za1).prior=x/\last.step<((Zcb j (w.log++ms)).getD k Za1).step/\((Zcb j (w.log++ms)).getD k Za1).step<=w.steps+1):=by
   intro j hj
   obtain ⟨k,op,last,a,b,d,f,g⟩:=(Li.ans j hj).ex
   rcases info.1 with ⟨e1,e2⟩ | ⟨hr1,e1,e2⟩
   . have:ms=[]:=by rw [hms,e1];rfl
     rw [this,List.append_nil,e2]
     exact ⟨k,op,last,a,b,d,f,fun x hx=>by obtain ⟨g1,g2,g3,g4,g5,g6⟩:=g x hx;exact ⟨g1,g2,g3,g4,g5,by omega⟩⟩
   . have hmo:Zcb j ms=if idxOf ((vw c w.m w.t).th t).batch j<((vw c w.m w.t).th t).batch.length then [⟨j,((vw c w.m w.t).th t).item,(((vw c w.m w.t).th t).batch.getD (idxOf ((vw c w.m w.t).th t).batch j) ⟨0,⟨0,0⟩⟩).op,allT c.lo c.hi (((vw c w.m w.t).th t).batch.take (idxOf ((vw c w.m w.t).th t).batch j)) ((vw c w.m w.t).b ((vw c w.m w.t).th t).item 0),Zei w⟩] else []:=by
       rw [hms,e1]
       exact Zs0 _ _ j _ _ (W.inv.core.nod t hro)
     have hib:=W.inv.core.inBatch hr1 j
     rw [Zyh,hmo]
     by_cases hlt:idxOf ((vw c w.m w.t).th t).batch j<((vw c w.m w.t).th t).batch.length
     . obtain ⟨q1,q2,q3⟩:=hib.2 hlt
       have hf:=f q2
       have hc1:co1 j=some (allT c.lo c.hi (((vw c w.m w.t).th t).batch.take (idxOf ((vw c w.m w.t).th t).batch j)) ((vw c w.m w.t).b ((vw c w.m w.t).th t).item 0)):=by
         rw [e2];exact if_pos ⟨q1,q2,q3⟩
       have hd:=d (b.2 q1)
       have hget:(((vw c w.m w.t).th t).batch.getD (idxOf ((vw c w.m w.t).th t).batch j) ⟨0,⟨0,0⟩⟩)∈((vw c w.m w.t).th t).batch:=by
         rw [List.getD_eq_getElem?_getD,List.getElem?_eq_getElem hlt];exact List.getElem_mem hlt
       have hgt:(((vw c w.m w.t).th t).batch.getD (idxOf ((vw c w.m w.t).th t).batch j) ⟨0,⟨0,0⟩⟩).t=j:=by
         rw [List.getD_eq_getElem?_getD,List.getElem?_eq_getElem hlt]
         have h':(((vw c w.m w.t).th t).batch.map (·.t)).findIdx (fun t=>t == j)<(((vw c w.m w.t).th t).batch.map (·.t)).length:=by rw [List.length_map];exact hlt
         have h2:=List.findIdx_getElem (w:=h')
         have:=eq_of_beq h2
         rw [List.getElem_map] at this
         exact this
       have hk4:=W.inv.core.k4 t hro (W.inv.core.k1 t (by omega)).1 _ hget
       rw [hgt] at hk4
       rw [if_pos hlt]
       refine ⟨k,op,last,ZsS a,b,d,fun x=>(by rw [hc1] at x;cases x),fun x hx=>?_⟩
       rw [hc1] at hx
       have hx:=Option.some.inj hx
       have hg:(Zcb j w.log++[(⟨j,((vw c w.m w.t).th t).item,(((vw c w.m w.t).th t).batch.getD (idxOf ((vw c w.m w.t).th t).batch j) ⟨0,⟨0,0⟩⟩).op,allT c.lo c.hi (((vw c w.m w.t).th t).batch.take (idxOf ((vw c w.m w.t).th t).batch j)) ((vw c w.m w.t).b ((vw c w.m w.t).th t).item 0),Zei w⟩:Mark)]).getD k Za1=⟨j,((vw c w.m w.t).th t).item,(((vw c w.m w.t).th t).batch.getD (idxOf ((vw c w.m w.t).th t).batch j) ⟨0,⟨0,0⟩⟩).op,allT c.lo c.hi (((vw c w.m w.t).th t).batch.take (idxOf ((vw c w.m w.t).th t).batch j)) ((vw c w.m w.t).b ((vw c w.m w.t).th t).item 0),Zei w⟩:=by
         rw [List.getD_eq_getElem?_getD,List.getElem?_append_right (by omega),hf,Nat.sub_self];rfl
       rw [hg]
       refine ⟨by rw [List.length_append,hf];rfl,hk4.2.1.symm,hk4.2.2.1.symm,hx,?_,?_⟩
       . show last.step<Zei w
         rw [hs];omega
       . show Zei w<=w.steps+1
         rw [hs];exact Int.le_refl _
     . rw [if_neg hlt,List.append_nil]
       have hc1:co1 j=co j:=by rw [e2];exact if_neg (fun x=>hlt (hib.1 x))
       rw [hc1]
       exact ⟨k,op,last,a,b,d,f,fun x hx=>by obtain ⟨g1,g2,g3,g4,g5,g6⟩:=g x hx;exact ⟨g1,g2,g3,g4,g5,by omega⟩⟩
 have hmst:∀ m∈ms,m.step=w.steps+1:=by
   intro m hm
   rw [hms] at hm
   obtain ⟨m0,_,rfl⟩:=List.mem_map.1 hm
   exact hs
 have hment:∀ m∈ms,∃ e∈((vw c w.m w.t).th t).batch,ro t=1/\m.t=e.t/\m.op=e.op/\m.item=((vw c w.m w.t).th t).item:=by
   intro m hm
   rw [hms] at hm
   obtain ⟨m0,hm0,rfl⟩:=List.mem_map.1 hm
   rcases info.1 with ⟨e1,_⟩ | ⟨hr1,e1,_⟩
   . rw [e1] at hm0;cases hm0
   . rw [e1] at hm0
     unfold Zf4 at hm0
     obtain ⟨i,hi,hg⟩:=List.mem_iff_getElem.1 hm0
     rw [List.getElem_zipWith] at hg
     rw [List.length_zipWith] at hi
     exact ⟨((vw c w.m w.t).th t).batch[i]'(by omega),List.getElem_mem _,hr1,by rw [<- hg];rfl,by rw [<- hg];rfl,by rw [<- hg];rfl⟩
 have hk4m:∀ m∈ms,InT c m.t/\ro m.t≠0/\((vw c w.m w.t).th m.t).op=m.op/\((vw c w.m w.t).th m.t).item=m.item:=by
   intro m hm
   obtain ⟨e,he,hr1,a,b,d⟩:=hment m hm
   have hk:=W.inv.core.k4 t hro (W.inv.core.k1 t (by omega)).1 e he
   rw [a,b,d]
   exact ⟨W.inv.core.ent t hro e he,hk.1,hk.2.1,hk.2.2.1⟩
 have hopt:((vw c w.m w.t).th t).op=u.th.op:=by rw [hop1,hth]
 have hitt:((vw c w.m w.t).th t).item=u.th.item:=by rw [hit1,hth]
 refine ⟨fun j hj=>?_,fun i h0 h1=>?_,?_,fun m hm=>?_,fun m hm=>?_,fun m hm=>?_,fun h hh=>?_,fun j hj hr=>?_,?_⟩
 . rw [hvth]
   obtain ⟨k,op,last,a,b,d,f,g⟩:=own j hj
   by_cases ej:j=t
   . rw [ej] at a b d f g hj ⊢
     rw [Zal]
     have hopen:op=true:=b.2 hro
     obtain ⟨d1,d2,d3,d4,d5,d6⟩:=d hopen
     cases hd:u.done with
     | false =>
       have hh:(Zb0 w t u).hist=w.hist:=by show (if u.done=true then _ else _)=_;rw [hd];rfl
       have hct:co' t=co1 t:=by rw [hco',hd];rfl
       refine ⟨k,op,last,by rw [hlog,hh];exact a,⟨fun _ x=>?_,fun _=>hopen⟩,fun _=>⟨by rw [<- hopt];exact d1,by rw [<- hitt];exact d2,d3,d4,by rw [hh];exact d5,by rw [hsteps];omega⟩,fun x=>?_,fun x hx=>?_⟩
       . have:=hbt.1 x;rw [hd] at this;cases this
       . rw [hlog];exact f (by rw [<- hct];exact x)
       . rw [hlog,hsteps]
         have:=g x (by rw [<- hct];exact hx)
         rw [hopt,hitt] at this
         exact this
     | true =>
       have hh:(Zb0 w t u).hist=w.hist++[Zkq w t u]:=by show (if u.done=true then _ else _)=_;rw [hd];rfl
       have hc1:co1 t=some u.th.x:=by
         have:=info.2 hd
         rw [hvth,Zal] at this
         exact this
       have hct:co' t=none:=by rw [hco',hd,if_pos rfl,Zal]
       obtain ⟨g1,g2,g3,g4,g5,g6⟩:=g _ hc1
       have hfit:Fits c.lo c.hi (Zcb t (w.log++ms)) k last (Zkq w t u):=by
         refine ⟨by omega,by rw [g2,hopt];rfl,by rw [g3,hitt];rfl,g4,?_,by rw [d1,hopt];rfl,by rw [d2,hitt];rfl,g5,?_⟩
         . show (App u.th.op u.th.x w.c.lo w.c.hi).2=(App u.th.op u.th.x c.lo c.hi).2
           rw [W.cE]
         . show _<=Zei w
           rw [hs];exact g6
       refine ⟨k+1,false,last,?_,⟨fun x=>(by cases x),fun x=>(x (hbt.2 hd)).elim⟩,fun x=>(by cases x),fun _=>?_,fun x hx=>by rw [hct] at hx;cases hx⟩
       . rw [hlog,hh,ZgH a,Zm7]
         unfold ansE
         rw [if_neg (by show ¬(t≠t\/(2:Int)=3);simp),if_neg (by show ¬(2:Int)=1;decide),if_pos ⟨hopen,hfit⟩]
       . rw [hlog];exact g1
   . rw [Zah ej,hcoj j ej]
     have hskip:ansL c.lo c.hi j (Zcb j (Zb0 w t u).log) (0,false,Zbo) (Zb0 w t u).hist=some (k,op,last):=by
       rw [hlog]
       show ansL c.lo c.hi j (Zcb j (w.log++ms)) (0,false,Zbo) (if u.done=true then w.hist++[Zkq w t u] else w.hist)=_
       split
       . rw [ZgH a,Zm7]
         unfold ansE
         rw [if_pos (.inl (by show t≠j;exact Ne.symm ej))]
       . exact a
     have hb:=hbz j hj ej
     refine ⟨k,op,last,hskip,⟨fun x=>fun y=>b.1 x (hb.1 y),fun x=>b.2 (fun y=>x (hb.2 y))⟩,fun x=>?_,fun x=>by rw [hlog];exact f x,fun x hx=>by rw [hlog,hsteps];exact g x hx⟩
     obtain ⟨d1,d2,d3,d4,d5,d6⟩:=d x
     refine ⟨d1,d2,d3,d4,?_,by rw [hsteps];omega⟩
     show last∈(if u.done=true then w.hist++[Zkq w t u] else w.hist)
     split
     . exact List.mem_append_left _ d5
     . exact d5
 . rw [hlog]
   have old:=Li.cells i h0 h1
   rw [Zlb old]
   have hCin:Inb c ((vw c w.m w.t).b i 0):=Zqa old hci
   have hnx:=W.inv.num.1 i 0
   rcases hcells with ⟨e1,e2⟩ | ⟨e1,e2,e3⟩
   . rw [hms,e1]
     show some _=some _
     rw [e2 i]
   . by_cases ei:i=(w.t.getD t.toNat Zay).item
     . have hr1:ro t=1:=by
         rcases info.1 with ⟨x,_⟩ | ⟨x,_,_⟩
         . exfalso
           rw [x] at e1
           have hb:=W.inv.core.k3 t hro
           obtain ⟨r,hb⟩:=hb
           have hb:((vw c w.m w.t).th t).batch=⟨t,((vw c w.m w.t).th t).op⟩::r:=hb
           rw [hth] at hb
           unfold Zf4 at e1
           rw [hb] at e1
           cases e1
         . exact x
       rw [hms,e1,ei,e2]
       unfold Zf4
       rw [<- ei]
       have:=ZqU hlo i (Zei w) (w.t.getD t.toNat Zay).batch ((vw c w.m w.t).b i 0) hnx hCin (fun e he=>by
         rw [<- hth] at he
         have hk:=W.inv.core.k4 t hro (W.inv.core.k1 t (by omega)).1 e he
         refine ⟨hL.ops (by rw [hth];exact hp) e he,?_⟩
         have:=Li.may e.t (W.inv.core.ent t hro e he) hk.1
         have h2:((vw c w.m w.t).th e.t).op=e.op:=hk.2.1
         rwa [h2] at this)
       exact this
     . rw [hms,e1,e3 i ei]
       exact ZpJ (Ne.symm ei) _ (fun _ _=>rfl) _ _ _
 . rw [hlog,List.pairwise_append]
   refine ⟨Li.srt,?_,fun a ha b hb=>?_⟩
   . rw [List.pairwise_iff_getElem]
     intro i j hi hj _
     rw [hmst _ (List.getElem_mem hi),hmst _ (List.getElem_mem hj)]
     exact Int.le_refl _
   . rw [hmst b hb]
     have:=(Li.steps a ha).2
     omega
 . rw [hsteps]
   rw [hlog] at hm
   rcases List.mem_append.1 hm with hm | hm
   . have:=Li.steps m hm;omega
   . rw [hmst m hm];omega
 . rw [hlog] at hm
   have hsub:∀ h∈w.hist,h∈(Zb0 w t u).hist:=by
     intro h hh
     show h∈(if u.done=true then w.hist++[Zkq w t u] else w.hist)
     split
     . exact List.mem_append_left _ hh
     . exact hh
   rcases List.mem_append.1 hm with hm | hm
   . obtain ⟨h,h1,h2⟩:=Li.asked m hm
     exact ⟨h,hsub h h1,h2⟩
   . obtain ⟨q1,q2,q3,q4⟩:=hk4m m hm
     obtain ⟨k,op,last,a,b,d,_,_⟩:=(Li.ans m.t q1).ex
     obtain ⟨d1,d2,d3,d4,d5,d6⟩:=d (b.2 q2)
     exact ⟨last,hsub _ d5,d3,d4,by rw [d2,q4],by rw [d1,q3],by rw [hmst m hm];omega⟩
 . rw [hlog] at hm
   rcases List.mem_append.1 hm with hm | hm
   . exact Li.inlog m hm
   . obtain ⟨q1,q2,q3,q4⟩:=hk4m m hm
     have hLm:=W.inv.loc m.t q1
     have hpm:((vw c w.m w.t).th m.t).phase≠0:=fun x=>q2 ((W.inv.busy q1).2 x)
     refine ⟨q1,by rw [<- q4];exact hLm.item hpm,by rw [<- q3];exact Li.may m.t q1 q2,?_⟩
     obtain ⟨e,he,_,_,b,_⟩:=hment m hm
     rw [b]
     exact hL.ops (by rw [hth];exact hp) e he
 . have hh:h∈(if u.done=true then w.hist++[Zkq w t u] else w.hist):=hh
   rw [hsteps]
   have old:h∈w.hist->_:=fun hh=>Li.ehist h hh
   split at hh
   . rcases List.mem_append.1 hh with hh | hh
     . have:=old hh;exact ⟨this.1,this.2.1,by omega,this.2.2.2⟩
     . rw [List.mem_singleton] at hh;subst hh
       refine ⟨ht,.inr (.inl rfl),by show Zei w<=_;rw [hs];exact Int.le_refl _,by show 0<=Zei w;rw [hs];omega,?_,?_⟩
       . show Num u.th.op.v
         obtain ⟨r,hb⟩:=W.inv.core.k3 t hro
         have hb:((vw c w.m w.t).th t).batch=⟨t,((vw c w.m w.t).th t).op⟩::r:=hb
         have:=hL.ops (by rw [hth];exact hp) ⟨t,((vw c w.m w.t).th t).op⟩ (by rw [hb];exact List.mem_cons_self ..)
         rw [<- hopt];exact this
       . show Num u.th.x
         have:=(W'.inv.loc t ht).nx
         rw [hvth,Zal] at this
         exact this
   . have:=old hh;exact ⟨this.1,this.2.1,by omega,this.2.2.2⟩
 . rw [hvth]
   by_cases ej:j=t
   . rw [ej,Zal,hop1,<- hth];exact Li.may t ht hro
   . rw [Zah ej];exact Li.may j hj (fun x=>hr ((hbz j hj ej).2 x))
 . show (if u.done=true then w.hist++[Zkq w t u] else w.hist).Pairwise _
   split
   . exact Li.hist_more (by show w.steps<=Zei w;rw [hs];omega)
   . exact Li.hsrt
theorem Lin.entry (Li:Lin c w ro co) (W:WInv c w n ro pa rt co) (hC:CfgOK c) (hlo:Num c.lo) (hhi:Num c.hi) (hn:n<=200000) (hci:Inb c c.init) {e:SEntry} (he:ZbL c e=0) (hop:Num e.op.v) :
   ∃ ro' pa' rt' co',WInv c (Zbs w e) (n+1) ro' pa' rt' co'/\Lin c (Zbs w e) ro' co':=by
 have hE:=(W.entry hC hlo hhi hn he hop).2
 rcases ZpS he with ⟨k,ht,hi,ho⟩ | ⟨k,ht⟩ | k
 . unfold Zbs
   rw [if_pos k]
   have hI:=Li.invoke W hC ht ho hop
   by_cases hp:(w.t.getD e.t.toNat Zay).phase=0
   . have h2:=hI.2 hp
     have hth:(vw c w.m w.t).th e.t=w.t.getD e.t.toNat Zay:=Zho ht
     have hl:=W.log;have hh:=W.hist;have hst:=W.steps;have hnw:=W.now
     refine ⟨seta ro e.t 1,pa,seta rt e.t e.t,co,?_,h2⟩
     have hv:=W.inv.invoke hC ht (by rw [hth];exact hp) (i:=e.item) (op:=e.op) (now:=w.now) (wd:=(w.t.getD e.t.toNat Zay).width) hi hop (by rw [hth])
     unfold invT
     rw [if_neg (fun x=>x hp)]
     refine ⟨W.cE,?_,W.lenW,W.lenB,W.tape,?_,?_,?_,?_,?_⟩
     . show ((w.t.set _ _).length:Int)=_
       rw [List.length_set];exact W.lenT
     . show w.log.length<=_;omega
     . show (w.hist++[_]).length<=_
       rw [List.length_append,List.length_singleton];omega
     . show 0<=w.steps/\w.steps<=((n+1:Nat):Int);omega
     . show 0<=w.now/\w.now<=((n+1:Nat):Int);omega
     . show Inv c (vw c w.m (w.t.set _ _)) _ _ _ _
       rw [Zqr W.lenT ht,W.cE]
       exact hv
   . have h2:=hI.1 hp
     have hl:=W.log;have hh:=W.hist;have hst:=W.steps;have hnw:=W.now
     refine ⟨ro,pa,rt,co,?_,h2⟩
     unfold invT
     rw [if_pos hp]
     refine ⟨W.cE,W.lenT,W.lenW,W.lenB,W.tape,?_,?_,?_,?_,W.inv⟩
     . show w.log.length<=_;omega
     . show (w.hist++[_]).length<=_
       rw [List.length_append,List.length_singleton];omega
     . show 0<=w.steps/\w.steps<=((n+1:Nat):Int);omega
     . show 0<=w.now/\w.now<=((n+1:Nat):Int);omega
 . unfold Zbs
   rw [if_neg (show ¬e.kind=1 by omega),if_pos k]
   have hl:=W.log;have hh:=W.hist;have hst:=W.steps;have hnw:=W.now
   by_cases hp:(w.t.getD e.t.toNat Zay).phase=0
   . rw [if_pos hp]
     exact ⟨ro,pa,rt,co,⟨W.cE,W.lenT,W.lenW,W.lenB,W.tape,by omega,by omega,by omega,by omega,W.inv⟩,Li⟩
   . rw [if_neg hp]
     exact Li.pick W hC hlo hhi hn hci ht hp
 . have hl:=W.log;have hh:=W.hist;have hst:=W.steps;have hnw:=W.now
   unfold Zbs
   rw [if_neg (show ¬e.kind=1 by omega),if_neg (show ¬e.kind=2 by omega),if_pos k]
   refine ⟨ro,pa,rt,co,⟨W.cE,W.lenT,W.lenW,W.lenB,W.tape,?_,?_,?_,?_,W.inv⟩,⟨fun j hj=>(Li.ans j hj).same rfl rfl (Int.le_refl _),Li.cells,Li.srt,Li.steps,Li.asked,Li.inlog,Li.ehist,Li.may,Li.hsrt⟩⟩
   . show w.log.length<=_;omega
   . show w.hist.length<=_;omega
   . show 0<=w.steps/\w.steps<=((n+1:Nat):Int);omega
   . show 0<=Zaf .i64 (w.now+1)/\Zaf .i64 (w.now+1)<=((n+1:Nat):Int)
     rw [Zaz (by omega) (by omega)];omega
theorem Lin.entries (hC:CfgOK c) (hlo:Num c.lo) (hhi:Num c.hi) (hci:Inb c c.init):∀ {l:List SEntry} {w:Wld} {n:Nat} {ro pa rt:Int->Int} {co:Int->Option Int},WInv c w n ro pa rt co->Lin c w ro co->n+l.length<=200000->(∀ e∈l,ZbL c e=0/\Num e.op.v) ->
   ∃ ro' pa' rt' co',WInv c (l.foldl Zbs w) (n+l.length) ro' pa' rt' co'/\Lin c (l.foldl Zbs w) ro' co'
 | [],w,n,ro,pa,rt,co,W,Li,_,_=>⟨ro,pa,rt,co,W,Li⟩
 | e :: l, w, n, ro, pa, rt, co, W, Li, hn, he => by
   rw [List.length_cons] at hn
   obtain ⟨ro',pa',rt',co',W',Li'⟩:=Li.entry W hC hlo hhi (by omega) hci (he e (List.mem_cons_self ..)).1 (he e (List.mem_cons_self ..)).2
   have:=Lin.entries hC hlo hhi hci W' Li' (by omega) (fun x hx=>he x (List.mem_cons_of_mem _ hx))
   rw [List.length_cons,show n+(l.length+1)=n+1+l.length by omega]
   exact this
theorem ZAY (hC:CfgOK c) (hci:Num c.init) {d:List Int}:Lin c (newW c d) (fun _=>0) (fun _=>none):=by
 have hth:=hC.threads
 have hit:=hC.items
 refine ⟨fun j hj=>⟨0,false,Zbo,rfl,⟨fun x=>(by cases x),fun x=>(x rfl).elim⟩,fun x=>(by cases x),fun _=>rfl,fun x hx=>(by cases hx)⟩,fun i h0 h1=>?_,List.Pairwise.nil,fun m hm=>(by cases hm),fun m hm=>(by cases hm),fun m hm=>(by cases hm),fun h hh=>(by cases hh),fun j _ h=>(h rfl).elim,List.Pairwise.nil⟩
 show some c.init=some (vwB c (ZcR c).words i 0)
 have hb:=Zc2 hC
 unfold vwB
 rw [if_pos ⟨⟨h0,h1⟩,Int.le_refl 0,by omega⟩]
 rw [(Zod (t:=0) (i:=0) hC hci ⟨by omega,by omega⟩ ⟨by omega,by omega⟩).cells i h0 h1]
end
end Go.Proofs.Mill
/- Any script, run. -/
namespace Go.Proofs.Mill
theorem ZzC {e:SEntry} (h:Ty.Ok .sentry e):Num e.op.v:=by
 have:=h (.int .i64 e.op.v) (by simp [Ty.enc,ZlG])
 cases this with
 | int h=>exact Zzy h
theorem ZwR {l:List SEntry} (h:(Zau .sentry).Ok l):∀ e∈l,Num e.op.v:=fun e he=>ZzC (h.2 e he)
def ZB9:Wld:=Wld.mk (Config.mk (0:Int) (0:Int) (0:Int) (0:Int) (0:Int) (0:Int) (0:Int) (0:Int) false (0:Int) (0:Int) (0:Int)) (Memo.mk ([]:List Int) ([]:List (List Entry))) ([]:List Thread) (0:Int) (0:Int) (Tape.mk ([]:List Int) (0:Int)) ([]:List Mark) ([]:List Event)
theorem Zz2 {c:Config} {l:List SEntry} (h:(allE c l).2=0):CfgOK c/\l.length<=65536/\∀ e∈l,ZbL c e=0:=by
 obtain ⟨e,he,hE⟩:=Zks c
 unfold allE at h
 rw [he,Option.getD_some] at h
 by_cases h0:e≠0
 . rw [if_pos h0] at h;exact (h0 h).elim
 rw [if_neg h0] at h
 have h0:=Classical.not_not.1 h0
 by_cases h1:l.length>65536
 . rw [if_pos h1] at h;exact absurd h (by decide)
 rw [if_neg h1] at h
 refine ⟨hE.1 h0,by omega,?_⟩
 cases hb:Zc5 c 0 l with
 | none=>exact ZsY hb
 | some y =>
   rw [hb] at h
   have key:∀ (l:List SEntry) (i:Nat),Zc5 c i l=some y->y.2≠0:=by
     intro l
     induction l with
     | nil=>intro i h;cases h
     | cons e l ih =>
       intro i h
       unfold Zc5 at h
       by_cases g:ZbL c e=0
       . rw [if_pos g] at h;exact ih _ h
       . rw [if_neg g] at h;rw [<- Option.some.inj h];exact g
   exact (key l 0 hb h).elim
theorem ZDM {c:Config} {l:List SEntry} {d:List Int} (hc:Num c.init/\Num c.lo/\Num c.hi) (hl:∀ e∈l,Num e.op.v) (hd:d.length<=4294967296) :
   (Zfu c l d=some (ZB9,allE c l)/\(allE c l).2≠0) \/
   (Zfu c l d=some (l.foldl Zbs (newW c d),0,0)/\allE c l=(0,0)/\CfgOK c/\l.length<=65536/\(∀ e∈l,ZbL c e=0)/\∃ ro pa rt co,WInv c (l.foldl Zbs (newW c d)) l.length ro pa rt co/\Lin c (l.foldl Zbs (newW c d)) ro co):=by
 by_cases h:(allE c l).2=0
 . obtain ⟨hC,h1,h2⟩:=Zz2 h
   have hB:Inb c c.init:=fun hb=>hC.bounds hb
   have hW:=Zve hC hc.1 hd
   have hE:=WInv.entries hC hc.2.1 hc.2.2 hW (l:=l) (by omega) (fun e he=>⟨h2 e he,hl e he⟩)
   obtain ⟨ro,pa,rt,co,w1,w2⟩:=Lin.entries hC hc.2.1 hc.2.2 hB hW (ZAY hC hc.1 (d:=d)) (l:=l) (by omega) (fun e he=>⟨h2 e he,hl e he⟩)
   rw [Nat.zero_add] at w1
   exact .inr ⟨ZAd hC h1 h2 hd hE.1,ZxE hC h1 h2,hC,h1,h2,ro,pa,rt,co,w1,w2⟩
 . refine .inl ⟨?_,h⟩
   unfold Zfu
   rw [show ZhO (c,l)=some (allE c l) from ZqM c l]
   simp only []
   rw [ZgS h]
   rfl
end Go.Proofs.Mill
/- Worlds as the references have them, and alike (law17). -/
namespace Go.Proofs.Mill
theorem ZnP (l:List Entry) (h:l.length<=4294967296):ZfE l=some l:=by
 have hw:Zkg (l,[],0)=some l:=by
   refine Zb5 (fun i=>(l,l.take i,(i:Int))) l.length (fun i hi=>?_) ?_
   . have h1:(i:Int)<(l.length:Int):=by omega
     have h2:fewB (i+1)=true:=Zbx (by omega)
     have h3:min i l.length=i:=by omega
     simp only [ZdQ,Zgv,Zaw,if_pos h1,if_pos (Int.natCast_nonneg i),List.length_take,List.length_cons,List.length_nil,h3,h2,cond_true,Int.toNat_natCast]
     rw [Ze4 l _ i hi,Zaz (by omega) (by omega)]
     rfl
   . simp [ZdQ,Zgv]
 simp only [ZfE,hw]
theorem Zuq (m:Memo) (h:m.boxes.length<=4294967296) (hb:∀ b∈m.boxes,b.length<=4294967296):Ziu m=some m:=by
 have hw:Zls (m,⟨[],[]⟩,{ m with boxes:=[] },0)=some (⟨[],[]⟩,m):=by
   refine Zb5 (fun i=>(m,(⟨[],[]⟩:Memo),{ m with boxes:=m.boxes.take i },(i:Int))) m.boxes.length (fun i hi=>?_) ?_
   . have h1:(i:Int)<(m.boxes.length:Int):=by omega
     have h2:fewB (i+1)=true:=Zbx (by omega)
     have h3:min i m.boxes.length=i:=by omega
     have h4:ZfE (m.boxes.getD i ([]:List Entry))=some (m.boxes.getD i ([]:List Entry)):=by
       refine ZnP _ (hb _ ?_)
       rw [List.getD_eq_getElem?_getD,List.getElem?_eq_getElem hi,Option.getD_some]
       exact List.getElem_mem hi
     simp only [Zd9,Zg5,ZeC,Zaw,if_pos h1,if_pos (Int.natCast_nonneg i),List.length_take,List.length_cons,List.length_nil,h3,h2,cond_true,Int.toNat_natCast,h4]
     rw [Ze4 m.boxes _ i hi,Zaz (by omega) (by omega)]
     rfl
   . simp [Zd9,Zg5]
 simp only [Ziu]
 rw [show (Memo.mk ([]:List Int) ([]:List (List Entry)))=⟨[],[]⟩ from rfl]
 simp only [hw]
theorem ZwP (t:Thread) (h:t.kids.length<=4294967296) (hb:t.batch.length<=4294967296):ZjW t=some t:=by
 have hw:∀ z:Thread,ZlV (t,z,{ t with kids:=[] },0)=some (z,t):=by
   intro z
   refine Zb5 (fun i=>(t,z,{ t with kids:=t.kids.take i },(i:Int))) t.kids.length (fun i hi=>?_) ?_
   . have h1:(i:Int)<(t.kids.length:Int):=by omega
     have h2:fewB (i+1)=true:=Zbx (by omega)
     have h3:min i t.kids.length=i:=by omega
     simp only [Zex,ZhE,Zaw,if_pos h1,if_pos (Int.natCast_nonneg i),List.length_take,List.length_cons,List.length_nil,h3,h2,cond_true,Int.toNat_natCast]
     rw [Ze4 t.kids _ i hi,Zaz (by omega) (by omega)]
     rfl
   . simp [Zex,ZhE]
 simp only [ZjW,ZeC,ZnP _ hb]
 have:=hw (Thread.mk (0:Int) (0:Int) (Op.mk (0:Int) (0:Int)) ([]:List Entry) ([]:List Kid) ([]:List Int) (0:Int) (0:Int) (0:Int) (0:Int) (0:Int) (0:Int) (0:Int) (0:Int) (0:Int) (0:Int))
 split
 . rename_i y e
   have e2:=this.symm.trans e
   obtain rfl:=Option.some.inj e2
   rfl
 . rename_i e
   have e2:=this.symm.trans e
   cases e2
theorem Zwh (l:List Mark) (h:l.length<=4294967296):ZjN l=some l:=by
 have hw:ZlQ (l,[],0)=some l:=by
   refine Zb5 (fun i=>(l,l.take i,(i:Int))) l.length (fun i hi=>?_) ?_
   . have h1:(i:Int)<(l.length:Int):=by omega
     have h2:fewB (i+1)=true:=Zbx (by omega)
     have h3:min i l.length=i:=by omega
     simp only [Zev,Zh7,Zaw,if_pos h1,if_pos (Int.natCast_nonneg i),List.length_take,List.length_cons,List.length_nil,h3,h2,cond_true,Int.toNat_natCast]
     rw [Ze4 l _ i hi,Zaz (by omega) (by omega)]
     rfl
   . simp [Zev,Zh7]
 simp only [ZjN,hw]
theorem ZsL (l:List Int) (h:l.length<=4294967296):Zlu l l=some true:=by
 have hw:ZmD (l,l,0)=some (.inl ()):=by
   refine Zb5 (fun i=>(l,l,(i:Int))) l.length (fun i hi=>?_) ?_
   . have h1:(i:Int)<(l.length:Int):=by omega
     simp only [ZeW,ZiX,Zaw,if_pos h1,if_pos (Int.natCast_nonneg i),bne_self_eq_false,cond_false]
     rw [Zaz (by omega) (by omega)]
     rfl
   . simp [ZeW,ZiX]
 simp only [Zlu,bne_self_eq_false,cond_false,hw]
theorem Ztc (l:List Entry) (h:l.length<=4294967296):ZhC l l=some true:=by
 have hw:ZmK (l,l,0)=some (.inl ()):=by
   refine Zb5 (fun i=>(l,l,(i:Int))) l.length (fun i hi=>?_) ?_
   . have h1:(i:Int)<(l.length:Int):=by omega
     simp only [Ze0,ZiB,Zaw,if_pos h1,if_pos (Int.natCast_nonneg i),beq_self_eq_true,Bool.and_self,Bool.not_true,cond_false]
     rw [Zaz (by omega) (by omega)]
     rfl
   . simp [Ze0,ZiB]
 simp only [ZhC,bne_self_eq_false,cond_false,hw]
theorem ZBc (m:Memo) (h:m.words.length<=4294967296) (h2:m.boxes.length<=4294967296) (hb:∀ b∈m.boxes,b.length<=4294967296):ZkN m m=some true:=by
 have hw:Zmu (m,m,0)=some (.inl ()):=by
   refine Zb5 (fun i=>(m,m,(i:Int))) m.boxes.length (fun i hi=>?_) ?_
   . have h1:(i:Int)<(m.boxes.length:Int):=by omega
     have h4:ZhC (m.boxes.getD i ([]:List Entry)) (m.boxes.getD i ([]:List Entry))=some true:=by
       refine Ztc _ (hb _ ?_)
       rw [List.getD_eq_getElem?_getD,List.getElem?_eq_getElem hi,Option.getD_some]
       exact List.getElem_mem hi
     simp only [ZeU,ZiQ,Zf0,Zaw,if_pos h1,if_pos (Int.natCast_nonneg i),Int.toNat_natCast,h4,Bool.not_true,cond_false]
     rw [Zaz (by omega) (by omega)]
     rfl
   . simp [ZeU,ZiQ]
 simp only [ZkN,Zf7,ZsL _ h,bne_self_eq_false,Bool.not_true,cond_false,hw]
theorem ZwZ (t:Thread) (h:t.kids.length<=4294967296) (hb:t.batch.length<=4294967296) (hh:t.held.length<=4294967296):Zlr t t=some true:=by
 have hw:ZmN (t,t,0)=some (.inl (t,t)):=by
   refine Zb5 (fun i=>(t,t,(i:Int))) t.kids.length (fun i hi=>?_) ?_
   . have h1:(i:Int)<(t.kids.length:Int):=by omega
     simp only [Ze1,ZiA,Zaw,if_pos h1,if_pos (Int.natCast_nonneg i),beq_self_eq_true,Bool.and_self,Bool.not_true,cond_false]
     rw [Zaz (by omega) (by omega)]
     rfl
   . simp [Ze1,ZiA]
 simp only [Zlr,Zf0,Ztc _ hb,Zf7,ZsL _ hh,bne_self_eq_false,Bool.not_true,cond_false,hw,beq_self_eq_true,Bool.and_self,cond_true]
theorem ZzU (t:Tape) (h:t.l.length<=4294967296):Zk1 t t=some true:=by
 have hw:Zmz (t,t,0)=some (.inl ()):=by
   refine Zb5 (fun i=>(t,t,(i:Int))) t.l.length (fun i hi=>?_) ?_
   . have h1:(i:Int)<(t.l.length:Int):=by omega
     simp only [ZeX,Zi6,Zaw,if_pos h1,if_pos (Int.natCast_nonneg i),bne_self_eq_false,cond_false]
     rw [Zaz (by omega) (by omega)]
     rfl
   . simp [ZeX,Zi6]
 simp only [Zk1,bne_self_eq_false,cond_false,hw]
theorem ZyQ (l:List Mark) (h:l.length<=4294967296):ZjU l l=some true:=by
 have hw:ZlT (l,l,0)=some (.inl ()):=by
   refine Zb5 (fun i=>(l,l,(i:Int))) l.length (fun i hi=>?_) ?_
   . have h1:(i:Int)<(l.length:Int):=by omega
     simp only [Zeu,Zh3,Zaw,if_pos h1,if_pos (Int.natCast_nonneg i),beq_self_eq_true,Bool.and_self,Bool.not_true,cond_false]
     rw [Zaz (by omega) (by omega)]
     rfl
   . simp [Zeu,Zh3]
 simp only [ZjU,bne_self_eq_false,cond_false,hw]
structure WSm (w:Wld):Prop where
  boxes:w.m.boxes.length<=4294967296
  box:∀ b∈w.m.boxes,b.length<=4294967296
  t:w.t.length<=4294967296
  batch:∀ t∈w.t,t.batch.length<=4294967296
  kids:∀ t∈w.t,t.kids.length<=4294967296
  log:w.log.length<=4294967296
  hist:w.hist.length<=4294967296
theorem Zvk {w:Wld} (h:WSm w):Zi2 w=some w:=by
 have h3:∀ z:Wld,ZkJ (w,z,{ w with t:=[],hist:=[] },0)=some (w,z,{ w with hist:=[] }):=by
   intro z
   refine Zb5 (fun i=>(w,z,{ w with t:=w.t.take i,hist:=[] },(i:Int))) w.t.length (fun i hi=>?_) ?_
   . have h1:(i:Int)<(w.t.length:Int):=by omega
     have ht:=h.t
     have h2:fewB (i+1)=true:=Zbx (by omega)
     have h3:min i w.t.length=i:=by omega
     have hm:w.t.getD i Zay∈w.t:=by
       rw [List.getD_eq_getElem?_getD,List.getElem?_eq_getElem hi,Option.getD_some]
       exact List.getElem_mem hi
     simp only [Zeb,Zg0,Zj5,Zaw,if_pos h1,if_pos (Int.natCast_nonneg i),List.length_take,List.length_cons,List.length_nil,h3,Int.toNat_natCast,ZwP _ (h.kids _ hm) (h.batch _ hm),h2,cond_true]
     rw [Ze4 w.t _ i hi,Zaz (by omega) (by omega)]
     rfl
   . simp [Zeb,Zg0]
 have h7:∀ z:Wld,ZkT (w,z,{ w with hist:=[] },0)=some (z,w):=by
   intro z
   refine Zb5 (fun i=>(w,z,{ w with hist:=w.hist.take i },(i:Int))) w.hist.length (fun i hi=>?_) ?_
   . have h1:(i:Int)<(w.hist.length:Int):=by omega
     have ht:=h.hist
     have h2:fewB (i+1)=true:=Zbx (by omega)
     have h3:min i w.hist.length=i:=by omega
     simp only [Zd6,Zhi,Zaw,if_pos h1,if_pos (Int.natCast_nonneg i),List.length_take,List.length_cons,List.length_nil,h3,Int.toNat_natCast,h2,cond_true]
     rw [Ze4 w.hist _ i hi,Zaz (by omega) (by omega)]
     rfl
   . simp [Zd6,Zhi]
 simp only [Zi2,Ziv,Zuq _ h.boxes h.box,ZjQ,Zwh _ h.log]
 have:=h3 (Wld.mk (Config.mk (0:Int) (0:Int) (0:Int) (0:Int) (0:Int) (0:Int) (0:Int) (0:Int) false (0:Int) (0:Int) (0:Int)) (Memo.mk ([]:List Int) ([]:List (List Entry))) ([]:List Thread) (0:Int) (0:Int) (Tape.mk ([]:List Int) (0:Int)) ([]:List Mark) ([]:List Event))
 obtain ⟨c,m,t,now,steps,tape,log,hist⟩:=w
 simp only at this h7 ⊢
 rw [this]
 simp only
 rw [h7]
theorem ZwB (l:List Event) (h:l.length<=4294967296):Zi9 l l=some true:=by
 have hw:Zlm (l,l,0)=some (.inl ()):=by
   refine Zb5 (fun i=>(l,l,(i:Int))) l.length (fun i hi=>?_) ?_
   . have h1:(i:Int)<(l.length:Int):=by omega
     simp only [Zd2,Zhf,Zaw,if_pos h1,if_pos (Int.natCast_nonneg i),beq_self_eq_true,Bool.and_self,Bool.not_true,cond_false]
     rw [Zaz (by omega) (by omega)]
     rfl
   . simp [Zd2,Zhf]
 simp only [Zi9,bne_self_eq_false,cond_false,hw]
structure WBig (w:Wld):Prop extends WSm w where
  words:w.m.words.length<=4294967296
  held:∀ t∈w.t,t.held.length<=4294967296
  tape:w.tape.l.length<=4294967296
theorem ZyH {w:Wld} (h:WBig w):Zlf w w=some true:=by
 have ht:=h.t
 have hw:Zmo (w,w,0)=some (.inl ()):=by
   refine Zb5 (fun i=>(w,w,(i:Int))) w.t.length (fun i hi=>?_) ?_
   . have h1:(i:Int)<(w.t.length:Int):=by omega
     have hm:w.t.getD i Zay∈w.t:=by
       rw [List.getD_eq_getElem?_getD,List.getElem?_eq_getElem hi,Option.getD_some]
       exact List.getElem_mem hi
     simp only [ZeR,ZiM,Zik,Zaw,if_pos h1,if_pos (Int.natCast_nonneg i),Int.toNat_natCast,ZwZ _ (h.kids _ hm) (h.batch _ hm) (h.held _ hm),Bool.not_true,cond_false]
     rw [Zaz (by omega) (by omega)]
     rfl
   . simp [ZeR,ZiM]
 unfold Zlf
 simp only [beq_self_eq_true,Bool.and_self,Bool.not_true,cond_false,bne_self_eq_false,ZhP,ZBc _ h.words h.boxes h.box,Zh5,ZzU _ h.tape,ZgV,ZyQ _ h.log,ZiC,ZwB _ h.hist,hw]
end Go.Proofs.Mill
/- A world's step as world.Step takes it; how long its lists are. -/
namespace Go.Proofs.Mill
section
variable {c:Config} {w:Wld} {n:Nat} {ro pa rt:Int->Int} {co:Int->Option Int} {t:Int}
end
def ZFn (h:Thread):Prop:=h.batch.length<=1000000/\h.kids.length<=1000000/\h.held.length<=4294967295
theorem Zii (g:Thread):(Zby g).batch=g.batch/\(Zby g).kids=g.kids/\(Zby g).held=g.held:=by
 unfold Zby
 split <;> exact ⟨rfl,rfl,rfl⟩
theorem Tr.done_lists {c:Config} {t:Int} {v v':Vw} {h:Thread} {log:List Mark} (T:Tr c t v h v' log true):(v'.th t).batch=h.batch/\(v'.th t).kids=h.kids/\(v'.th t).held=h.held:=by
 generalize hd:true=d at T
 cases T with
 | same p e=>rw [Zbi];exact Zii _
 | cas p e=>rw [Zbi];exact Zii _
 | res p=>rw [Zbi];exact Zii _
 | tell2 p a w=>rw [Zbi];exact Zii _
 | _=>cases hd
def Shorts (w:Wld):Prop:=∀ h∈w.t,ZFn h
theorem Zo2 {α:Type} {l:List α} {i:Nat} {x y:α} (h:y∈l.set i x):y=x\/y∈l:=by
 rcases List.mem_or_eq_of_mem_set h with h | h
 . exact .inr h
 . exact .inl h
section
variable {c:Config} {w:Wld} {n:Nat} {ro pa rt:Int->Int} {co:Int->Option Int} {t:Int}
theorem Shorts.entry (S:Shorts w) (W:WInv c w n ro pa rt co) (hC:CfgOK c) (hlo:Num c.lo) (hhi:Num c.hi) (hn:n<=190000) {e:SEntry} (he:ZbL c e=0):Shorts (Zbs w e):=by
 unfold Zbs
 rcases ZpS he with ⟨k,ht,hi,ho⟩ | ⟨k,ht⟩ | k
 . rw [if_pos k]
   unfold invT
   split
   . exact S
   . intro h hh
     rcases Zo2 hh with rfl | hh
     . exact ⟨by show ([_]:List Entry).length<=_;simp,by show ([]:List Kid).length<=_;simp,by show ([]:List Int).length<=_;simp⟩
     . exact S h hh
 . rw [if_neg (by omega),if_pos k]
   split
   . exact S
   . rename_i hp
     obtain ⟨_,ro',pa',rt',co1,W',_,T⟩:=W.pick hC hlo hhi (by omega) ht hp
     intro h hh
     have hth:((vw c (Zb0 w e.t (ZaH (Za2 w e.t))).m (Zb0 w e.t (ZaH (Za2 w e.t))).t).th e.t)=(ZaH (Za2 w e.t)).th:=by
       have h0:=ht.1
       have h1:=ht.2
       have:=W.lenT
       rw [Zho ht]
       have e2:(Zb0 w e.t (ZaH (Za2 w e.t))).t=w.t.set e.t.toNat (ZaH (Za2 w e.t)).th:=by unfold Zb0;split <;> rfl
       rw [e2,List.getD_eq_getElem?_getD,List.getElem?_set_self (by omega)]
       rfl
     have hh:h∈(Zb0 w e.t (ZaH (Za2 w e.t))).t:=hh
     have e2:(Zb0 w e.t (ZaH (Za2 w e.t))).t=w.t.set e.t.toNat (ZaH (Za2 w e.t)).th:=by unfold Zb0;split <;> rfl
     rw [e2] at hh
     rcases Zo2 hh with rfl | hh
     . by_cases hz:(ZaH (Za2 w e.t)).th.phase=0
       . have hd:(ZaH (Za2 w e.t)).done=true:=by
           have:=(T.idle (by rw [Zho ht]) hp).1
           rw [hth] at this
           exact this hz
         rw [hd] at T
         obtain ⟨a,b,d⟩:=T.done_lists
         rw [hth] at a b d
         have hm:w.t.getD e.t.toNat Zay∈w.t:=by
           have h0:=ht.1
           have h1:=ht.2
           have:=W.lenT
           rw [List.getD_eq_getElem?_getD,List.getElem?_eq_getElem (by omega),Option.getD_some]
           exact List.getElem_mem _
         obtain ⟨s1,s2,s3⟩:=S _ hm
         exact ⟨by rw [a];exact s1,by rw [b];exact s2,by rw [d];exact s3⟩
       . have hg:(Zb0 w e.t (ZaH (Za2 w e.t))).t.getD e.t.toNat Zay=(ZaH (Za2 w e.t)).th:=by rw [<- Zho ht];exact hth
         have hf:=W'.fit hC hlo hhi ht (by rw [hg];exact hz)
         have e3:(Za2 (Zb0 w e.t (ZaH (Za2 w e.t))) e.t).th=(ZaH (Za2 w e.t)).th:=hg
         have f1:=hf.g.batch
         have f2:=hf.g.kids
         have f3:=hf.held
         rw [e3] at f1 f2 f3
         exact ⟨f1,f2,f3⟩
     . exact S h hh
 . rw [if_neg (by omega),if_neg (by omega),if_pos k]
   exact S
theorem Shorts.entries (hC:CfgOK c) (hlo:Num c.lo) (hhi:Num c.hi):∀ {l:List SEntry} {w:Wld} {n:Nat} {ro pa rt:Int->Int} {co:Int->Option Int},Shorts w->WInv c w n ro pa rt co->n+l.length<=190000->(∀ e∈l,ZbL c e=0/\Num e.op.v)->Shorts (l.foldl Zbs w)
 | [],w,n,ro,pa,rt,co,S,_,_,_=>S
 | e :: l, w, n, ro, pa, rt, co, S, W, hn, he => by
   rw [List.length_cons] at hn
   obtain ⟨_,ro',pa',rt',co',b⟩:=W.entry hC hlo hhi (by omega) (he e (List.mem_cons_self ..)).1 (he e (List.mem_cons_self ..)).2
   show Shorts (l.foldl Zbs (Zbs w e))
   exact Shorts.entries hC hlo hhi (S.entry W hC hlo hhi (by omega) (he e (List.mem_cons_self ..)).1) b (by omega) (fun x hx=>he x (List.mem_cons_of_mem _ hx))
theorem Zwo (d:List Int):Shorts (newW c d):=by
 intro h hh
 have hh:h∈List.replicate c.threads.toNat newT:=hh
 rw [(List.mem_replicate.1 hh).2]
 exact ⟨by show ([]:List Entry).length<=_;simp,by show ([]:List Kid).length<=_;simp,by show ([]:List Int).length<=_;simp⟩
theorem WInv.big (W:WInv c w n ro pa rt co) (S:Shorts w) (hC:CfgOK c) (hn:n<=190000):WBig w:=by
 have hlT:=W.lenT
 have hlB:=W.lenB
 have hlW:=W.lenW
 have hT:=hC.threads
 have hs:=Zjf hC
 have hl:=W.log
 have hh:=W.hist
 refine ⟨⟨by omega,fun b hb=>?_,by omega,fun h hm=>by have:=(S h hm).1;omega,fun h hm=>by have:=(S h hm).2.1;omega,by omega,by omega⟩,by omega,fun h hm=>by have:=(S h hm).2.2;omega,W.tape.2⟩
 obtain ⟨i,hi',rfl⟩:=List.mem_iff_getElem.1 hb
 have hin:InT c (i:Int):=⟨by omega,by omega⟩
 have:=(W.inv.loc i hin).boxl
 rw [rd_X hin,Int.toNat_natCast,List.getD_eq_getElem?_getD,List.getElem?_eq_getElem hi'] at this
 have this:(w.m.boxes[i]).length<=16:=this
 omega
end
end Go.Proofs.Mill
/- What the laws of layer 17 have in common. -/
namespace Go.Proofs.Mill
def ZzB (c:Config):Prop:=Num c.init/\Num c.lo/\Num c.hi
theorem ZDh {c:Config} (o:(Zap celConfig).Ok c):ZzB c:=by
 have h1:∀ x:Int,AV.int .i64 x∈celConfig.enc c->Num x:=fun x hx=>Zzy (o _ hx)
 refine ⟨h1 _ ?_,h1 _ ?_,h1 _ ?_⟩ <;> simp [celConfig,Zba,Zae,Zao,celBool]
theorem ZD3:Zfl ()=some true:=rfl
theorem ZEJ (l:List SEntry) (d:List Int):Zla (l,d)=some (decide (400<l.length\/200<d.length)):=by
 show Zlk l d=_
 unfold Zlk
 rw [Zaw]
 by_cases h:400<l.length
 . rw [if_pos (by omega),decide_eq_true (.inl h)]
 . rw [if_neg (by omega)]
   congr 1
   exact decide_eq_decide.2 ⟨fun x=>.inr (by omega),fun x=>by omega⟩
def count (l:List Event) (k:Int):Int:=((l.filter fun e=>e.kind == k).length:Int)
section
variable {c:Config} {w:Wld} {n:Nat} {ro pa rt:Int->Int} {co:Int->Option Int}
end
section
variable {c:Config} {w:Wld} {n:Nat} {ro pa rt:Int->Int} {co:Int->Option Int}
end
theorem ZDD {α:Type} {l:List α} {j:Nat} (d:α) (h:j<l.length):l.drop j=l.getD j d::l.drop (j+1):=by
 rw [List.drop_eq_getElem_cons h,List.getD_eq_getElem?_getD,List.getElem?_eq_getElem h,Option.getD_some]
theorem Zy1 {c:Config} {l:List SEntry} {d:List Int} (hc:Num c.init/\Num c.lo/\Num c.hi) (hl:∀ e∈l,Num e.op.v) (hd:d.length<=4294967296) (hn:l.length<=2000) :
   (ZgD (c,l,d)=some (ZB9,allE c l)/\(allE c l).2≠0) \/
   (∃ w,w=l.foldl Zbs (newW c d)/\ZgD (c,l,d)=some (w,0,0)/\allE c l=(0,0)/\CfgOK c/\(∀ e∈l,ZbL c e=0)/\Shorts w/\WBig w/\∃ ro pa rt co,WInv c w l.length ro pa rt co/\Lin c w ro co):=by
 rcases ZDM (c:=c) (l:=l) (d:=d) hc hl hd with ⟨r1,r2⟩ | ⟨r1,r2,hC,r3,r4,ro,pa,rt,co,W,Li⟩
 . exact .inl ⟨r1,r2⟩
 . have S:=Shorts.entries hC hc.2.1 hc.2.2 (l:=l) (Zwo (c:=c) d) (Zve hC hc.1 hd) (by omega) (fun e he=>⟨r4 e he,hl e he⟩)
   exact .inr ⟨_,rfl,r1,r2,hC,r4,S,W.big S hC (by omega),ro,pa,rt,co,W,Li⟩
end Go.Proofs.Mill
/- Whoever waits for ever does not see the time. -/
namespace Go.Proofs.Mill
def atT (x:Int) (u:Turn):Turn:={ u with now:=x }
def atP (x:Int) (p:Turn×Bool):Turn×Bool:=(atT x p.1,p.2)
theorem iteT {x:Int} {P P':Prop} [Decidable P] [Decidable P'] {a b a' b':Turn} (hp:P'↔P) (ha:a'=atT x a) (hb:b'=atT x b):(if P' then a' else b')=atT x (if P then a else b):=by
 by_cases h:P
 . rw [if_pos h,if_pos (hp.2 h),ha]
 . rw [if_neg h,if_neg (fun k=>h (hp.1 k)),hb]
theorem iteP {x:Int} {P P':Prop} [Decidable P] [Decidable P'] {a b a' b':Turn×Bool} (hp:P'↔P) (ha:a'=atP x a) (hb:b'=atP x b):(if P' then a' else b')=atP x (if P then a else b):=by
 by_cases h:P
 . rw [if_pos h,if_pos (hp.2 h),ha]
 . rw [if_neg h,if_neg (fun k=>h (hp.1 k)),hb]
theorem Zdh {x:Int} {a a':Turn} {b:Bool} (h:a'=atT x a):((a',b):Turn×Bool)=atP x (a,b):=by rw [h];rfl
def Ever (u:Turn):Prop:=u.th.until_<=0
theorem ZvH {u:Turn} (h:Ever u):¬Late u:=fun k=>by
 unfold Ever at h
 unfold Late at k
 omega
theorem Zp5 {u v:Turn} (h:Ever u) (k:Ever v):Late v↔Late u:=⟨fun q=>(ZvH k q).elim,fun q=>(ZvH h q).elim⟩
section
variable (x:Int) (u:Turn)
theorem ZoM:Zcd (atT x u)=atT x (Zcd u):=iteT Iff.rfl rfl rfl
theorem ZDI (h:Ever u) (w:Int):Zgj (atT x u) w=atT x (Zgj u w):=iteT Iff.rfl rfl (iteT Iff.rfl rfl (iteT (Zp5 h h) rfl rfl))
theorem ZAN:Zdl (atT x u)=atT x (Zdl u):=iteT Iff.rfl rfl rfl
theorem ZsI (h:Ever u):ZcV (atT x u)=atT x (ZcV u):=iteT (and_congr Iff.rfl (not_congr (Zp5 h h))) rfl rfl
theorem ZBi (h:Ever u):Zcm (atT x u)=atP x (Zcm u) :=
 iteP Iff.rfl (Zdh (iteT Iff.rfl rfl (ZDI x u h _))) (iteP Iff.rfl (Zdh (iteT Iff.rfl rfl (iteT Iff.rfl (ZAN x (Zia u (Zcx u) (8*(u.t+1)+1))) rfl))) (iteP Iff.rfl (Zdh (iteT Iff.rfl rfl (iteT Iff.rfl rfl rfl))) rfl))
theorem ZzM:Zci (atT x u)=atP x (Zci u) :=
 iteP Iff.rfl (Zdh (iteT Iff.rfl rfl (iteT Iff.rfl rfl (iteT Iff.rfl rfl rfl)))) (iteP Iff.rfl (Zdh (iteT Iff.rfl rfl (iteT Iff.rfl rfl rfl))) (iteP Iff.rfl (Zdh (iteT Iff.rfl rfl rfl)) (iteP Iff.rfl (Zdh (iteT Iff.rfl rfl rfl)) (iteP Iff.rfl rfl (iteP Iff.rfl (Zdh (iteT Iff.rfl rfl rfl)) rfl)))))
theorem ZBb:Zb6 (atT x u)=atP x (Zb6 u) :=
 iteP Iff.rfl (Zdh (iteT Iff.rfl rfl rfl)) (iteP Iff.rfl (Zdh (ZoM x { u with th:={ u.th with at_:=0,x:=Za7 u (Zcw u.c u.t) } })) (iteP Iff.rfl (Zdh (iteT Iff.rfl rfl (iteT Iff.rfl rfl rfl)))
   (iteP Iff.rfl (Zdh (iteT Iff.rfl rfl (iteT Iff.rfl rfl (ZoM x { setW u (Za0 u.c (Zfa u).t) 5 with th:={ u.th with at_:=Zaf .i64 (u.th.at_+1) } })))) rfl)))
theorem ZqL (y:Int):ZdZ (atT x u) y=atT x (ZdZ u y):=ZoM x { u with th:={ u.th with at_:=0,x:=y },log:=u.log++ZoE u y }
theorem Zuf:Zc8 (atT x u)=atT x (Zc8 u):=iteT Iff.rfl (ZqL x (setW u (cellAt u.c u.th.item) u.th.y) u.th.x) rfl
theorem Zz6 (h:Ever u):ZbR (atT x u)=atP x (ZbR u) :=
 iteP Iff.rfl (Zdh (Zuf x u)) (iteP Iff.rfl (Zdh (iteT Iff.rfl (ZqL x u _) (iteT Iff.rfl (ZsI x u h) rfl))) rfl)
theorem ZDm:swapT (atT x u)=atT x (swapT u):=iteT Iff.rfl rfl (iteT Iff.rfl rfl rfl)
theorem ZpO (t so no:Int):ZbI (atT x u) t so no=atT x (ZbI u t so no):=iteT Iff.rfl rfl (iteT Iff.rfl rfl rfl)
theorem ZAk:Zem (atT x u)=atT x (Zem u):=iteT Iff.rfl rfl rfl
theorem ZEs (h:Ever u):ZgP (atT x u)=atT x (ZgP u):=iteT Iff.rfl rfl (iteT (and_congr Iff.rfl (not_congr (Zp5 h h))) rfl rfl)
theorem ZBl (h:Ever u):Zfp (atT x u)=atT x (Zfp u) :=
 iteT Iff.rfl (ZsI x { setW u (Zea u) 0 with th:={ u.th with phase:=26,width:=if u.th.width / 2>1 then u.th.width / 2 else 1 } } h) rfl
theorem ZyB (h:Ever u):ZbS (atT x u)=atP x (ZbS u) :=
 iteP Iff.rfl rfl (iteP Iff.rfl rfl (iteP Iff.rfl (Zdh (ZDm x u)) (iteP Iff.rfl (Zdh (ZpO x u _ _ _)) (iteP Iff.rfl (Zdh (ZpO x u _ _ _)) (iteP Iff.rfl (Zdh (ZAk x u)) (iteP Iff.rfl (Zdh (ZEs x u h)) (iteP Iff.rfl rfl (iteP Iff.rfl (Zdh (ZBl x u h)) rfl))))))))
theorem ZA6:Zes (atT x u)=atT x (Zes u):=iteT Iff.rfl rfl (iteT Iff.rfl rfl rfl)
theorem ZAV:Zca (atT x u)=atP x (Zca u):=iteP Iff.rfl (Zdh (ZA6 x (setW u (Za0 u.c u.t) 0))) rfl
theorem ZER:begT (atT x u)=atT x (begT u):=rfl
theorem Zy7 (h:Ever u):ZaH (atT x u)=atT x (ZaH u):=by
 have hb:Ever (begT u):=h
 have e1:=ZAV x (begT u)
 have e2:=ZBb x (begT u)
 have e3:=Zz6 x (begT u) hb
 have e4:=ZBi x (begT u) hb
 have e5:=ZzM x (begT u)
 have e6:=ZyB x (begT u) hb
 unfold ZaH
 rw [ZER,e1,e2,e3,e4,e5,e6]
 exact iteT Iff.rfl rfl (iteT Iff.rfl rfl (iteT Iff.rfl rfl (iteT Iff.rfl rfl (iteT Iff.rfl rfl (iteT Iff.rfl rfl (iteT Iff.rfl rfl rfl))))))
end
def atW (x:Int) (w:Wld):Wld:={ w with now:=x }
def Evers (w:Wld):Prop:=w.c.wait=0/\∀ h∈w.t,h.until_<=0
theorem iteW {x:Int} {P P':Prop} [Decidable P] [Decidable P'] {a b a' b':Wld} (hp:P'↔P) (ha:a'=atW x a) (hb:b'=atW x b):(if P' then a' else b')=atW x (if P then a else b):=by
 by_cases h:P
 . rw [if_pos h,if_pos (hp.2 h),ha]
 . rw [if_neg h,if_neg (fun k=>h (hp.1 k)),hb]
theorem Zuh {w:Wld} (h:Evers w) (t:Int):(w.t.getD t.toNat Zay).until_<=0:=by
 rw [List.getD_eq_getElem?_getD]
 by_cases hk:t.toNat<w.t.length
 . rw [List.getElem?_eq_getElem hk]
   exact h.2 _ (List.getElem_mem hk)
 . rw [List.getElem?_eq_none (by omega)]
   exact (show (0:Int)<=0 by omega)
theorem ZBx {c:Config} (h:c.wait=0) (t item:Int) (op:Op) (now x w:Int):ZfJ c t item op x w=ZfJ c t item op now w:=by
 unfold ZfJ
 rw [if_neg (show ¬c.wait>0 by omega),if_neg (show ¬c.wait>0 by omega)]
theorem ZDR (x:Int) (w:Wld) (t:Int) (u:Turn):Zb0 (atW x w) t (atT x u)=atW x (Zb0 w t u):=by
 unfold Zb0
 cases hd:u.done with
 | false=>simp only [atT,hd];rfl
 | true=>simp only [atT,hd];rfl
theorem ZEp {w:Wld} (h:Evers w) (x:Int) (e:SEntry) (he:e.kind≠3):Zbs (atW x w) e=atW x (Zbs w e):=by
 unfold Zbs
 refine iteW Iff.rfl ?_ (iteW Iff.rfl ?_ ?_)
 . unfold invT
   refine iteW Iff.rfl rfl ?_
   show _=atW x _
   unfold atW
   simp only []
   rw [ZBx h.1 e.t e.item e.op w.now x]
 . refine iteW Iff.rfl rfl ?_
   have e1:Za2 (atW x w) e.t=atT x (Za2 w e.t):=rfl
   rw [e1,Zy7 x (Za2 w e.t) (Zuh h e.t),ZDR]
 . rw [if_neg he,if_neg he]
theorem Evers.step {w:Wld} (h:Evers w) (e:SEntry):Evers (Zbs w e):=by
 unfold Zbs
 split
 . unfold invT
   split
   . exact h
   . refine ⟨h.1,fun y hy=>?_⟩
     rcases Zo2 hy with rfl | hy
     . show (if w.c.wait>0 then _ else (0:Int))<=0
       rw [if_neg (by rw [h.1];decide)]
       exact Int.le_refl 0
     . exact h.2 y hy
 split
 . split
   . exact h
   . have hk:(ZaH (Za2 w e.t)).th.until_=(w.t.getD e.t.toNat Zay).until_:=ZyK (ZjX (Za2 w e.t))
     have e1:(Zb0 w e.t (ZaH (Za2 w e.t))).c=w.c:=by unfold Zb0;split <;> rfl
     have e2:(Zb0 w e.t (ZaH (Za2 w e.t))).t=w.t.set e.t.toNat (ZaH (Za2 w e.t)).th:=by unfold Zb0;split <;> rfl
     refine ⟨by rw [e1];exact h.1,fun y hy=>?_⟩
     rw [e2] at hy
     rcases Zo2 hy with rfl | hy
     . rw [hk];exact Zuh h e.t
     . exact h.2 y hy
 split
 . exact h
 . exact h
def ZcD (l:List SEntry):Nat:=(l.filter fun e=>e.kind == 3).length
def Zbk (l:List SEntry):List SEntry:=l.filter fun e=>e.kind != 3
theorem Zxq:∀ {l:List SEntry} {w:Wld} (x:Int),Evers w->(∀ e∈l,e.kind≠3)->l.foldl Zbs (atW x w)=atW x (l.foldl Zbs w)
 | [],w,x,_,_=>rfl
 | e :: l, w, x, h, he => by
   show l.foldl Zbs (Zbs (atW x w) e)=atW x (l.foldl Zbs (Zbs w e))
   rw [ZEp h x e (he e (List.mem_cons_self ..)),Zxq x (h.step e) (fun y hy=>he y (List.mem_cons_of_mem _ hy))]
theorem ZqY {l:List SEntry}:∀ e∈Zbk l,e.kind≠3:=by
 intro e he
 have:=(List.mem_filter.1 he).2
 simpa using this
theorem Zqf {w:Wld} {e:SEntry} (he:e.kind≠3):(Zbs w e).now=w.now:=by
 unfold Zbs
 split
 . unfold invT;split <;> rfl
 split
 . split
   . rfl
   . unfold Zb0;split <;> rfl
 . first | rfl | (rw [if_neg he])
theorem ZmQ:∀ {l:List SEntry} {w:Wld},Evers w->0<=w.now/\w.now+l.length<=1000000->l.foldl Zbs w=atW (w.now+ZcD l) ((Zbk l).foldl Zbs w)
 | [], w, _, _ => by
   show w=atW (w.now+((0:Nat):Int)) w
   unfold atW
   rw [Int.ofNat_zero,Int.add_zero]
 | e :: l, w, h, hn => by
   have hl:(e::l).length=l.length+1:=rfl
   rw [hl] at hn
   show l.foldl Zbs (Zbs w e)=_
   by_cases k:e.kind=3
   . have e1:Zbs w e=atW (w.now+1) w:=by
       unfold Zbs
       rw [if_neg (by omega),if_neg (by omega),if_pos k,Zaz (by omega) (by omega)]
       rfl
     have e2:ZcD (e::l)=ZcD l+1:=by
       unfold ZcD
       rw [List.filter_cons,if_pos (by simp [k]),List.length_cons]
     have e3:Zbk (e::l)=Zbk l:=by
       unfold Zbk
       rw [List.filter_cons,if_neg (by simp [k])]
     have h1:Evers (atW (w.now+1) w):=h
     rw [e1,e2,e3,ZmQ h1 ⟨by show 0<=w.now+1;omega,by show w.now+1+l.length<=_;omega⟩,Zxq (w.now+1) h ZqY]
     unfold atW
     simp only []
     congr 1
     omega
   . have e2:ZcD (e::l)=ZcD l:=by
       unfold ZcD
       rw [List.filter_cons,if_neg (by simp [k])]
     have e3:Zbk (e::l)=e::Zbk l:=by
       unfold Zbk
       rw [List.filter_cons,if_pos (by simp [k])]
     rw [e2,e3,ZmQ (h.step e) (by rw [Zqf k];omega),Zqf k]
     rfl
end Go.Proofs.Mill
