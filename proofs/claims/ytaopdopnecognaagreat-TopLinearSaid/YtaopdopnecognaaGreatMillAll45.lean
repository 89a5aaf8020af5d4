/- Parts of the proof: MillQLin2, MillQRunAll, MillQFair, MillQEnds, MillQHist, MillQHist2, MillQHist3, MillQFair2. -/
import Derived.Test.YtaopdopnecognaaGreatMillAll44
import Derived.Test.YtaopdopnecognaaGreatMillAll4
import Derived.Test.YtaopdopnecognaaGreatMillAll42
import Derived.Test.YtaopdopnecognaaGreatMillFDb
import Derived.KernelRfl
set_option linter.all false
noncomputable section
namespace Go.Proofs.Mill
theorem Zxr (h:Thread):(ZfC h).phase=4\/(ZfC h).phase=7\/(ZfC h).phase=11\/(ZfC h).phase=2:=by
 unfold ZfC
 split
 . exact .inl rfl
 . have:=Zfv { h with phase:=4,held:=h.held++[h.node],node:=h.node / 2,at_:=0 }
   have e:(Zke { h with phase:=4,held:=h.held++[h.node],node:=h.node / 2 }).phase=(Zft { h with phase:=4,held:=h.held++[h.node],node:=h.node / 2,at_:=0 }).phase:=rfl
   rw [e]
   omega
theorem Zi7 (h:Thread):(Zft h).phase=7\/(Zft h).phase=11\/(Zft h).phase=2:=by
 have:=Zfv h
 omega
section
variable {c:Config} {t:Int} {v v':Vw} {h:Thread} {log:List Mark} {done:Bool}
theorem Zbd {h':Thread}:(put v t h').th t=h':=Zag
theorem Zi1 (g:Thread):((ZbL g).phase=0↔Zey g=true):=by
 have:=Zib g
 cases hd:Zey g with
 | true=>rw [hd] at this;simp at this ⊢;exact this.1
 | false=>rw [hd] at this;simp at this ⊢;omega
theorem Tr.idle (T:Tr c t v h v' log done) (hv:v.th t=h) (hp:h.phase≠0):((v'.th t).phase=0↔done=true):=by
 have no:∀ {p:Int},p≠0->(p=0↔false=true):=fun h=>⟨fun x=>(h x).elim,fun x=>by cases x⟩
 cases T with
 | nop s=>rw [hv];exact no hp
 | start p s=>rw [Zbd];cases s <;> exact no (by dsimp only;decide)
 | load p=>rw [Zbd];exact no (by dsimp only;decide)
 | casF p hw hw2=>rw [Zbd];exact no (by dsimp only;decide)
 | same p e=>rw [Zbd];exact Zi1 _
 | cas p e=>rw [Zbd];exact Zi1 _
 | on25 p o=>rw [Zbd];cases o <;> exact no (by dsimp only;decide)
 | look1 p k=>rw [Zbd];exact no (by dsimp only;decide)
 | look0 p=>rw [Zbd];exact no (by dsimp only;decide)
 | lookL p=>rw [Zbd];exact no (by have:=Zi7 { h with at_:=0 };show (Zft { h with at_:=0 }).phase≠0;omega)
 | take p n e=>rw [Zbd];exact no (by have:=Zxr h;omega)
 | takeF p=>rw [Zbd];exact no (by dsimp only;decide)
 | join p n e=>rw [Zbd];exact no (by have:=Zi7 { h with phase:=4,stop:=h.node,at_:=0 };show (Zft { h with phase:=4,stop:=h.node,at_:=0 }).phase≠0;omega)
 | joinF p=>rw [Zbd];exact no (by dsimp only;decide)
 | seeF p a e=>rw [Zbd];exact no (by dsimp only;decide)
 | seeD p a k=>rw [Zbd];exact no (by dsimp only;decide)
 | close p a e=>rw [Zbd];exact no (by have:=Zi7 { h with at_:=Zac IntKind.i64 (h.at_+1) };show (Zft { h with at_:=Zac IntKind.i64 (h.at_+1) }).phase≠0;omega)
 | closeF p=>rw [Zbd];exact no (by dsimp only;decide)
 | takeB p w=>rw [Zbd];exact no (by dsimp only;decide)
 | clear p a=>rw [Zbd];exact no (by have:=Zi7 { h with at_:=Zac IntKind.i64 (h.at_+1) };show (Zft { h with at_:=Zac IntKind.i64 (h.at_+1) }).phase≠0;omega)
 | box11 p=>rw [Zbd];exact no (by dsimp only;decide)
 | dep p n=>rw [Zbd];exact no (by dsimp only;decide)
 | told p e=>rw [Zbd];exact no (by dsimp only;decide)
 | res p=>rw [Zbd];exact Zi1 _
 | tell1 p a w=>rw [Zbd];exact no (by dsimp only;decide)
 | tell2 p a w=>rw [Zbd];exact Zi1 _
 | box17 p=>rw [Zbd];exact no (by dsimp only;decide)
 | open18 p=>rw [Zbd];exact no (by dsimp only;decide)
 | swap20 p s w=>rw [Zbd];exact no (by dsimp only;decide)
 | swap23 p s=>rw [Zbd];exact no (by dsimp only;decide)
 | shut20 p e=>rw [Zbd];exact no (by dsimp only;decide)
 | shutF p e=>rw [Zbd];exact no (by dsimp only;decide)
 | cap21 p w e=>rw [Zbd];exact no (by dsimp only;decide)
 | capF p=>rw [Zbd];exact no (by dsimp only;decide)
 | absorb p w=>rw [Zbd];exact no (by dsimp only;decide)
 | spinF p e=>rw [Zbd];exact no (by dsimp only;decide)
 | spinL p e=>rw [Zbd];exact no (by dsimp only;omega)
 | spinO p e=>rw [Zbd];exact no (by dsimp only;decide)
 | open24 p=>rw [Zbd];exact no (by dsimp only;decide)
 | leave p e hw hw2 o=>rw [Zbd];cases o <;> exact no (by dsimp only;decide)
 | leaveF p e=>rw [Zbd];exact no (by dsimp only;decide)
def ZA6 (c:Config) (v v':Vw) (h:Thread) (log:List Mark):Prop :=
 (log=[]/\∀ i,v'.b i 0=v.b i 0)\/(log=Zgs c h (v.b h.item 0)/\v'.b h.item 0=allT c.lo c.hi h.batch (v.b h.item 0)/\∀ i,i≠h.item->v'.b i 0=v.b i 0)
theorem Tr.cells (T:Tr c t v h v' log done) (hy:h.phase=3->h.y=allT c.lo c.hi h.batch h.x) (hn:0<=ZaI c) (hat:h.phase=8\/h.phase=10->ZbC h≠0):ZA6 c v v' h log:=by
 have sm:∀ {a b:List Mark},(∀ i,v'.b i 0=v.b i 0)->ZA6 c v v' h []:=fun x=>.inl ⟨rfl,x⟩
 have wn:∀ {i m w:Int},m≠0->∀ k,setb v.b i m w k 0=v.b k 0:=fun hm k=>ZdN (fun x=>hm x.2.symm)
 cases T with
 | same p e=>exact .inr ⟨rfl,e.symm,fun i _=>rfl⟩
 | cas p e =>
   refine .inr ⟨by rw [e],?_,fun i hi=>ZdN (fun x=>hi x.1)⟩
   show setb v.b h.item 0 h.y h.item 0=_
   rw [Zgf,hy p,e]
 | take p n e=>exact .inl ⟨rfl,wn (by omega)⟩
 | join p n e=>exact .inl ⟨rfl,wn (by omega)⟩
 | close p a e=>exact .inl ⟨rfl,wn (hat (.inl p))⟩
 | clear p a=>exact .inl ⟨rfl,wn (hat (.inr p))⟩
 | dep p n=>exact .inl ⟨rfl,wn (by omega)⟩
 | swap20 p s w=>exact .inl ⟨rfl,wn (by omega)⟩
 | swap23 p s=>exact .inl ⟨rfl,wn (by omega)⟩
 | nop s=>exact .inl ⟨rfl,fun i=>rfl⟩
 | start p s=>exact .inl ⟨rfl,fun i=>rfl⟩
 | load p=>exact .inl ⟨rfl,fun i=>rfl⟩
 | casF p hw hw2=>exact .inl ⟨rfl,fun i=>rfl⟩
 | on25 p o=>exact .inl ⟨rfl,fun i=>rfl⟩
 | look1 p k=>exact .inl ⟨rfl,fun i=>rfl⟩
 | look0 p=>exact .inl ⟨rfl,fun i=>rfl⟩
 | lookL p=>exact .inl ⟨rfl,fun i=>rfl⟩
 | takeF p=>exact .inl ⟨rfl,fun i=>rfl⟩
 | joinF p=>exact .inl ⟨rfl,fun i=>rfl⟩
 | seeF p a e=>exact .inl ⟨rfl,fun i=>rfl⟩
 | seeD p a k=>exact .inl ⟨rfl,fun i=>rfl⟩
 | closeF p=>exact .inl ⟨rfl,fun i=>rfl⟩
 | takeB p w=>exact .inl ⟨rfl,fun i=>rfl⟩
 | box11 p=>exact .inl ⟨rfl,fun i=>rfl⟩
 | told p e=>exact .inl ⟨rfl,fun i=>rfl⟩
 | res p=>exact .inl ⟨rfl,fun i=>rfl⟩
 | tell1 p a w=>exact .inl ⟨rfl,fun i=>rfl⟩
 | tell2 p a w=>exact .inl ⟨rfl,fun i=>rfl⟩
 | box17 p=>exact .inl ⟨rfl,fun i=>rfl⟩
 | open18 p=>exact .inl ⟨rfl,fun i=>rfl⟩
 | shut20 p e=>exact .inl ⟨rfl,fun i=>rfl⟩
 | shutF p e=>exact .inl ⟨rfl,fun i=>rfl⟩
 | cap21 p w e=>exact .inl ⟨rfl,fun i=>rfl⟩
 | capF p=>exact .inl ⟨rfl,fun i=>rfl⟩
 | absorb p w=>exact .inl ⟨rfl,fun i=>rfl⟩
 | spinF p e=>exact .inl ⟨rfl,fun i=>rfl⟩
 | spinL p e=>exact .inl ⟨rfl,fun i=>rfl⟩
 | spinO p e=>exact .inl ⟨rfl,fun i=>rfl⟩
 | open24 p=>exact .inl ⟨rfl,fun i=>rfl⟩
 | leave p e hw hw2 o=>exact .inl ⟨rfl,fun i=>rfl⟩
 | leaveF p e=>exact .inl ⟨rfl,fun i=>rfl⟩
end
structure LinT (c:Config) (w:Wld) (th:Thread) (ro:Int) (co:Option Int) (j:Int):Prop where
  ex:∃ (k:Nat) (op:Bool) (last:Event),ansL c.lo c.hi j (Zbr j w.log) (0,false,Zfw) w.hist=some (k,op,last)/\(op=true↔ro≠0) /\
    (op=true->last.op=th.op/\last.item=th.item/\last.kind=1/\last.t=j/\last∈w.hist/\last.step<=w.steps) /\
    (co=none->(Zbr j w.log).length=k) /\
    (∀ x,co=some x->(Zbr j w.log).length=k+1/\((Zbr j w.log).getD k ZaO).op=th.op/\((Zbr j w.log).getD k ZaO).item=th.item/\((Zbr j w.log).getD k ZaO).prior=x/\last.step<((Zbr j w.log).getD k ZaO).step/\((Zbr j w.log).getD k ZaO).step<=w.steps)
structure Lin (c:Config) (w:Wld) (ro:Int->Int) (co:Int->Option Int):Prop where
  ans:∀ j,InT c j->LinT c w ((vw c w.m w.t).th j) (ro j) (co j) j
  cells:∀ i,0<=i->i<c.items->Zew c i c.init w.log=some ((vw c w.m w.t).b i 0)
  srt:w.log.Pairwise (fun a b=>a.step<=b.step)
  steps:∀ m∈w.log,1<=m.step/\m.step<=w.steps
  asked:∀ m∈w.log,∃ h∈w.hist,h.kind=1/\h.t=m.t/\h.item=m.item/\h.op=m.op/\h.step<m.step
  inlog:∀ m∈w.log,InT c m.t/\(0<=m.item/\m.item<c.items)/\Zfi m.op c.bounded=true/\Num m.op.v
  ehist:∀ h∈w.hist,InT c h.t/\(h.kind=1\/h.kind=2\/h.kind=3)/\h.step<=w.steps/\0<=h.step/\Num h.op.v/\Num h.prior
  may:∀ j,InT c j->ro j≠0->Zfi ((vw c w.m w.t).th j).op c.bounded=true
  hsrt:w.hist.Pairwise (fun a b=>a.step<=b.step)
section
variable {c:Config} {w:Wld} {n:Nat} {ro pa rt ro' pa' rt':Int->Int} {co co':Int->Option Int} {t:Int}
theorem LinT.skip {th:Thread} {r:Int} {cc:Option Int} {j:Int} (L:LinT c w th r cc j) {w':Wld} {h:Event} (hh:h.t≠j\/h.kind=3) (e1:w'.log=w.log) (e2:w'.hist=w.hist++[h]) (e3:w.steps<=w'.steps):LinT c w' th r cc j:=by
 obtain ⟨k,op,last,a,b,d,f,g⟩:=L.ex
 refine ⟨k,op,last,?_,b,fun x=>?_,by rw [e1];exact f,fun x hx=>?_⟩
 . rw [e1,e2,Zhe a,ZmB]
   unfold ansE
   rw [if_pos hh]
 . obtain ⟨d1,d2,d3,d4,d5,d6⟩:=d x
   exact ⟨d1,d2,d3,d4,by rw [e2];exact List.mem_append_left _ d5,by omega⟩
 . rw [e1]
   obtain ⟨g1,g2,g3,g4,g5,g6⟩:=g x hx
   exact ⟨g1,g2,g3,g4,g5,by omega⟩
theorem LinT.same {th:Thread} {r:Int} {cc:Option Int} {j:Int} (L:LinT c w th r cc j) {w':Wld} (e1:Zbr j w'.log=Zbr j w.log) (e2:w'.hist=w.hist) (e3:w.steps<=w'.steps):LinT c w' th r cc j:=by
 obtain ⟨k,op,last,a,b,d,f,g⟩:=L.ex
 refine ⟨k,op,last,by rw [e1,e2];exact a,b,fun x=>?_,by rw [e1];exact f,fun x hx=>?_⟩
 . obtain ⟨d1,d2,d3,d4,d5,d6⟩:=d x
   exact ⟨d1,d2,d3,d4,by rw [e2];exact d5,by omega⟩
 . rw [e1]
   obtain ⟨g1,g2,g3,g4,g5,g6⟩:=g x hx
   exact ⟨g1,g2,g3,g4,g5,by omega⟩
theorem Lin.hist_more (Li:Lin c w ro co) {h:Event} (hs:w.steps<=h.step):(w.hist++[h]).Pairwise (fun a b=>a.step<=b.step):=by
 rw [List.pairwise_append]
 refine ⟨Li.hsrt,List.pairwise_singleton _ _,fun a ha b hb=>?_⟩
 rw [List.mem_singleton] at hb
 subst hb
 have:=(Li.ehist a ha).2.2.1
 omega
theorem Lin.invoke (Li:Lin c w ro co) (W:WInv c w n ro pa rt co) (hC:CfgOK c) {e:SEntry} (ht:InT c e.t) (ho:Zfi e.op c.bounded=true) (hop:Num e.op.v):(¬(w.t.getD e.t.toNat Zaw).phase=0->Lin c (invT w e) ro co)/\((w.t.getD e.t.toNat Zaw).phase=0->Lin c (invT w e) (seta ro e.t 1) co):=by
 have hth:(vw c w.m w.t).th e.t=w.t.getD e.t.toNat Zaw:=Zi3 ht
 have hst:=W.steps
 constructor
 . intro hp
   have e0:invT w e={ w with hist:=w.hist++[⟨3,e.t,e.item,e.op,0,false,w.steps⟩] }:=by unfold invT;rw [if_pos hp]
   rw [e0]
   refine ⟨fun j hj=>(Li.ans j hj).skip (.inr rfl) rfl rfl (Int.le_refl _),Li.cells,Li.srt,Li.steps,fun m hm=>?_,Li.inlog,fun h hh=>?_,Li.may,Li.hist_more (Int.le_refl _)⟩
   . obtain ⟨h,h1,h2⟩:=Li.asked m hm
     exact ⟨h,List.mem_append_left _ h1,h2⟩
   . rcases List.mem_append.1 hh with hh | hh
     . exact Li.ehist h hh
     . rw [List.mem_singleton] at hh;subst hh
       exact ⟨ht,.inr (.inr rfl),Int.le_refl _,hst.1,hop,Zbg (show (-1000000:Int)<=0/\(0:Int)<=1000000 by decide)⟩
 . intro hp
   have h0:ro e.t=0:=(W.inv.busy ht).2 (by rw [hth];exact hp)
   have e0:invT w e={ w with t:=w.t.set e.t.toNat (Zji w.c e.t e.item e.op w.now (w.t.getD e.t.toNat Zaw).width),hist:=w.hist++[⟨1,e.t,e.item,e.op,0,false,w.steps⟩] }:=by unfold invT;rw [if_neg (fun x=>x hp)]
   rw [e0]
   obtain ⟨b,hb⟩:∃ b,b=Zji w.c e.t e.item e.op w.now (w.t.getD e.t.toNat Zaw).width:=⟨_,rfl⟩
   rw [<- hb]
   have hvt:(vw c w.m (w.t.set e.t.toNat b)).th=seta (vw c w.m w.t).th e.t b:=by
     rw [ZqP W.lenT ht];rfl
   refine ⟨fun j hj=>?_,Li.cells,Li.srt,Li.steps,fun m hm=>?_,Li.inlog,fun h hh=>?_,fun j hj hr=>?_,Li.hist_more (Int.le_refl _)⟩
   . show LinT c _ ((vw c w.m (w.t.set e.t.toNat b)).th j) (seta ro e.t 1 j) (co j) j
     rw [hvt]
     by_cases ej:j=e.t
     . rw [ej,Zag,Zag]
       obtain ⟨k,op,last,a,b1,d,f,g⟩:=(Li.ans e.t ht).ex
       have hop:op=false:=by
         cases op with
         | false=>rfl
         | true=>exact (b1.1 rfl h0).elim
       have hct:co e.t=none:=(W.inv.core.k0 e.t h0).1
       refine ⟨k,true,⟨1,e.t,e.item,e.op,0,false,w.steps⟩,?_,⟨fun _=>by decide,fun _=>rfl⟩,fun _=>⟨by rw [hb];rfl,by rw [hb];rfl,rfl,rfl,List.mem_append_right _ (List.mem_singleton.2 rfl),Int.le_refl _⟩,f,fun x hx=>by rw [hct] at hx;cases hx⟩
       rw [Zhe a,ZmB,hop]
       unfold ansE
       rw [if_neg (by show ¬(e.t≠e.t\/(1:Int)=3);simp),if_pos rfl,if_neg (show ¬(false=true) by decide)]
     . rw [Zaf ej,Zaf ej]
       exact (Li.ans j hj).skip (.inl (Ne.symm ej)) rfl rfl (Int.le_refl _)
   . obtain ⟨h,h1,h2⟩:=Li.asked m hm
     exact ⟨h,List.mem_append_left _ h1,h2⟩
   . rcases List.mem_append.1 hh with hh | hh
     . exact Li.ehist h hh
     . rw [List.mem_singleton] at hh;subst hh
       exact ⟨ht,.inl rfl,Int.le_refl _,hst.1,hop,Zbg (show (-1000000:Int)<=0/\(0:Int)<=1000000 by decide)⟩
   . show Zfi ((vw c w.m (w.t.set e.t.toNat b)).th j).op c.bounded=true
     rw [hvt]
     by_cases ej:j=e.t
     . rw [ej,Zag,hb];exact ho
     . rw [Zaf ej] at hr ⊢;exact Li.may j hj hr
theorem Core.inBatch {ba:Int->List Entry} {ks:Int->List Kid} {opf:Int->Op} {it:Int->Int} (C:Core c ba ks opf it ro pa rt co) {r:Int} (hr:ro r=1) (j:Int):(ro j≠0/\co j=none/\rt j=r)↔idxOf (ba r) j<(ba r).length:=by
 obtain ⟨cr,rr⟩:=C.k1 r (by omega)
 constructor
 . rintro ⟨a,b,d⟩
   obtain ⟨_,_,o,hs⟩:=C.k5 j a b
   rw [d] at hs
   obtain ⟨r1,hr1⟩:=C.k3 j a
   have hm:(⟨j,opf j⟩:Entry)∈ba r:=hs.mem (by rw [hr1];exact List.mem_cons_self ..)
   exact ZCU hm
 . intro h
   unfold idxOf at h
   have h':((ba r).map (·.t)).findIdx (fun t=>t == j)<((ba r).map (·.t)).length:=by rwa [List.length_map]
   have h2:=List.findIdx_getElem (w:=h')
   have h3:j∈(ba r).map (·.t):=by
     rw [<- eq_of_beq h2];exact List.getElem_mem h'
   obtain ⟨e,he,rfl⟩:=List.mem_map.1 h3
   obtain ⟨a,b,d,f,g⟩:=C.k4 r (by omega) cr e he
   exact ⟨a,f,by rw [g,rr]⟩
theorem Lin.pick (Li:Lin c w ro co) (W:WInv c w n ro pa rt co) (hC:CfgOK c) (hlo:Num c.lo) (hhi:Num c.hi) (hn:n<=200000) (hci:Inb c c.init) (ht:InT c t) (hp:(w.t.getD t.toNat Zaw).phase≠0) :
   ∃ ro' pa' rt' co',WInv c (ZdQ w t (ZaR (ZbK w t))) (n+1) ro' pa' rt' co'/\Lin c (ZdQ w t (ZaR (ZbK w t))) ro' co':=by
 obtain ⟨_,ro',pa',rt',co1,W',info,T⟩:=W.pick hC hlo hhi hn ht hp
 refine ⟨ro',pa',rt',_,W',?_⟩
 have hth:(vw c w.m w.t).th t=w.t.getD t.toNat Zaw:=Zi3 ht
 have hkp:=Znl (ZbK w t)
 have hL:=W.inv.loc t ht
 have hro:ro t≠0:=by
   intro h0
   have:=(W.inv.busy ht).1 h0
   rw [hth] at this
   exact hp this
 have hop1:(ZaR (ZbK w t)).th.op=(w.t.getD t.toNat Zaw).op:=Zwl hkp
 have hit1:(ZaR (ZbK w t)).th.item=(w.t.getD t.toNat Zaw).item:=ZyR hkp
 obtain ⟨u,hu⟩:∃ u,u=ZaR (ZbK w t):=⟨_,rfl⟩
 rw [<- hu] at W' info T hop1 hit1 ⊢
 have hst:=W.steps
 have hs:Zex w=w.steps+1:=by unfold Zex;rw [Zas (by omega) (by omega)]
 have hvth:(vw c (ZdQ w t u).m (ZdQ w t u).t).th=seta (vw c w.m w.t).th t u.th:=by
   show vwT c (w.t.set t.toNat u.th)=_
   rw [Zx5 W.lenT ht];rfl
 have hidle:=T.idle hth hp
 rw [hvth,Zag] at hidle
 have hcells:=T.cells (fun p=>by rw [<- hth] at p ⊢;exact hL.y p) (ZbT c).1 (fun p=>by
   rw [<- hth] at p ⊢
   have ha:=hL.ari.2.2.2.2.2.2.1 (by omega)
   have:=(W.inv.nodes t ht).1 _ (Zhw (by omega) ha)
   omega)
 have hbz:∀ j,InT c j->j≠t->(ro' j=0↔ro j=0):=by
   intro j hj hjt
   rw [W'.inv.busy hj,W.inv.busy hj,hvth,Zaf hjt]
 have hbt:ro' t=0↔u.done=true:=by
   rw [W'.inv.busy ht,hvth,Zag];exact hidle
 obtain ⟨co',hco'⟩:∃ co',co'=if u.done=true then seta co1 t none else co1:=⟨_,rfl⟩
 rw [<- hco'] at W' ⊢
 have hcoj:∀ j,j≠t->co' j=co1 j:=by
   intro j hj;rw [hco'];split
   . rw [Zaf hj]
   . rfl
 obtain ⟨ms,hms⟩:∃ ms,ms=u.log.map (ZcH (Zex w)):=⟨_,rfl⟩
 have hlog:(ZdQ w t u).log=w.log++ms:=by rw [hms];rfl
 have hsteps:(ZdQ w t u).steps=w.steps+1:=hs
 have own:∀ j,InT c j->∃ (k:Nat) (op:Bool) (last:Event),ansL c.lo c.hi j (Zbr j (w.log++ms)) (0,false,Zfw) w.hist=some (k,op,last)/\(op=true↔ro j≠0) /\
     (op=true->last.op=((vw c w.m w.t).th j).op/\last.item=((vw c w.m w.t).th j).item/\last.kind=1/\last.t=j/\last∈w.hist/\last.step<=w.steps) /\
     (co1 j=none->(Zbr j (w.log++ms)).length=k) /\
     (∀ x,co1 j=some x->(Zbr j (w.log++ms)).length=k+1/\((Zbr j (w.log++ms)).getD k ZaO).op=((vw c w.m w.t).th j).op/\((Zbr j (w.log++ms)).getD k ZaO).item=((vw c w.m w.t).th j).item/\((Zbr j (w.log++ms)).getD k ZaO).prior=x/\last.step<((Zbr j (w.log++ms)).getD k ZaO).step/\((Zbr j (w.log++ms)).getD k ZaO).step<=w.steps+1):=by
   intro j hj
   obtain ⟨k,op,last,a,b,d,f,g⟩:=(Li.ans j hj).ex
   rcases info.1 with ⟨e1,e2⟩ | ⟨hr1,e1,e2⟩
   . have:ms=[]:=by rw [hms,e1];rfl
     rw [this,List.append_nil,e2]
     exact ⟨k,op,last,a,b,d,f,fun x hx=>by obtain ⟨g1,g2,g3,g4,g5,g6⟩:=g x hx;exact ⟨g1,g2,g3,g4,g5,by omega⟩⟩
   . have hmo:Zbr j ms=if idxOf ((vw c w.m w.t).th t).batch j<((vw c w.m w.t).th t).batch.length then [⟨j,((vw c w.m w.t).th t).item,(((vw c w.m w.t).th t).batch.getD (idxOf ((vw c w.m w.t).th t).batch j) ⟨0,⟨0,0⟩⟩).op,allT c.lo c.hi (((vw c w.m w.t).th t).batch.take (idxOf ((vw c w.m w.t).th t).batch j)) ((vw c w.m w.t).b ((vw c w.m w.t).th t).item 0),Zex w⟩] else []:=by
       rw [hms,e1]
       exact Zsy _ _ j _ _ (W.inv.core.nod t hro)
     have hib:=W.inv.core.inBatch hr1 j
     rw [Zxi,hmo]
     by_cases hlt:idxOf ((vw c w.m w.t).th t).batch j<((vw c w.m w.t).th t).batch.length
     . obtain ⟨q1,q2,q3⟩:=hib.2 hlt
       have hf:=f q2
       have hc1:co1 j=some (allT c.lo c.hi (((vw c w.m w.t).th t).batch.take (idxOf ((vw c w.m w.t).th t).batch j)) ((vw c w.m w.t).b ((vw c w.m w.t).th t).item 0)):=by
         rw [e2];exact if_pos ⟨q1,q2,q3⟩
       have hd:=d (b.2 q1)
       have hget:(((vw c w.m w.t).th t).batch.getD (idxOf ((vw c w.m w.t).th t).batch j) ⟨0,⟨0,0⟩⟩)∈((vw c w.m w.t).th t).batch:=by
         rw [List.getD_eq_getElem?_getD,List.getElem?_eq_getElem hlt];exact List.getElem_mem hlt
       have hgt:(((vw c w.m w.t).th t).batch.getD (idxOf ((vw c w.m w.t).th t).batch j) ⟨0,⟨0,0⟩⟩).t=j:=by
         rw [List.getD_eq_getElem?_getD,List.getElem?_eq_getElem hlt]
         have h':(((vw c w.m w.t).th t).batch.map (·.t)).findIdx (fun t=>t == j)<(((vw c w.m w.t).th t).batch.map (·.t)).length:=by rw [List.length_map];exact hlt
         have h2:=List.findIdx_getElem (w:=h')
         have:=eq_of_beq h2
         rw [List.getElem_map] at this
         exact this
       have hk4:=W.inv.core.k4 t hro (W.inv.core.k1 t (by omega)).1 _ hget
       rw [hgt] at hk4
       rw [if_pos hlt]
       refine ⟨k,op,last,Zss a,b,d,fun x=>(by rw [hc1] at x;cases x),fun x hx=>?_⟩
       rw [hc1] at hx
       have hx:=Option.some.inj hx
       have hg:(Zbr j w.log++[(⟨j,((vw c w.m w.t).th t).item,(((vw c w.m w.t).th t).batch.getD (idxOf ((vw c w.m w.t).th t).batch j) ⟨0,⟨0,0⟩⟩).op,allT c.lo c.hi (((vw c w.m w.t).th t).batch.take (idxOf ((vw c w.m w.t).th t).batch j)) ((vw c w.m w.t).b ((vw c w.m w.t).th t).item 0),Zex w⟩:Mark)]).getD k ZaO=⟨j,((vw c w.m w.t).th t).item,(((vw c w.m w.t).th t).batch.getD (idxOf ((vw c w.m w.t).th t).batch j) ⟨0,⟨0,0⟩⟩).op,allT c.lo c.hi (((vw c w.m w.t).th t).batch.take (idxOf ((vw c w.m w.t).th t).batch j)) ((vw c w.m w.t).b ((vw c w.m w.t).th t).item 0),Zex w⟩:=by
         rw [List.getD_eq_getElem?_getD,List.getElem?_append_right (by omega),hf,Nat.sub_self];rfl
       rw [hg]
       refine ⟨by rw [List.length_append,hf];rfl,hk4.2.1.symm,hk4.2.2.1.symm,hx,?_,?_⟩
       . show last.step<Zex w
         rw [hs];omega
       . show Zex w<=w.steps+1
         rw [hs];exact Int.le_refl _
     . rw [if_neg hlt,List.append_nil]
       have hc1:co1 j=co j:=by rw [e2];exact if_neg (fun x=>hlt (hib.1 x))
       rw [hc1]
       exact ⟨k,op,last,a,b,d,f,fun x hx=>by obtain ⟨g1,g2,g3,g4,g5,g6⟩:=g x hx;exact ⟨g1,g2,g3,g4,g5,by omega⟩⟩
 have hmst:∀ m∈ms,m.step=w.steps+1:=by
   intro m hm
   rw [hms] at hm
   obtain ⟨m0,_,rfl⟩:=List.mem_map.1 hm
   exact hs
 have hment:∀ m∈ms,∃ e∈((vw c w.m w.t).th t).batch,ro t=1/\m.t=e.t/\m.op=e.op/\m.item=((vw c w.m w.t).th t).item:=by
   intro m hm
   rw [hms] at hm
   obtain ⟨m0,hm0,rfl⟩:=List.mem_map.1 hm
   rcases info.1 with ⟨e1,_⟩ | ⟨hr1,e1,_⟩
   . rw [e1] at hm0;cases hm0
   . rw [e1] at hm0
     unfold Zgs at hm0
     obtain ⟨i,hi,hg⟩:=List.mem_iff_getElem.1 hm0
     rw [List.getElem_zipWith] at hg
     rw [List.length_zipWith] at hi
     exact ⟨((vw c w.m w.t).th t).batch[i]'(by omega),List.getElem_mem _,hr1,by rw [<- hg];rfl,by rw [<- hg];rfl,by rw [<- hg];rfl⟩
 have hk4m:∀ m∈ms,InT c m.t/\ro m.t≠0/\((vw c w.m w.t).th m.t).op=m.op/\((vw c w.m w.t).th m.t).item=m.item:=by
   intro m hm
   obtain ⟨e,he,hr1,a,b,d⟩:=hment m hm
   have hk:=W.inv.core.k4 t hro (W.inv.core.k1 t (by omega)).1 e he
   rw [a,b,d]
   exact ⟨W.inv.core.ent t hro e he,hk.1,hk.2.1,hk.2.2.1⟩
 have hopt:((vw c w.m w.t).th t).op=u.th.op:=by rw [hop1,hth]
 have hitt:((vw c w.m w.t).th t).item=u.th.item:=by rw [hit1,hth]
 refine ⟨fun j hj=>?_,fun i h0 h1=>?_,?_,fun m hm=>?_,fun m hm=>?_,fun m hm=>?_,fun h hh=>?_,fun j hj hr=>?_,?_⟩
 . rw [hvth]
   obtain ⟨k,op,last,a,b,d,f,g⟩:=own j hj
   by_cases ej:j=t
   . rw [ej] at a b d f g hj ⊢
     rw [Zag]
     have hopen:op=true:=b.2 hro
     obtain ⟨d1,d2,d3,d4,d5,d6⟩:=d hopen
     cases hd:u.done with
     | false =>
       have hh:(ZdQ w t u).hist=w.hist:=by show (if u.done=true then _ else _)=_;rw [hd];rfl
       have hct:co' t=co1 t:=by rw [hco',hd];rfl
       refine ⟨k,op,last,by rw [hlog,hh];exact a,⟨fun _ x=>?_,fun _=>hopen⟩,fun _=>⟨by rw [<- hopt];exact d1,by rw [<- hitt];exact d2,d3,d4,by rw [hh];exact d5,by rw [hsteps];omega⟩,fun x=>?_,fun x hx=>?_⟩
       . have:=hbt.1 x;rw [hd] at this;cases this
       . rw [hlog];exact f (by rw [<- hct];exact x)
       . rw [hlog,hsteps]
         have:=g x (by rw [<- hct];exact hx)
         rw [hopt,hitt] at this
         exact this
     | true =>
       have hh:(ZdQ w t u).hist=w.hist++[Zkm w t u]:=by show (if u.done=true then _ else _)=_;rw [hd];rfl
       have hc1:co1 t=some u.th.x:=by
         have:=info.2 hd
         rw [hvth,Zag] at this
         exact this
       have hct:co' t=none:=by rw [hco',hd,if_pos rfl,Zag]
       obtain ⟨g1,g2,g3,g4,g5,g6⟩:=g _ hc1
       have hfit:Fits c.lo c.hi (Zbr t (w.log++ms)) k last (Zkm w t u):=by
         refine ⟨by omega,by rw [g2,hopt];rfl,by rw [g3,hitt];rfl,g4,?_,by rw [d1,hopt];rfl,by rw [d2,hitt];rfl,g5,?_⟩
         . show (App u.th.op u.th.x w.c.lo w.c.hi).2=(App u.th.op u.th.x c.lo c.hi).2
           rw [W.cE]
         . show _<=Zex w
           rw [hs];exact g6
       refine ⟨k+1,false,last,?_,⟨fun x=>(by cases x),fun x=>(x (hbt.2 hd)).elim⟩,fun x=>(by cases x),fun _=>?_,fun x hx=>by rw [hct] at hx;cases hx⟩
       . rw [hlog,hh,Zhe a,ZmB]
         unfold ansE
         rw [if_neg (by show ¬(t≠t\/(2:Int)=3);simp),if_neg (by show ¬(2:Int)=1;decide),if_pos ⟨hopen,hfit⟩]
       . rw [hlog];exact g1
   . rw [Zaf ej,hcoj j ej]
     have hskip:ansL c.lo c.hi j (Zbr j (ZdQ w t u).log) (0,false,Zfw) (ZdQ w t u).hist=some (k,op,last):=by
       rw [hlog]
       show ansL c.lo c.hi j (Zbr j (w.log++ms)) (0,false,Zfw) (if u.done=true then w.hist++[Zkm w t u] else w.hist)=_
       split
       . rw [Zhe a,ZmB]
         unfold ansE
         rw [if_pos (.inl (by show t≠j;exact Ne.symm ej))]
       . exact a
     have hb:=hbz j hj ej
     refine ⟨k,op,last,hskip,⟨fun x=>fun y=>b.1 x (hb.1 y),fun x=>b.2 (fun y=>x (hb.2 y))⟩,fun x=>?_,fun x=>by rw [hlog];exact f x,fun x hx=>by rw [hlog,hsteps];exact g x hx⟩
     obtain ⟨d1,d2,d3,d4,d5,d6⟩:=d x
     refine ⟨d1,d2,d3,d4,?_,by rw [hsteps];omega⟩
     show last∈(if u.done=true then w.hist++[Zkm w t u] else w.hist)
     split
     . exact List.mem_append_left _ d5
     . exact d5
 . rw [hlog]
   have old:=Li.cells i h0 h1
   rw [Zk9 old]
   have hCin:Inb c ((vw c w.m w.t).b i 0):=ZpQ old hci
   have hnx:=W.inv.num.1 i 0
   rcases hcells with ⟨e1,e2⟩ | ⟨e1,e2,e3⟩
   . rw [hms,e1]
     show some _=some _
     rw [e2 i]
   . by_cases ei:i=(w.t.getD t.toNat Zaw).item
     . have hr1:ro t=1:=by
         rcases info.1 with ⟨x,_⟩ | ⟨x,_,_⟩
         . exfalso
           rw [x] at e1
           have hb:=W.inv.core.k3 t hro
           obtain ⟨r,hb⟩:=hb
           have hb:((vw c w.m w.t).th t).batch=⟨t,((vw c w.m w.t).th t).op⟩::r:=hb
           rw [hth] at hb
           unfold Zgs at e1
           rw [hb] at e1
           cases e1
         . exact x
       rw [hms,e1,ei,e2]
       unfold Zgs
       rw [<- ei]
       have:=Zq8 hlo i (Zex w) (w.t.getD t.toNat Zaw).batch ((vw c w.m w.t).b i 0) hnx hCin (fun e he=>by
         rw [<- hth] at he
         have hk:=W.inv.core.k4 t hro (W.inv.core.k1 t (by omega)).1 e he
         refine ⟨hL.ops (by rw [hth];exact hp) e he,?_⟩
         have:=Li.may e.t (W.inv.core.ent t hro e he) hk.1
         have h2:((vw c w.m w.t).th e.t).op=e.op:=hk.2.1
         rwa [h2] at this)
       exact this
     . rw [hms,e1,e3 i ei]
       exact Zpo (Ne.symm ei) _ (fun _ _=>rfl) _ _ _
 . rw [hlog,List.pairwise_append]
   refine ⟨Li.srt,?_,fun a ha b hb=>?_⟩
   . rw [List.pairwise_iff_getElem]
     intro i j hi hj _
     rw [hmst _ (List.getElem_mem hi),hmst _ (List.getElem_mem hj)]
     exact Int.le_refl _
   . rw [hmst b hb]
     have:=(Li.steps a ha).2
     omega
 . rw [hsteps]
   rw [hlog] at hm
   rcases List.mem_append.1 hm with hm | hm
   . have:=Li.steps m hm;omega
   . rw [hmst m hm];omega
 . rw [hlog] at hm
   have hsub:∀ h∈w.hist,h∈(ZdQ w t u).hist:=by
     intro h hh
     show h∈(if u.done=true then w.hist++[Zkm w t u] else w.hist)
     split
     . exact List.mem_append_left _ hh
     . exact hh
   rcases List.mem_append.1 hm with hm | hm
   . obtain ⟨h,h1,h2⟩:=Li.asked m hm
     exact ⟨h,hsub h h1,h2⟩
   . obtain ⟨q1,q2,q3,q4⟩:=hk4m m hm
     obtain ⟨k,op,last,a,b,d,_,_⟩:=(Li.ans m.t q1).ex
     obtain ⟨d1,d2,d3,d4,d5,d6⟩:=d (b.2 q2)
     exact ⟨last,hsub _ d5,d3,d4,by rw [d2,q4],by rw [d1,q3],by rw [hmst m hm];omega⟩
 . rw [hlog] at hm
   rcases List.mem_append.1 hm with hm | hm
   . exact Li.inlog m hm
   . obtain ⟨q1,q2,q3,q4⟩:=hk4m m hm
     have hLm:=W.inv.loc m.t q1
     have hpm:((vw c w.m w.t).th m.t).phase≠0:=fun x=>q2 ((W.inv.busy q1).2 x)
     refine ⟨q1,by rw [<- q4];exact hLm.item hpm,by rw [<- q3];exact Li.may m.t q1 q2,?_⟩
     obtain ⟨e,he,_,_,b,_⟩:=hment m hm
     rw [b]
     exact hL.ops (by rw [hth];exact hp) e he
 . have hh:h∈(if u.done=true then w.hist++[Zkm w t u] else w.hist):=hh
   rw [hsteps]
   have old:h∈w.hist->_:=fun hh=>Li.ehist h hh
   split at hh
   . rcases List.mem_append.1 hh with hh | hh
     . have:=old hh;exact ⟨this.1,this.2.1,by omega,this.2.2.2⟩
     . rw [List.mem_singleton] at hh;subst hh
       refine ⟨ht,.inr (.inl rfl),by show Zex w<=_;rw [hs];exact Int.le_refl _,by show 0<=Zex w;rw [hs];omega,?_,?_⟩
       . show Num u.th.op.v
         obtain ⟨r,hb⟩:=W.inv.core.k3 t hro
         have hb:((vw c w.m w.t).th t).batch=⟨t,((vw c w.m w.t).th t).op⟩::r:=hb
         have:=hL.ops (by rw [hth];exact hp) ⟨t,((vw c w.m w.t).th t).op⟩ (by rw [hb];exact List.mem_cons_self ..)
         rw [<- hopt];exact this
       . show Num u.th.x
         have:=(W'.inv.loc t ht).nx
         rw [hvth,Zag] at this
         exact this
   . have:=old hh;exact ⟨this.1,this.2.1,by omega,this.2.2.2⟩
 . rw [hvth]
   by_cases ej:j=t
   . rw [ej,Zag,hop1,<- hth];exact Li.may t ht hro
   . rw [Zaf ej];exact Li.may j hj (fun x=>hr ((hbz j hj ej).2 x))
 . show (if u.done=true then w.hist++[Zkm w t u] else w.hist).Pairwise _
   split
   . exact Li.hist_more (by show w.steps<=Zex w;rw [hs];omega)
   . exact Li.hsrt
theorem Lin.entry (Li:Lin c w ro co) (W:WInv c w n ro pa rt co) (hC:CfgOK c) (hlo:Num c.lo) (hhi:Num c.hi) (hn:n<=200000) (hci:Inb c c.init) {e:SEntry} (he:Zbu c e=0) (hop:Num e.op.v) :
   ∃ ro' pa' rt' co',WInv c (ZcE w e) (n+1) ro' pa' rt' co'/\Lin c (ZcE w e) ro' co':=by
 have hE:=(W.entry hC hlo hhi hn he hop).2
 rcases ZuD he with ⟨k,ht,hi,ho⟩ | ⟨k,ht⟩ | k
 . unfold ZcE
   rw [if_pos k]
   have hI:=Li.invoke W hC ht ho hop
   by_cases hp:(w.t.getD e.t.toNat Zaw).phase=0
   . have h2:=hI.2 hp
     have hth:(vw c w.m w.t).th e.t=w.t.getD e.t.toNat Zaw:=Zi3 ht
     have hl:=W.log;have hh:=W.hist;have hst:=W.steps;have hnw:=W.now
     refine ⟨seta ro e.t 1,pa,seta rt e.t e.t,co,?_,h2⟩
     have hv:=W.inv.invoke hC ht (by rw [hth];exact hp) (i:=e.item) (op:=e.op) (now:=w.now) (wd:=(w.t.getD e.t.toNat Zaw).width) hi hop (by rw [hth])
     unfold invT
     rw [if_neg (fun x=>x hp)]
     refine ⟨W.cE,?_,W.lenW,W.lenB,W.tape,?_,?_,?_,?_,?_⟩
     . show ((w.t.set _ _).length:Int)=_
       rw [List.length_set];exact W.lenT
     . show w.log.length<=_;omega
     . show (w.hist++[_]).length<=_
       rw [List.length_append,List.length_singleton];omega
     . show 0<=w.steps/\w.steps<=((n+1:Nat):Int);omega
     . show 0<=w.now/\w.now<=((n+1:Nat):Int);omega
     . show Inv c (vw c w.m (w.t.set _ _)) _ _ _ _
       rw [ZqP W.lenT ht,W.cE]
       exact hv
   . have h2:=hI.1 hp
     have hl:=W.log;have hh:=W.hist;have hst:=W.steps;have hnw:=W.now
     refine ⟨ro,pa,rt,co,?_,h2⟩
     unfold invT
     rw [if_pos hp]
     refine ⟨W.cE,W.lenT,W.lenW,W.lenB,W.tape,?_,?_,?_,?_,W.inv⟩
     . show w.log.length<=_;omega
     . show (w.hist++[_]).length<=_
       rw [List.length_append,List.length_singleton];omega
     . show 0<=w.steps/\w.steps<=((n+1:Nat):Int);omega
     . show 0<=w.now/\w.now<=((n+1:Nat):Int);omega
 . unfold ZcE
   rw [if_neg (show ¬e.kind=1 by omega),if_pos k]
   have hl:=W.log;have hh:=W.hist;have hst:=W.steps;have hnw:=W.now
   by_cases hp:(w.t.getD e.t.toNat Zaw).phase=0
   . rw [if_pos hp]
     exact ⟨ro,pa,rt,co,⟨W.cE,W.lenT,W.lenW,W.lenB,W.tape,by omega,by omega,by omega,by omega,W.inv⟩,Li⟩
   . rw [if_neg hp]
     exact Li.pick W hC hlo hhi hn hci ht hp
 . have hl:=W.log;have hh:=W.hist;have hst:=W.steps;have hnw:=W.now
   unfold ZcE
   rw [if_neg (show ¬e.kind=1 by omega),if_neg (show ¬e.kind=2 by omega),if_pos k]
   refine ⟨ro,pa,rt,co,⟨W.cE,W.lenT,W.lenW,W.lenB,W.tape,?_,?_,?_,?_,W.inv⟩,⟨fun j hj=>(Li.ans j hj).same rfl rfl (Int.le_refl _),Li.cells,Li.srt,Li.steps,Li.asked,Li.inlog,Li.ehist,Li.may,Li.hsrt⟩⟩
   . show w.log.length<=_;omega
   . show w.hist.length<=_;omega
   . show 0<=w.steps/\w.steps<=((n+1:Nat):Int);omega
   . show 0<=Zac .i64 (w.now+1)/\Zac .i64 (w.now+1)<=((n+1:Nat):Int)
     rw [Zas (by omega) (by omega)];omega
theorem Lin.entries (hC:CfgOK c) (hlo:Num c.lo) (hhi:Num c.hi) (hci:Inb c c.init):∀ {l:List SEntry} {w:Wld} {n:Nat} {ro pa rt:Int->Int} {co:Int->Option Int},WInv c w n ro pa rt co->Lin c w ro co->n+l.length<=200000->(∀ e∈l,Zbu c e=0/\Num e.op.v) ->
   ∃ ro' pa' rt' co',WInv c (l.foldl ZcE w) (n+l.length) ro' pa' rt' co'/\Lin c (l.foldl ZcE w) ro' co'
 | [],w,n,ro,pa,rt,co,W,Li,_,_=>⟨ro,pa,rt,co,W,Li⟩
 | e :: l, w, n, ro, pa, rt, co, W, Li, hn, he => by
   rw [List.length_cons] at hn
   obtain ⟨ro',pa',rt',co',W',Li'⟩:=Li.entry W hC hlo hhi (by omega) hci (he e (List.mem_cons_self ..)).1 (he e (List.mem_cons_self ..)).2
   have:=Lin.entries hC hlo hhi hci W' Li' (by omega) (fun x hx=>he x (List.mem_cons_of_mem _ hx))
   rw [List.length_cons,show n+(l.length+1)=n+1+l.length by omega]
   exact this
theorem ZzY (hC:CfgOK c) (hci:Num c.init) {d:List Int}:Lin c (newW c d) (fun _=>0) (fun _=>none):=by
 have hth:=hC.threads
 have hit:=hC.items
 refine ⟨fun j hj=>⟨0,false,Zfw,rfl,⟨fun x=>(by cases x),fun x=>(x rfl).elim⟩,fun x=>(by cases x),fun _=>rfl,fun x hx=>(by cases hx)⟩,fun i h0 h1=>?_,List.Pairwise.nil,fun m hm=>(by cases hm),fun m hm=>(by cases hm),fun m hm=>(by cases hm),fun h hh=>(by cases hh),fun j _ h=>(h rfl).elim,List.Pairwise.nil⟩
 show some c.init=some (vwB c (Zc2 c).words i 0)
 have hb:=ZcJ hC
 unfold vwB
 rw [if_pos ⟨⟨h0,h1⟩,Int.le_refl 0,by omega⟩]
 rw [(ZnR (t:=0) (i:=0) hC hci ⟨by omega,by omega⟩ ⟨by omega,by omega⟩).cells i h0 h1]
end
end Go.Proofs.Mill
namespace Go.Proofs.Mill
def ZwR:Wld:=Wld.mk (Config.mk (0:Int) (0:Int) (0:Int) (0:Int) (0:Int) (0:Int) (0:Int) (0:Int) false (0:Int) (0:Int) (0:Int)) (Memo.mk ([]:List Int) ([]:List (List Entry))) ([]:List Thread) (0:Int) (0:Int) (Tape.mk ([]:List Int) (0:Int)) ([]:List Mark) ([]:List Event)
theorem Zsr {c:Config} {l:List SEntry} (h:(allE c l).2=0):CfgOK c/\l.length<=65536/\∀ e∈l,Zbu c e=0:=by
 obtain ⟨e,he,hE⟩:=ZgU c
 unfold allE at h
 rw [he,Option.getD_some] at h
 by_cases h0:e≠0
 . rw [if_pos h0] at h;exact (h0 h).elim
 rw [if_neg h0] at h
 have h0:=Classical.not_not.1 h0
 by_cases h1:l.length>65536
 . rw [if_pos h1] at h;exact absurd h (by decide)
 rw [if_neg h1] at h
 refine ⟨hE.1 h0,by omega,?_⟩
 cases hb:ZeT c 0 l with
 | none=>exact ZsM hb
 | some y =>
   rw [hb] at h
   have key:∀ (l:List SEntry) (i:Nat),ZeT c i l=some y->y.2≠0:=by
     intro l
     induction l with
     | nil=>intro i h;cases h
     | cons e l ih =>
       intro i h
       unfold ZeT at h
       by_cases g:Zbu c e=0
       . rw [if_pos g] at h;exact ih _ h
       . rw [if_neg g] at h;rw [<- Option.some.inj h];exact g
   exact (key l 0 hb h).elim
theorem ZBC {c:Config} {l:List SEntry} {d:List Int} (hc:Num c.init/\Num c.lo/\Num c.hi) (hl:∀ e∈l,Num e.op.v) (hd:d.length<=4294967296) :
   (ZcO c l d=some (ZwR,allE c l)/\(allE c l).2≠0) \/
   (ZcO c l d=some (l.foldl ZcE (newW c d),0,0)/\allE c l=(0,0)/\CfgOK c/\l.length<=65536/\(∀ e∈l,Zbu c e=0)/\∃ ro pa rt co,WInv c (l.foldl ZcE (newW c d)) l.length ro pa rt co/\Lin c (l.foldl ZcE (newW c d)) ro co):=by
 by_cases h:(allE c l).2=0
 . obtain ⟨hC,h1,h2⟩:=Zsr h
   have hB:Inb c c.init:=fun hb=>hC.bounds hb
   have hW:=Zp0 hC hc.1 hd
   have hE:=WInv.entries hC hc.2.1 hc.2.2 hW (l:=l) (by omega) (fun e he=>⟨h2 e he,hl e he⟩)
   obtain ⟨ro,pa,rt,co,w1,w2⟩:=Lin.entries hC hc.2.1 hc.2.2 hB hW (ZzY hC hc.1 (d:=d)) (l:=l) (by omega) (fun e he=>⟨h2 e he,hl e he⟩)
   rw [Nat.zero_add] at w1
   exact .inr ⟨Zr4 hC h1 h2 hd hE.1,ZrN hC h1 h2,hC,h1,h2,ro,pa,rt,co,w1,w2⟩
 . refine .inl ⟨?_,h⟩
   unfold ZcO
   rw [show Zgc (c,l)=some (allE c l) from ZmI c l]
   simp only []
   rw [ZeV h]
   rfl
end Go.Proofs.Mill
namespace Go.Proofs.Mill
def ZeC (c:Config):Int:=20+8*c.depth+c.layers*(20+2*c.spin)
def ZmK (c:Config):Int:=20+4*ZeC c*c.threads
theorem Zn7 {c:Config} (h:CfgOK c):20<=ZeC c/\ZeC c<=232:=by
 have h1:=h.depth
 have h2:=h.layers
 have h3:=h.spin
 have h4:0<=c.layers*(20+2*c.spin):=Int.mul_nonneg (by omega) (by omega)
 have h5:c.layers*(20+2*c.spin)<=3*60:=Int.mul_le_mul (by omega) (by omega) (by omega) (by omega)
 unfold ZeC
 omega
theorem Zs3 {c:Config} (h:CfgOK c):20<=ZmK c/\ZmK c<=14868/\0<=4*ZeC c*c.threads/\4*ZeC c*c.threads<=14848:=by
 have h1:=h.threads
 have h2:=Zn7 h
 have h4:0<=4*ZeC c*c.threads:=Int.mul_nonneg (by omega) (by omega)
 have h5:4*ZeC c*c.threads<=928*16:=Int.mul_le_mul (by omega) (by omega) (by omega) (by omega)
 unfold ZmK
 omega
theorem ZuP {c:Config} (h:CfgOK c):ZiS c=some (ZeC c):=by
 have h1:=h.depth
 have h2:=h.layers
 have h3:=h.spin
 have h4:0<=c.layers*(20+2*c.spin):=Int.mul_nonneg (by omega) (by omega)
 have h5:c.layers*(20+2*c.spin)<=3*60:=Int.mul_le_mul (by omega) (by omega) (by omega) (by omega)
 unfold ZiS ZeC
 rw [Zas (n:=2*c.spin) (by omega) (by omega),Zas (n:=20+2*c.spin) (by omega) (by omega),Zas (n:=8*c.depth) (by omega) (by omega),Zas (n:=20+8*c.depth) (by omega) (by omega),Zas (n:=c.layers*(20+2*c.spin)) (by omega) (by omega),Zas (by omega) (by omega)]
theorem Zu4 {c:Config} (h:CfgOK c):ZjN c=some (ZmK c):=by
 have h2:=Zn7 h
 have h3:=Zs3 h
 unfold ZjN
 simp only [ZiX,ZuP h]
 rw [Zas (n:=4*ZeC c) (by omega) (by omega),Zas (n:=4*ZeC c*c.threads) (by omega) (by omega),Zas (by omega) (by omega)]
 rfl
def sE (t:Nat):SEntry:=⟨2,t,0,⟨0,0⟩⟩
def ZaP (T m:Nat):List SEntry:=(List.range m).map fun i=>sE (i % T)
theorem Zc7 {T m:Nat}:(ZaP T m).length=m:=by simp [ZaP]
theorem ZqW {T m:Nat}:ZaP T (m+1)=ZaP T m++[sE (m % T)]:=by simp [ZaP,List.range_succ]
theorem Zp7 {T:Nat}:ZaP T 0=[]:=rfl
theorem Zy8 {T m i:Nat} (h:i<m):(ZaP T m).getD i ZaE=sE (i % T):=by
 simp [ZaP,List.getD_eq_getElem?_getD,h]
theorem Zws {c:Config} (h:CfgOK c):ZkI c=some (ZaP c.threads.toNat c.threads.toNat):=by
 have h1:=h.threads
 have key:Zmp ([],c.threads,0)=some (ZaP c.threads.toNat c.threads.toNat):=by
   refine ZeL (step:=ZgL) (fun i=>(ZaP c.threads.toNat i,c.threads,(i:Int))) c.threads.toNat (fun i hi=>?_) ?_
   . show Ze4 (ZaP c.threads.toNat i) c.threads (i:Int)=some (.inl (ZaP c.threads.toNat (i+1),c.threads,((i+1:Nat):Int)))
     unfold Ze4
     rw [decide_eq_true (show (i:Int)<c.threads by omega),Zbb (by rw [Zc7];simp;omega),Zas (by omega) (by omega)]
     simp only [cond_true,ZqW,sE,Nat.mod_eq_of_lt hi,Int.natCast_add,Int.natCast_one]
   . show Ze4 (ZaP c.threads.toNat c.threads.toNat) c.threads (c.threads.toNat:Int)=_
     unfold Ze4
     rw [decide_eq_false (show ¬((c.threads.toNat:Nat):Int)<c.threads by omega)]
     rfl
 unfold ZkI
 rw [key]
theorem ZzC {T r i:Nat} (hi:i<T):(r*T+i) % T=i:=by
 rw [Nat.mul_comm,Nat.mul_add_mod,Nat.mod_eq_of_lt hi]
theorem Zt6 {c:Config} (h:CfgOK c) (n:Int) {r:Nat} (hr:r*c.threads.toNat<=65536):Zly (n,ZaP c.threads.toNat (r*c.threads.toNat),ZaP c.threads.toNat c.threads.toNat,ZaP c.threads.toNat c.threads.toNat,((ZaP c.threads.toNat c.threads.toNat).length:Int),0) =
    if (r+1)*c.threads.toNat<=65536 then some (.inr (n,ZaP c.threads.toNat ((r+1)*c.threads.toNat),ZaP c.threads.toNat c.threads.toNat)) else some (.inl (ZaP c.threads.toNat 65536)):=by
  have h1:=h.threads
  rw [Zc7]
  generalize hT:c.threads.toNat=T at *
  have hmul:(r+1)*T=r*T+T:=by rw [Nat.add_mul];omega
  have hstep:∀ i,i<T->r*T+i<65536->ZdU (n,ZaP T (r*T+i),ZaP T T,ZaP T T,(T:Int),(i:Int))=some (.inl (n,ZaP T (r*T+(i+1)),ZaP T T,ZaP T T,(T:Int),((i+1:Nat):Int))):=by
    intro i hi hlt
    show Zdd n (ZaP T (r*T+i)) (ZaP T T) (ZaP T T) (T:Int) (i:Int)=_
    unfold Zdd
    rw [Zc7,Zc7,decide_eq_true (show (i:Int)<T by omega),decide_eq_true (show (0:Int)<=i by omega),decide_eq_false (show ¬((r*T+i:Nat):Int)>=65536 by omega),Zbb (by simp;omega),Zas (by omega) (by omega),Int.toNat_natCast,Zy8 hi]
    simp only [cond_true,cond_false,<- Nat.add_assoc,ZqW,ZzC hi,Nat.mod_eq_of_lt hi,Int.natCast_add,Int.natCast_one]
  by_cases hle:(r+1)*T<=65536
  . rw [if_pos hle]
    have:=ZeL (step:=ZdU) (fun i=>(n,ZaP T (r*T+i),ZaP T T,ZaP T T,(T:Int),(i:Int))) T (y:=.inr (n,ZaP T ((r+1)*T),ZaP T T)) (fun i hi=>hstep i hi (by omega)) (by
      show Zdd n (ZaP T (r*T+T)) (ZaP T T) (ZaP T T) (T:Int) (T:Int)=_
      unfold Zdd
      rw [decide_eq_false (by omega),hmul]
      rfl)
    exact this
  . rw [if_neg hle]
    have:=ZeL (step:=ZdU) (fun i=>(n,ZaP T (r*T+i),ZaP T T,ZaP T T,(T:Int),(i:Int))) (65536-r*T) (y:=.inl (ZaP T 65536)) (fun i hi=>hstep i (by omega) (by omega)) (by
      show Zdd n (ZaP T (r*T+(65536-r*T))) (ZaP T T) (ZaP T T) (T:Int) ((65536-r*T:Nat):Int)=_
      unfold Zdd
      rw [Zc7,Zc7,decide_eq_true (show ((65536-r*T:Nat):Int)<T by omega),decide_eq_true (show (0:Int)<=((65536-r*T:Nat):Int) by omega),decide_eq_true (show ((r*T+(65536-r*T):Nat):Int)>=65536 by omega)]
      rw [show r*T+(65536-r*T)=65536 by omega]
      rfl)
    exact this
theorem Zvk {c:Config} (h:CfgOK c) (n:Int) (hn:n<4000000000):Zhi c n=some (ZaP c.threads.toNat (min (n.toNat*c.threads.toNat) 65536)):=by
 have h1:=h.threads
 have key:∀ (k r:Nat),r*c.threads.toNat<=65536->k<4000000000->Zc9 ((k:Int),ZaP c.threads.toNat (r*c.threads.toNat),ZaP c.threads.toNat c.threads.toNat)=some (ZaP c.threads.toNat (min ((r+k)*c.threads.toNat) 65536)):=by
   intro k
   induction k with
   | zero =>
     intro r hr _
     unfold Zc9
     rw [Zb2]
     have e:ZdS (((0:Nat):Int),ZaP c.threads.toNat (r*c.threads.toNat),ZaP c.threads.toNat c.threads.toNat)=some (.inr (ZaP c.threads.toNat (r*c.threads.toNat))):=rfl
     rw [e,Nat.add_zero,Nat.min_eq_left hr]
   | succ k ih =>
     intro r hr hk
     unfold Zc9
     rw [Zb2]
     have e:ZdS (((k+1:Nat):Int),ZaP c.threads.toNat (r*c.threads.toNat),ZaP c.threads.toNat c.threads.toNat)=ZeI ((k+1:Nat):Int) (ZaP c.threads.toNat (r*c.threads.toNat)) (ZaP c.threads.toNat c.threads.toNat):=rfl
     rw [e]
     unfold ZeI
     rw [decide_eq_true (show ((k+1:Nat):Int)>0 by omega),Zt6 h _ hr]
     by_cases hle:(r+1)*c.threads.toNat<=65536
     . rw [if_pos hle]
       simp only [cond_true]
       rw [show ((k+1:Nat):Int)-1=k by omega,Zas (n:=(k:Int)) (by omega) (by omega)]
       have:=ih (r+1) hle (by omega)
       unfold Zc9 at this
       rw [this,show r+1+k=r+(k+1) by omega]
     . rw [if_neg hle]
       simp only [cond_true]
       have:65536<=(r+(k+1))*c.threads.toNat:=by
         have h5:(r+1)*c.threads.toNat<=(r+(k+1))*c.threads.toNat:=Nat.mul_le_mul_right _ (by omega)
         omega
       rw [Nat.min_eq_right this]
 unfold Zhi
 simp only [ZhL,Zws h]
 by_cases hneg:n<=0
 . have:Zc9 (n,[],ZaP c.threads.toNat c.threads.toNat)=some []:=by
     unfold Zc9
     rw [Zb2]
     have e:ZdS (n,[],ZaP c.threads.toNat c.threads.toNat)=some (.inr []):=by
       show ZeI n [] (ZaP c.threads.toNat c.threads.toNat)=_
       unfold ZeI
       rw [decide_eq_false (by omega)]
       rfl
     rw [e]
   rw [this,show n.toNat=0 by omega]
   simp [Zp7]
 . have:=key n.toNat 0 (by omega) (by omega)
   rw [show ((n.toNat:Nat):Int)=n by omega,Nat.zero_mul,Zp7,Nat.zero_add] at this
   rw [this]
end Go.Proofs.Mill
namespace Go.Proofs.Mill
def phi (c:Config) (th:Int->Thread):Nat->Int
 | 0=>0
 | n+1=>phi c th n+mu c (th n)
def StLe (v:Vw) (j k:Int):Prop:=ZDs j v.b v.l (v.th j)\/rkQ v.b j (v.th j)+1<=k
structure Gd (c:Config) (w:Wld) (n:Nat):Prop where
  inv:∃ ro pa rt co,WInv c w n ro pa rt co
  two:Inv2 c (vw c w.m w.t)
  own:∀ j,InT c j->Own2 c ((vw c w.m w.t).th j)
section
variable {c:Config} {w:Wld} {n:Nat}
end
section
variable {c:Config}
theorem ZqV {w:Wld} (h:∀ j,InT c j->((vw c w.m w.t).th j).phase=0):∀ {l:List SEntry},(∀ e∈l,e.kind=2/\InT c e.t)->l.foldl ZcE w=w
 | [],_=>rfl
 | e :: l, he => by
   obtain ⟨k,ht⟩:=he e (List.mem_cons_self ..)
   have hp:=h e.t ht
   rw [Zi3 ht] at hp
   have es:ZcE w e=w:=by
     unfold ZcE
     rw [if_neg (show ¬e.kind=1 by omega),if_pos k,if_pos hp]
   rw [List.foldl_cons,es]
   exact ZqV h (fun x hx=>he x (List.mem_cons_of_mem _ hx))
theorem ZxA (T a b:Nat):ZaP T (a*T+b)=ZaP T (a*T)++ZaP T b:=by
 unfold ZaP
 rw [List.range_add,List.map_append,List.map_map]
 congr 1
 apply List.map_congr_left
 intro k hk
 show sE ((a*T+k) % T)=sE (k % T)
 rw [Nat.mul_comm,Nat.mul_add_mod]
theorem Zgu (hC:CfgOK c) {m:Nat}:∀ e∈ZaP c.threads.toNat m,e.kind=2/\InT c e.t/\Zbu c e=0/\Num e.op.v:=by
 intro e he
 have hT:=hC.threads
 unfold ZaP at he
 rw [List.mem_map] at he
 obtain ⟨k,_,rfl⟩:=he
 have:=Nat.mod_lt k (show 0<c.threads.toNat by omega)
 have ht:InT c (sE (k % c.threads.toNat)).t:=⟨by show (0:Int)<=((k % c.threads.toNat:Nat):Int);omega,by show ((k % c.threads.toNat:Nat):Int)<_;omega⟩
 have hk:(sE (k % c.threads.toNat)).kind=2:=rfl
 refine ⟨hk,ht,?_,⟨by show (-9223372036854775808:Int)<=0;omega,by show (0:Int)<=_;omega⟩⟩
 unfold InT at ht
 unfold Zbu
 rw [if_neg (by omega),if_neg (by omega),if_neg (by omega),if_pos hk]
end
end Go.Proofs.Mill
namespace Go.Proofs.Mill
theorem Zr3 {σ ρ α:Type} {step:σ->α->Option (σ⊕ρ)} {f:σ->α->σ} (I:σ->Prop):∀ (l:List α) (st:σ),I st->(∀ st,I st->∀ x∈l,step st x=some (.inl (f st x))/\I (f st x))->Zcq step l st=some (.inl (l.foldl f st))
 | [],st,_,_=>rfl
 | x :: l, st, h0, h => by
   obtain ⟨h1,h2⟩:=h st h0 x (List.mem_cons_self ..)
   unfold Zcq
   rw [h1]
   exact Zr3 I l (f st x) h2 fun st hs y hy=>h st hs y (List.mem_cons_of_mem _ hy)
def Zzb (m:Mark):Prop:=Num m.op.v
def ZoW (e:Event):Prop:=Num e.op.v/\Num e.prior
def Zjy (c:Config):Prop:=Num c.init/\Num c.lo/\Num c.hi
theorem ZB6 {c:Config} (o:(Zaq celConfig).Ok c):Zjy c:=by
 have h1:∀ x:Int,AV.int .i64 x∈celConfig.enc c->Num x:=fun x hx=>ZCX (o _ hx)
 refine ⟨h1 _ ?_,h1 _ ?_,h1 _ ?_⟩ <;> simp [celConfig,Zcx,Zam,Zau,celBool]
def Zo0 (lo hi:Int) (st:Int×Bool) (m:Mark):Int×Bool:=((App m.op st.1 lo hi).1,st.2 && st.1 == m.prior)
def replay (c:Config) (l:List Mark) (k:Int):Int×Bool:=(l.filter fun m=>m.item == k).foldl (Zo0 c.lo c.hi) (c.init,true)
def evts (l:List Event) (k:Int):List Event:=l.filter fun e=>e.t == k && e.kind != 3
theorem ZuG {σ:Type} {it:ItV} {step:σ->it.α->Option (σ⊕Empty)} {z:it.κ×σ} {y:σ} (hb:it.okB z.1=true) (h:Zcq step (it.els z.1) z.2=some (.inl y)):Zi8 it step z=some y:=by
 unfold Zi8
 rw [hb,h]
 rfl
theorem ZAw {σ ρ:Type} {it:ItV} {step:σ->it.α->Option (σ⊕ρ)} {z:it.κ×σ} {y:Option (σ⊕ρ)} (hb:it.okB z.1=true) (h:Zcq step (it.els z.1) z.2=y):ZoP it step z=y:=by
 unfold ZoP
 rw [hb,h]
 rfl
theorem Zrf (c:Config):∀ (L:List Mark) (z:Int×Bool),L.foldl (fun (st:Config×Int×Bool) m=>(st.1,Zo0 st.1.lo st.1.hi st.2 m)) (c,z)=(c,L.foldl (Zo0 c.lo c.hi) z)
 | [],_=>rfl
 | m::L,z=>by rw [List.foldl_cons,List.foldl_cons];exact Zrf c L _
theorem Zrm {c:Config} {l:List Mark} (k:Int) (hc:Zjy c) (hl:∀ m∈l,Zzb m) (h:l.length<=4294967296):Zhu c l k=some (replay c l k):=by
 have hf:=Zr3 (ρ:=Empty) (step:=ZdM) (f:=fun (st:Config×Int×Bool) m=>(st.1,Zo0 st.1.lo st.1.hi st.2 m)) (fun st=>st.1=c/\Num st.2.1) (l.filter fun m=>m.item == k) (c,c.init,true) ⟨rfl,hc.1⟩ (by
   rintro ⟨c',x,b⟩ ⟨rfl,hx⟩ m hm
   have hm:=hl m (List.mem_filter.1 hm).1
   simp only at hx
   refine ⟨?_,rfl,ZoI hx hm hc.2.1⟩
   simp only [ZdM,Zjk,Zcf,Zkd hx hm hc.2.1 hc.2.2]
   cases b <;> rfl)
 rw [Zrf] at hf
 have hw:Zjm ((l,k),c,c.init,true)=some (c,replay c l k):=ZuG (it:=itReplay) (Zbb h) hf
 simp only [Zhu,hw]
def fit (c:Config) (m:Mark) (call e:Event):Bool :=
 (e.op.tag == call.op.tag && (e.op.v == call.op.v && true)) && (e.item == call.item) && (m.op.tag == e.op.tag && (m.op.v == e.op.v && true)) && (m.item == e.item) && (m.prior == e.prior) && (e.did == (App e.op e.prior c.lo c.hi).2) && decide (call.step<m.step) && decide (m.step<=e.step)
theorem ZCZ {a b c d e f g h i j:Bool}:(bif a && (b && true) && (c && true) then bif d && (e && true) && (f && true) then bif g then bif h then bif i then some j else some false else some false else some false else some false else some false) =
    some ((a && (b && true)) && c && (d && (e && true)) && f && g && h && i && j):=by
  cases a <;> cases b <;> cases c <;> cases d <;> cases e <;> cases f <;> cases g <;> cases h <;> cases i <;> rfl
theorem ZpU {c:Config} (m:Mark) (call:Event) {e:Event} (hc:Zjy c) (he:ZoW e):Zgk c m call e=some (fit c m call e):=by
 simp only [Zgk,Zcf,Zkd he.2 he.1 hc.2.1 hc.2.2,Ze6,ZkE,fit]
 rw [ZCZ]
 rw [BEq.comm (a:=m.op.tag),BEq.comm (a:=m.op.v),BEq.comm (a:=m.item),BEq.comm (a:=e.did)]
theorem Zu3 (l:List Mark) (k:Int) (h:l.length<=4294967296):Zdp (l,k)=some (l.filter fun m=>m.t == k):=by
 have key:∀ (L A:List Mark),A.length+L.length<=4294967296->Zcq ZbP L A=some (.inl (A++L)):=by
   intro L
   induction L with
   | nil=>intro A _;rw [List.append_nil];rfl
   | cons m L ih =>
     intro A hA
     rw [List.length_cons] at hA
     unfold Zcq
     simp only [ZbP,Zes,List.length_cons,List.length_nil]
     rw [Zbb (by omega)]
     simp only [cond_true]
     rw [ih _ (by rw [List.length_append,List.length_cons,List.length_nil];omega),List.append_assoc]
     rfl
 have hle:=List.length_filter_le (fun m:Mark=>m.t == k) l
 have hw:Zel ((l,k),[])=some (l.filter fun m=>m.t == k):=ZuG (it:=itOwn) (Zbb h) (by
   have:=key (l.filter fun m=>m.t == k) [] (by rw [List.length_nil];omega)
   rw [List.nil_append] at this
   exact this)
 simp only [Zdp,Zc8,ZeN,hw]
theorem Zn0 {σ ρ:Type} {step:σ->Option (σ⊕(ρ⊕Bool))} (st:Nat->σ) (n:Nat) (P:Nat->Prop) {y:ρ} (h1:∀ i,i<n->(P i/\step (st i)=some (.inl (st (i+1))))\/(¬P i/\step (st i)=some (.inr (.inr false)))) (h2:step (st n)=some (.inr (.inl y))) :
   (ZaA step (st 0)=some (.inl y)/\∀ i,i<n->P i)\/(ZaA step (st 0)=some (.inr false)/\¬∀ i,i<n->P i):=by
 have key:∀ k,k<=n->(Loops step (st (n-k)) (.inl y)/\∀ i,n-k<=i->i<n->P i)\/(Loops step (st (n-k)) (.inr false)/\¬∀ i,n-k<=i->i<n->P i):=by
   intro k
   induction k with
   | zero=>intro _;exact .inl ⟨.done _ _ h2,fun i h1 h2=>by omega⟩
   | succ k ih =>
     intro hk
     have hs:n-(k+1)+1=n-k:=by omega
     rcases h1 (n-(k+1)) (by omega) with ⟨p,h⟩ | ⟨p,h⟩
     . rw [hs] at h
       rcases ih (by omega) with ⟨l,q⟩ | ⟨l,q⟩
       . refine .inl ⟨.more _ _ _ h l,fun i hi hn=>?_⟩
         by_cases e:i=n-(k+1)
         . rw [e];exact p
         . exact q i (by omega) hn
       . exact .inr ⟨.more _ _ _ h l,fun hall=>q fun i hi hn=>hall i (by omega) hn⟩
     . exact .inr ⟨.done _ _ h,fun hall=>p (hall _ (Nat.le_refl _) (by omega))⟩
 have:=key n (Nat.le_refl _)
 rw [Nat.sub_self] at this
 rcases this with ⟨l,q⟩ | ⟨l,q⟩
 . exact .inl ⟨whileM_some.2 l,fun i hi=>q i (by omega) hi⟩
 . exact .inr ⟨whileM_some.2 l,fun hall=>q fun i _ hi=>hall i hi⟩
def Srt (l:List Mark):Prop:=∀ i,i<l.length-1->¬(l.getD (i+1) ZaO).step<(l.getD i ZaO).step
theorem Zrl {l:List Mark} (h:l.length<=4294967296):(ZbJ l ()=some true/\Srt l)\/(ZbJ l ()=some false/\¬Srt l):=by
 cases hl:l with
 | nil =>
   refine .inl ⟨?_,fun i hi=>by simp at hi⟩
   have:ZbB ([],(),-1)=some (.inl ()):=by
     unfold ZbB
     rw [Zb2]
     rfl
   simp only [ZbJ]
   rw [show Zac .i64 ((([]:List Mark).length:Int)-1)=-1 from Zas (by simp) (by simp),this]
 | cons m0 l0 =>
   rw [<- hl]
   have hn:0<l.length:=by rw [hl];simp
   have w:Zac .i64 ((l.length:Int)-1)=((l.length-1-0:Nat):Int):=by rw [Zas (by omega) (by omega)];omega
   have key:=Zn0 (step:=Zbe) (fun j=>(l,(),((l.length-1-j:Nat):Int))) (l.length-1) (fun j=>¬(l.getD (l.length-1-j) ZaO).step<(l.getD (l.length-1-j-1) ZaO).step) (y:=()) (fun j hj=>?_) ?_
   . simp only [ZbJ,w]
     rcases key with ⟨k1,k2⟩ | ⟨k1,k2⟩
     . have k1:ZbB (l,(),((l.length-1-0:Nat):Int))=some (.inl ()):=k1
       rw [k1]
       refine .inl ⟨rfl,fun i hi=>?_⟩
       have:=k2 (l.length-1-(i+1)) (by omega)
       rw [show l.length-1-(l.length-1-(i+1))=i+1 by omega,Nat.add_sub_cancel] at this
       exact this
     . have k1:ZbB (l,(),((l.length-1-0:Nat):Int))=some (.inr false):=k1
       rw [k1]
       refine .inr ⟨rfl,fun hs=>k2 fun j hj=>?_⟩
       have:=hs (l.length-1-j-1) (by omega)
       rw [show l.length-1-j-1+1=l.length-1-j by omega] at this
       exact this
   . have b0:decide (((l.length-1-j:Nat):Int)>0)=true:=decide_eq_true (by omega)
     have b1:decide ((0:Int)<=((l.length-1-j:Nat):Int))=true:=decide_eq_true (by omega)
     have b2:decide (((l.length-1-j:Nat):Int)<(l.length:Int))=true:=decide_eq_true (by omega)
     have w1:Zac .i64 (((l.length-1-j:Nat):Int)-1)=((l.length-1-j-1:Nat):Int):=by rw [Zas (by omega) (by omega)];omega
     have b3:decide ((0:Int)<=((l.length-1-j-1:Nat):Int))=true:=decide_eq_true (by omega)
     have b4:decide (((l.length-1-j-1:Nat):Int)<(l.length:Int))=true:=decide_eq_true (by omega)
     simp only [Zbe,Zcz,b0,b1,b2,w1,b3,b4,cond_true,Int.toNat_natCast,Ziq,Zll]
     by_cases a:(l.getD (l.length-1-j) ZaO).step<(l.getD (l.length-1-j-1) ZaO).step
     . refine .inr ⟨fun h=>h a,?_⟩
       rw [decide_eq_true a]
       rfl
     . refine .inl ⟨a,?_⟩
       rw [decide_eq_false a,show l.length-1-(j+1)=l.length-1-j-1 by omega]
       cases decide ((l.getD (l.length-1-j) ZaO).step>(l.getD (l.length-1-j-1) ZaO).step) <;> rfl
   . have b0:decide (((l.length-1-(l.length-1):Nat):Int)>0)=false:=decide_eq_false (by omega)
     simp only [Zbe,Zcz,b0,cond_false]
end Go.Proofs.Mill
namespace Go.Proofs.Mill
theorem Zv3 {c:Config} {own:List Mark} {n:Nat} {last e:Event} (hn:n<own.length):fit c (own.getD n ZaO) last e=true↔Fits c.lo c.hi own n last e:=by
 unfold fit Fits
 obtain ⟨a1,a2⟩:∃ a:Op,a=e.op:=⟨_,rfl⟩
 obtain ⟨b1,b2⟩:∃ a:Op,a=last.op:=⟨_,rfl⟩
 obtain ⟨d1,d2⟩:∃ a:Mark,a=own.getD n ZaO:=⟨_,rfl⟩
 rw [<- d2,<- a2,<- b2]
 obtain ⟨m1,m2,m3,m4,m5⟩:=d1
 obtain ⟨p1,p2⟩:=a1
 obtain ⟨q1,q2⟩:=b1
 obtain ⟨r1,r2⟩:=m3
 simp only [Bool.and_eq_true,beq_iff_eq,decide_eq_true_eq,Bool.and_true,Op.mk.injEq]
 constructor
 . rintro ⟨⟨⟨⟨⟨⟨⟨⟨x1,x2⟩,x3⟩,x4,x5⟩,x6⟩,x7⟩,x8⟩,x9⟩,x10⟩
   exact ⟨hn,⟨x4,x5⟩,x6,x7,x8,⟨x1.symm,x2.symm⟩,x3.symm,x9,x10⟩
 . rintro ⟨_,⟨x4,x5⟩,x6,x7,x8,⟨x1,x2⟩,x3,x9,x10⟩
   exact ⟨⟨⟨⟨⟨⟨⟨⟨x1.symm,x2.symm⟩,x3.symm⟩,x4,x5⟩,x6⟩,x7⟩,x8⟩,x9⟩,x10⟩
theorem ZmH {c:Config} {j:Int} {own:List Mark} (hc:Zjy c) (ho:own.length<=4294967296):∀ (l:List Event) (n:Nat) (op:Bool) (last:Event),(∀ e∈l,ZoW e)->n<=own.length ->
   Zcq Zck (evts l j) (c,false,own.drop n,last,op)=match ansL c.lo c.hi j own (n,op,last) l with
     | some (n',op',last')=>some (.inl (c,false,own.drop n',last',op'))
     | none=>some (.inr false)
 | [],n,op,last,_,_=>rfl
 | e :: l, n, op, last, he, hn => by
   have he':=fun x hx=>he x (List.mem_cons_of_mem _ hx)
   have hee:=he e (List.mem_cons_self ..)
   have hev:evts (e::l) j=if e.t=j/\e.kind≠3 then e::evts l j else evts l j:=by
     unfold evts
     rw [List.filter_cons]
     by_cases g:e.t=j/\e.kind≠3
     . rw [if_pos g,if_pos (by simp [g.1,g.2])]
     . rw [if_neg g,if_neg (by simp only [Bool.and_eq_true,beq_iff_eq,bne_iff_ne];exact g)]
   show _=match (match ansE c.lo c.hi j own (n,op,last) e with | some s=>ansL c.lo c.hi j own s l | none=>none) with
     | some (n',op',last')=>some (Sum.inl (c,false,own.drop n',last',op'))
     | none=>some (Sum.inr false)
   rw [hev]
   unfold ansE
   by_cases g:e.t=j/\e.kind≠3
   . rw [if_pos g,if_neg (show ¬(e.t≠j\/e.kind=3) from fun h=>h.elim (fun x=>x g.1) g.2)]
     unfold Zcq
     have hT:Zck (c,false,own.drop n,last,op) e=Zf0 c false (own.drop n) last op e:=rfl
     rw [hT]
     unfold Zf0
     by_cases k:e.kind=1
     . rw [Zbf k,if_pos k]
       cases op with
       | true=>rw [if_pos rfl];rfl
       | false =>
         rw [if_neg (show ¬(false=true) by decide)]
         exact ZmH hc ho l n true e he' hn
     . rw [ZaS k,if_neg k]
       cases op with
       | false=>rw [if_neg (show ¬(false=true/\_) from fun h=>absurd h.1 (by decide))];rfl
       | true =>
         by_cases hlt:n<own.length
         . have hd:own.drop n=own.getD n ZaO::own.drop (n+1):=by
             rw [List.drop_eq_getElem_cons hlt,List.getD_eq_getElem?_getD,List.getElem?_eq_getElem hlt,Option.getD_some]
           have hl2:(own.drop (n+1)).length<=4294967296:=by rw [List.length_drop];omega
           rw [hd]
           generalize hr:own.drop (n+1)=rest at hl2
           have hz:(((own.getD n ZaO::rest).length:Int) == 0)=false:=by rw [List.length_cons];simp;omega
           have hp:decide ((0:Int)<((own.getD n ZaO::rest).length:Int))=true:=decide_eq_true (by rw [List.length_cons];omega)
           have hp1:decide ((1:Int)<=((own.getD n ZaO::rest).length:Int))=true:=decide_eq_true (by rw [List.length_cons];omega)
           have hp2:decide (((own.getD n ZaO::rest).length:Int)<=((own.getD n ZaO::rest).length:Int))=true:=decide_eq_true (Int.le_refl _)
           have hdr:List.drop (Int.toNat (1:Int)) (List.take ((own.getD n ZaO::rest).length:Int).toNat (own.getD n ZaO::rest))=rest:=by
             rw [Int.toNat_natCast,List.take_length];rfl
           have hans:Zgx (c,(own.getD n ZaO::rest).getD (Int.toNat (0:Int)) ZaO,last,e)=some (fit c (own.getD n ZaO) last e):=ZpU _ _ hc hee
           simp only [hz,hp,hp1,hp2,hdr,hans,cond_true,cond_false,Bool.not_true]
           by_cases f:Fits c.lo c.hi own n last e
           . rw [(Zv3 hlt).2 f,if_pos ⟨by trivial,f⟩]
             show Zcq Zck (evts l j) (c,false,rest,last,false)=_
             rw [<- hr]
             exact ZmH hc ho l (n+1) false last he' hlt
           . have:fit c (own.getD n ZaO) last e=false:=by
               cases hb:fit c (own.getD n ZaO) last e with
               | false=>rfl
               | true=>exact (f ((Zv3 hlt).1 hb)).elim
             rw [this,if_neg (fun x=>f x.2)]
             rfl
         . rw [List.drop_of_length_le (by omega),if_neg (fun x=>hlt x.2.1)]
           rfl
   . rw [if_neg g,if_pos (show e.t≠j\/e.kind=3 from by
       by_cases x:e.t=j
       . by_cases y:e.kind=3
         . exact .inr y
         . exact (g ⟨x,y⟩).elim
       . exact .inl x)]
     exact ZmH hc ho l n op last he' hn
def AnsP (lo hi j:Int) (own:List Mark) (l:List Event):Prop :=
 ∃ n op last,ansL lo hi j own (0,false,Zfw) l=some (n,op,last)/\(own.length=n\/(own.length=n+1/\op=true/\(own.getD n ZaO).op=last.op/\(own.getD n ZaO).item=last.item/\last.step<(own.getD n ZaO).step))
instance (lo hi j:Int) (own:List Mark) (l:List Event):Decidable (AnsP lo hi j own l):=Classical.propDecidable _
theorem Zv0 {lo hi j:Int} {own:List Mark}:∀ {l:List Event} {s s':Nat×Bool×Event},ansL lo hi j own s l=some s'->s.1<=own.length->s'.1<=own.length
 | [],s,s',h,hs=>by cases h;exact hs
 | e :: l, s, s', h, hs => by
   have h:(match ansE lo hi j own s e with | some s=>ansL lo hi j own s l | none=>none)=some s':=h
   cases h1:ansE lo hi j own s e with
   | none=>rw [h1] at h;cases h
   | some v =>
     rw [h1] at h
     refine Zv0 h ?_
     unfold ansE at h1
     split at h1
     . rw [<- Option.some.inj h1];exact hs
     . split at h1
       . split at h1
         . cases h1
         . rw [<- Option.some.inj h1];exact hs
       . split at h1
         . rename_i f
           rw [<- Option.some.inj h1]
           exact f.2.1
         . cases h1
theorem ZqO {c:Config} {l:List Mark} {h:List Event} (j:Int) (hc:Zjy c) (he:∀ e∈h,ZoW e) (hl:l.length<=4294967296) (hh:h.length<=4294967296) :
   ZgY c l h j=some (decide (AnsP c.lo c.hi j (Zbr j l) h)):=by
 have hle:=List.length_filter_le (fun m:Mark=>m.t == j) l
 have hcol:Zdw (l,j)=some (Zbr j l):=Zu3 l j hl
 obtain ⟨own,ho⟩:∃ own,own=Zbr j l:=⟨_,rfl⟩
 have hol:own.length<=4294967296:=by rw [ho];unfold Zbr;omega
 have hf:=ZmH (c:=c) (j:=j) (own:=own) hc hol h 0 false Zfw he (Nat.zero_le _)
 rw [List.drop_zero] at hf
 have hW:Zit ((h,j),c,false,own,Event.mk (0:Int) (0:Int) (0:Int) (Op.mk (0:Int) (0:Int)) (0:Int) false (0:Int),false)=Zcq Zck (evts h j) (c,false,own,Zfw,false) :=
   ZAw (it:=itEvents) (Zbb hh) rfl
 unfold ZgY
 rw [hcol,<- ho]
 simp only []
 rw [hW,hf]
 cases ha:ansL c.lo c.hi j own (0,false,Zfw) h with
 | none =>
   simp only []
   rw [decide_eq_false]
   rintro ⟨n,op,last,h1,_⟩
   rw [ha] at h1;cases h1
 | some s =>
   obtain ⟨n,op,last⟩:=s
   have hn:n<=own.length:=Zv0 ha (Nat.zero_le _)
   have key:AnsP c.lo c.hi j own h↔(own.length=n\/(own.length=n+1/\op=true/\(own.getD n ZaO).op=last.op/\(own.getD n ZaO).item=last.item/\last.step<(own.getD n ZaO).step)):=by
     constructor
     . rintro ⟨n',op',last',h1,h2⟩
       rw [ha] at h1
       cases h1
       exact h2
     . intro h2
       exact ⟨n,op,last,ha,h2⟩
   simp only []
   by_cases a:own.length=n
   . have e1:(((own.drop n).length:Int) == 0)=true:=by rw [List.length_drop,a,Nat.sub_self];rfl
     rw [e1,decide_eq_true (key.2 (.inl a))];rfl
   . have e1:(((own.drop n).length:Int) == 0)=false:=beq_eq_false_iff_ne.2 (by rw [List.length_drop];omega)
     rw [e1]
     simp only [cond_false]
     by_cases a2:own.length=n+1
     . have e3:decide (((own.drop n).length:Int)>1)=false:=decide_eq_false (by rw [List.length_drop];omega)
       have b4:decide ((0:Int)<((own.drop n).length:Int))=true:=decide_eq_true (by rw [List.length_drop];omega)
       have hd:(own.drop n).getD (Int.toNat (0:Int)) ZaO=own.getD n ZaO:=by
         rw [List.getD_eq_getElem?_getD,List.getD_eq_getElem?_getD,List.getElem?_drop]
         rfl
       rw [e3,b4,hd]
       simp only [cond_true,cond_false,Ze6,ZkE]
       cases op with
       | false =>
         have hdf:decide (AnsP c.lo c.hi j own h)=false:=decide_eq_false (by
           intro x
           rcases key.1 x with y | y
           . exact a y
           . exact absurd y.2.1 (by decide))
         rw [hdf]
         rfl
       | true =>
         simp only [Bool.not_true,cond_false]
         generalize own.getD n ZaO=m at key
         obtain ⟨m1,m2,⟨m3,m4⟩,m5,m6⟩:=m
         obtain ⟨l1,l2,l3,⟨l4,l5⟩,l6,l7,l8⟩:=last
         by_cases x:m3=l4/\m4=l5/\m2=l3
         . obtain ⟨rfl,rfl,rfl⟩:=x
           simp only [beq_self_eq_true,Bool.and_true,cond_true]
           congr 1
           rw [decide_eq_decide,key]
           constructor
           . intro y;exact .inr ⟨a2,rfl,rfl,rfl,y⟩
           . rintro (y | y)
             . exact (a y).elim
             . exact y.2.2.2.2
         . have:(m3 == l4 && (m4 == l5 && true) && (m2 == l3 && true))=false:=by
             rw [Bool.eq_false_iff]
             intro y
             simp only [Bool.and_eq_true,beq_iff_eq,Bool.and_true] at y
             exact x ⟨y.1.1,y.1.2,y.2⟩
           rw [this]
           simp only [cond_false]
           rw [decide_eq_false]
           intro y
           rcases key.1 y with z | z
           . exact a z
           . obtain ⟨_,_,z1,z2,_⟩:=z
             have z1:(⟨m3,m4⟩:Op)=⟨l4,l5⟩:=z1
             cases z1
             exact x ⟨rfl,rfl,z2⟩
     . have e3:decide (((own.drop n).length:Int)>1)=true:=decide_eq_true (by rw [List.length_drop];omega)
       rw [e3]
       simp only [cond_true]
       rw [decide_eq_false]
       intro x
       rcases key.1 x with y | y
       . exact a y
       . exact a2 y.1
structure LinP (w:Wld):Prop where
  srt:Srt w.log
  items:∀ i:Nat,(i:Int)<w.c.items->(replay w.c w.log i).2=true/\(replay w.c w.log i).1=w.m.words.getD (pl w.c i 0).toNat 0
  threads:∀ j:Nat,(j:Int)<w.c.threads->AnsP w.c.lo w.c.hi j (Zbr j w.log) w.hist
instance (w:Wld):Decidable (LinP w):=Classical.propDecidable _
structure WldOK (w:Wld):Prop where
  cfg:CfgOK w.c
  conf:Zjy w.c
  marks:∀ m∈w.log,Zzb m
  events:∀ e∈w.hist,ZoW e
  log:w.log.length<=1000000
  hist:w.hist.length<=1000000
  words:(w.m.words.length:Int)=sizeOf w.c
theorem Zxe {w:Wld} (h:WldOK w):(ZgB (w,w.c.items,0)=some (.inl w)/\∀ i:Nat,i<w.c.items.toNat->((replay w.c w.log i).2=true/\(replay w.c w.log i).1=w.m.words.getD (pl w.c i 0).toNat 0)) \/
   (ZgB (w,w.c.items,0)=some (.inr false)/\¬∀ i:Nat,i<w.c.items.toNat->((replay w.c w.log i).2=true/\(replay w.c w.log i).1=w.m.words.getD (pl w.c i 0).toNat 0)):=by
 have hi:=h.cfg.items
 have hlog:=h.log
 refine Zn0 (step:=Zc1) (fun j=>(w,w.c.items,(j:Int))) w.c.items.toNat (fun i=>(replay w.c w.log i).2=true/\(replay w.c w.log i).1=w.m.words.getD (pl w.c i 0).toNat 0) (y:=w) (fun j hj=>?_) ?_
 . have b:decide ((j:Int)<w.c.items)=true:=decide_eq_true (by omega)
   have w1:Zac .i64 ((j:Int)+1)=((j+1:Nat):Int):=by rw [Zas (by omega) (by omega)];omega
   have hcl:=Zmh h.cfg (i:=(j:Int)) (by omega) (by omega)
   have hcell:ZcM (w.c,(j:Int))=some (pl w.c j 0):=by
     show Zgj _ _=_
     rw [Zkl h.cfg]
     unfold cellAt
     rw [if_neg (by omega)]
     simp [pl]
   have hld:ZbX (w.m,pl w.c j 0)=some (w.m.words.getD (pl w.c j 0).toNat 0,0):=by
     have e:pl w.c j 0=(j:Int)*Zaz w.c:=by simp [pl]
     have:=h.words
     exact ZhU (m:=w.m) (by omega) (show pl w.c (j:Int) 0<(w.m.words.length:Int) by omega)
   simp only [Zc1,Zgl,b,cond_true,w1,Zdz,Zrm (l:=w.log) (j:Int) h.conf h.marks (by omega),hcell,hld,bne_self_eq_false,cond_false]
   cases h2:(replay w.c w.log j).2 with
   | false=>exact .inr ⟨fun x=>absurd x.1 (by decide),rfl⟩
   | true =>
     simp only [Bool.not_true,cond_false]
     by_cases h3:(replay w.c w.log j).1=w.m.words.getD (pl w.c j 0).toNat 0
     . rw [Zf7 h3];exact .inl ⟨⟨by trivial,h3⟩,rfl⟩
     . rw [ZeV h3];exact .inr ⟨fun x=>h3 x.2,rfl⟩
 . have b:decide ((w.c.items.toNat:Int)<w.c.items)=false:=decide_eq_false (by omega)
   simp only [Zc1,Zgl,b,cond_false]
theorem ZtQ {w:Wld} (h:WldOK w):(ZfZ (w,w.c.threads,0)=some (.inl ())/\∀ i:Nat,i<w.c.threads.toNat->AnsP w.c.lo w.c.hi i (Zbr i w.log) w.hist) \/
   (ZfZ (w,w.c.threads,0)=some (.inr false)/\¬∀ i:Nat,i<w.c.threads.toNat->AnsP w.c.lo w.c.hi i (Zbr i w.log) w.hist):=by
 have hi:=h.cfg.threads
 have hlog:=h.log
 have hhist:=h.hist
 refine Zn0 (step:=ZcG) (fun j=>(w,w.c.threads,(j:Int))) w.c.threads.toNat (fun i=>AnsP w.c.lo w.c.hi i (Zbr i w.log) w.hist) (y:=()) (fun j hj=>?_) ?_
 . have b:decide ((j:Int)<w.c.threads)=true:=decide_eq_true (by omega)
   have w1:Zac .i64 ((j:Int)+1)=((j+1:Nat):Int):=by rw [Zas (by omega) (by omega)];omega
   simp only [ZcG,Zf1,b,cond_true,w1,Zdg,ZqO (c:=w.c) (l:=w.log) (h:=w.hist) (j:Int) h.conf h.events (by omega) (by omega)]
   by_cases g:AnsP w.c.lo w.c.hi j (Zbr j w.log) w.hist
   . rw [decide_eq_true g];exact .inl ⟨g,rfl⟩
   . rw [decide_eq_false g];exact .inr ⟨g,rfl⟩
 . have b:decide ((w.c.threads.toNat:Int)<w.c.threads)=false:=decide_eq_false (by omega)
   simp only [ZcG,Zf1,b,cond_false]
theorem ZrF {w:Wld} (h:WldOK w):Zfk w=some (decide (LinP w)):=by
 obtain ⟨e,he,hE⟩:=ZgU w.c
 have he0:=hE.2 h.cfg
 subst he0
 have e1:Zdo w.c=some 0:=(Zk4 w.c).trans he
 have hlog:=h.log
 have hi:=h.cfg.items
 have hth:=h.cfg.threads
 unfold Zfk
 rw [e1]
 simp only [bne_self_eq_false,cond_false,ZcP]
 rcases Zrl (l:=w.log) (by omega) with ⟨s1,s2⟩ | ⟨s1,s2⟩
 . rw [s1]
   simp only [Bool.not_true,cond_false]
   rcases Zxe h with ⟨i1,i2⟩ | ⟨i1,i2⟩
   . rw [i1]
     simp only []
     rcases ZtQ h with ⟨t1,t2⟩ | ⟨t1,t2⟩
     . rw [t1]
       simp only []
       rw [decide_eq_true ⟨s2,fun i hi'=>i2 i (by omega),fun j hj=>t2 j (by omega)⟩]
     . rw [t1]
       simp only []
       rw [decide_eq_false (fun x=>t2 fun j hj=>x.threads j (by omega))]
   . rw [i1]
     simp only []
     rw [decide_eq_false (fun x=>i2 fun i hi'=>x.items i (by omega))]
 . rw [s1]
   simp only [Bool.not_false,cond_true]
   rw [decide_eq_false (fun x=>s2 x.srt)]
end Go.Proofs.Mill
namespace Go.Proofs.Mill
theorem Zlc {c:Config} {i:Int}:∀ {a:List Mark} {x y:Int},Zew c i x a=some y->(a.filter fun m=>m.item == i).foldl (Zo0 c.lo c.hi) (x,true)=(y,true)
 | [],x,y,h=>by cases h;rfl
 | m :: a, x, y, h => by
   rw [Zm0] at h
   rw [List.filter_cons]
   by_cases e:m.item=i
   . rw [if_neg (fun k=>k e)] at h
     rw [if_pos (by simp [e])]
     by_cases g:m.prior=x/\Inb c (App m.op x c.lo c.hi).1
     . rw [if_pos g] at h
       show (a.filter fun m=>m.item == i).foldl (Zo0 c.lo c.hi) ((App m.op x c.lo c.hi).1,true && x == m.prior)=_
       rw [g.1,beq_self_eq_true,Bool.and_self]
       exact Zlc h
     . rw [if_neg g] at h;cases h
   . rw [if_pos e] at h
     rw [if_neg (by simp [e])]
     exact Zlc h
section
variable {c:Config} {w:Wld} {n:Nat} {ro pa rt:Int->Int} {co:Int->Option Int}
theorem Lin.ok (Li:Lin c w ro co) (W:WInv c w n ro pa rt co) (hC:CfgOK c) (hc:Zjy c) (hn:n<=60000):WldOK w:=by
 have hl:=W.log
 have hh:=W.hist
 exact ⟨by rw [W.cE];exact hC,by rw [W.cE];exact hc,fun m hm=>(Li.inlog m hm).2.2.2,fun e he=>(Li.ehist e he).2.2.2.2,by omega,by omega,by rw [W.cE];exact W.lenW⟩
theorem Lin.answered (Li:Lin c w ro co) (W:WInv c w n ro pa rt co) {j:Int} (hj:InT c j):AnsP c.lo c.hi j (Zbr j w.log) w.hist:=by
 obtain ⟨k,op,last,a,b,d,f,g⟩:=(Li.ans j hj).ex
 refine ⟨k,op,last,a,?_⟩
 cases hco:co j with
 | none=>exact .inl (f hco)
 | some x =>
   obtain ⟨g1,g2,g3,g4,g5,g6⟩:=g x hco
   have hr:ro j≠0:=by
     intro h0
     have:=(W.inv.core.k0 j h0).1
     rw [hco] at this;cases this
   have ho:=b.2 hr
   obtain ⟨d1,d2,_⟩:=d ho
   exact .inr ⟨g1,ho,by rw [g2,d1],by rw [g3,d2],g5⟩
theorem ZCG {l:List Mark} (h:l.Pairwise (fun a b=>a.step<=b.step)):Srt l:=by
 intro i hi hlt
 have h1:i<l.length:=by omega
 have h2:i+1<l.length:=by omega
 have:=List.pairwise_iff_getElem.1 h i (i+1) h1 h2 (by omega)
 rw [List.getD_eq_getElem?_getD,List.getD_eq_getElem?_getD,List.getElem?_eq_getElem h1,List.getElem?_eq_getElem h2,Option.getD_some,Option.getD_some] at hlt
 omega
theorem Lin.linear (Li:Lin c w ro co) (W:WInv c w n ro pa rt co) (hC:CfgOK c):LinP w:=by
 have cE:=W.cE
 refine ⟨ZCG Li.srt,fun i hi=>?_,fun j hj=>?_⟩
 . rw [cE] at hi ⊢
   have h1:=Li.cells i (by omega) hi
   have h2:=Zlc h1
   have hb:=ZcJ hC
   have hr:(vw c w.m w.t).b i 0=w.m.words.getD (pl c i 0).toNat 0:=rd_B ⟨⟨by omega,hi⟩,Int.le_refl 0,by omega⟩
   unfold replay
   rw [h2]
   exact ⟨rfl,hr⟩
 . rw [cE] at hj ⊢
   exact Li.answered W ⟨by omega,hj⟩
end
section
variable {c:Config} {w:Wld} {n:Nat} {ro pa rt:Int->Int} {co:Int->Option Int}
end
end Go.Proofs.Mill
namespace Go.Proofs.Mill
structure IsLast (l:List SEntry) (k:Nat):Prop where
  le:k<=l.length
  at_:k=0\/(l.getD (k-1) ZaE).kind=1
  none:∀ j,k<=j->j<l.length->(l.getD j ZaE).kind≠1
end Go.Proofs.Mill
