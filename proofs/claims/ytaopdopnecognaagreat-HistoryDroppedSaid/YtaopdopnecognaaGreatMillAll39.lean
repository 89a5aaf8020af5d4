/- Parts of the proof: MillQLin2, MillQHist, MillQHist2, MillQRunAll, MillQHist3. -/
import Derived.Test.YtaopdopnecognaaGreatMillAll38
import Derived.Test.YtaopdopnecognaaGreatMillFDb
import Derived.Test.YtaopdopnecognaaGreatMillAll4
import Derived.KernelRfl
set_option linter.all false
/- Whatever is done, the ops are as if done one after another: kept by every entry. -/
namespace Go.Proofs.Mill
set_option linter.all false
theorem Zvi (h:Thread):(Ze0 h).phase=4∨(Ze0 h).phase=7∨(Ze0 h).phase=11∨(Ze0 h).phase=2:=by
  unfold Ze0
  split
  · exact .inl rfl
  · have:=ZeU { h with phase:=4,held:=h.held++[h.node],node:=h.node / 2,at_:=0 }
    have e:(Zjj { h with phase:=4,held:=h.held++[h.node],node:=h.node / 2 }).phase=(ZeS { h with phase:=4,held:=h.held++[h.node],node:=h.node / 2,at_:=0 }).phase:=rfl
    rw [e]
    omega
theorem Zig (h:Thread):(ZeS h).phase=7∨(ZeS h).phase=11∨(ZeS h).phase=2:=by
  have:=ZeU h
  omega
section
variable {c:Config} {t:Int} {v v':Vw} {h:Thread} {log:List Mark} {done:Bool}
theorem Za9 {h':Thread}:(put v t h').th t=h':=Zag
theorem Zie (g:Thread):((ZbD g).phase=0↔Zd9 g=true):=by
  have:=Zhp g
  cases hd:Zd9 g with
  | true=>rw [hd] at this;simp at this ⊢;exact this.1
  | false=>rw [hd] at this;simp at this ⊢;omega
theorem Tr.idle (T:Tr c t v h v' log done) (hv:v.th t=h) (hp:h.phase≠0):((v'.th t).phase=0↔done=true):=by
  have no:∀ {p:Int},p≠0→(p=0↔false=true):=fun h=>⟨fun x=>(h x).elim,fun x=>by cases x⟩
  cases T with
  | nop s=>rw [hv];exact no hp
  | start p s=>rw [Za9];cases s <;> exact no (by dsimp only;decide)
  | load p=>rw [Za9];exact no (by dsimp only;decide)
  | casF p hw hw2=>rw [Za9];exact no (by dsimp only;decide)
  | same p e=>rw [Za9];exact Zie _
  | cas p e=>rw [Za9];exact Zie _
  | on25 p o=>rw [Za9];cases o <;> exact no (by dsimp only;decide)
  | look1 p k=>rw [Za9];exact no (by dsimp only;decide)
  | look0 p=>rw [Za9];exact no (by dsimp only;decide)
  | lookL p=>rw [Za9];exact no (by have:=Zig { h with at_:=0 };show (ZeS { h with at_:=0 }).phase≠0;omega)
  | take p n e=>rw [Za9];exact no (by have:=Zvi h;omega)
  | takeF p=>rw [Za9];exact no (by dsimp only;decide)
  | join p n e=>rw [Za9];exact no (by have:=Zig { h with phase:=4,stop:=h.node,at_:=0 };show (ZeS { h with phase:=4,stop:=h.node,at_:=0 }).phase≠0;omega)
  | joinF p=>rw [Za9];exact no (by dsimp only;decide)
  | seeF p a e=>rw [Za9];exact no (by dsimp only;decide)
  | seeD p a k=>rw [Za9];exact no (by dsimp only;decide)
  | close p a e=>rw [Za9];exact no (by have:=Zig { h with at_:=Zad IntKind.i64 (h.at_+1) };show (ZeS { h with at_:=Zad IntKind.i64 (h.at_+1) }).phase≠0;omega)
  | closeF p=>rw [Za9];exact no (by dsimp only;decide)
  | takeB p w=>rw [Za9];exact no (by dsimp only;decide)
  | clear p a=>rw [Za9];exact no (by have:=Zig { h with at_:=Zad IntKind.i64 (h.at_+1) };show (ZeS { h with at_:=Zad IntKind.i64 (h.at_+1) }).phase≠0;omega)
  | box11 p=>rw [Za9];exact no (by dsimp only;decide)
  | dep p n=>rw [Za9];exact no (by dsimp only;decide)
  | told p e=>rw [Za9];exact no (by dsimp only;decide)
  | res p=>rw [Za9];exact Zie _
  | tell1 p a w=>rw [Za9];exact no (by dsimp only;decide)
  | tell2 p a w=>rw [Za9];exact Zie _
  | box17 p=>rw [Za9];exact no (by dsimp only;decide)
  | open18 p=>rw [Za9];exact no (by dsimp only;decide)
  | swap20 p s w=>rw [Za9];exact no (by dsimp only;decide)
  | swap23 p s=>rw [Za9];exact no (by dsimp only;decide)
  | shut20 p e=>rw [Za9];exact no (by dsimp only;decide)
  | shutF p e=>rw [Za9];exact no (by dsimp only;decide)
  | cap21 p w e=>rw [Za9];exact no (by dsimp only;decide)
  | capF p=>rw [Za9];exact no (by dsimp only;decide)
  | absorb p w=>rw [Za9];exact no (by dsimp only;decide)
  | spinF p e=>rw [Za9];exact no (by dsimp only;decide)
  | spinL p e=>rw [Za9];exact no (by dsimp only;omega)
  | spinO p e=>rw [Za9];exact no (by dsimp only;decide)
  | open24 p=>rw [Za9];exact no (by dsimp only;decide)
  | leave p e hw hw2 o=>rw [Za9];cases o <;> exact no (by dsimp only;decide)
  | leaveF p e=>rw [Za9];exact no (by dsimp only;decide)
def Zy5 (c:Config) (v v':Vw) (h:Thread) (log:List Mark):Prop :=
  (log=[]∧∀ i,v'.b i 0=v.b i 0)∨(log=ZfB c h (v.b h.item 0)∧v'.b h.item 0=allT c.lo c.hi h.batch (v.b h.item 0)∧∀ i,i≠h.item→v'.b i 0=v.b i 0)
theorem Tr.cells (T:Tr c t v h v' log done) (hy:h.phase=3→h.y=allT c.lo c.hi h.batch h.x) (hn:0≤ZaE c) (hat:h.phase=8∨h.phase=10→ZbJ h≠0):Zy5 c v v' h log:=by
  have sm:∀ {a b:List Mark},(∀ i,v'.b i 0=v.b i 0)→Zy5 c v v' h []:=fun x=>.inl ⟨rfl,x⟩
  have wn:∀ {i m w:Int},m≠0→∀ k,setb v.b i m w k 0=v.b k 0:=fun hm k=>Zdv (fun x=>hm x.2.symm)
  cases T with
  | same p e=>exact .inr ⟨rfl,e.symm,fun i _=>rfl⟩
  | cas p e =>
    refine .inr ⟨by rw [e],?_,fun i hi=>Zdv (fun x=>hi x.1)⟩
    show setb v.b h.item 0 h.y h.item 0=_
    rw [Zfx,hy p,e]
  | take p n e=>exact .inl ⟨rfl,wn (by omega)⟩
  | join p n e=>exact .inl ⟨rfl,wn (by omega)⟩
  | close p a e=>exact .inl ⟨rfl,wn (hat (.inl p))⟩
  | clear p a=>exact .inl ⟨rfl,wn (hat (.inr p))⟩
  | dep p n=>exact .inl ⟨rfl,wn (by omega)⟩
  | swap20 p s w=>exact .inl ⟨rfl,wn (by omega)⟩
  | swap23 p s=>exact .inl ⟨rfl,wn (by omega)⟩
  | nop s=>exact .inl ⟨rfl,fun i=>rfl⟩
  | start p s=>exact .inl ⟨rfl,fun i=>rfl⟩
  | load p=>exact .inl ⟨rfl,fun i=>rfl⟩
  | casF p hw hw2=>exact .inl ⟨rfl,fun i=>rfl⟩
  | on25 p o=>exact .inl ⟨rfl,fun i=>rfl⟩
  | look1 p k=>exact .inl ⟨rfl,fun i=>rfl⟩
  | look0 p=>exact .inl ⟨rfl,fun i=>rfl⟩
  | lookL p=>exact .inl ⟨rfl,fun i=>rfl⟩
  | takeF p=>exact .inl ⟨rfl,fun i=>rfl⟩
  | joinF p=>exact .inl ⟨rfl,fun i=>rfl⟩
  | seeF p a e=>exact .inl ⟨rfl,fun i=>rfl⟩
  | seeD p a k=>exact .inl ⟨rfl,fun i=>rfl⟩
  | closeF p=>exact .inl ⟨rfl,fun i=>rfl⟩
  | takeB p w=>exact .inl ⟨rfl,fun i=>rfl⟩
  | box11 p=>exact .inl ⟨rfl,fun i=>rfl⟩
  | told p e=>exact .inl ⟨rfl,fun i=>rfl⟩
  | res p=>exact .inl ⟨rfl,fun i=>rfl⟩
  | tell1 p a w=>exact .inl ⟨rfl,fun i=>rfl⟩
  | tell2 p a w=>exact .inl ⟨rfl,fun i=>rfl⟩
  | box17 p=>exact .inl ⟨rfl,fun i=>rfl⟩
  | open18 p=>exact .inl ⟨rfl,fun i=>rfl⟩
  | shut20 p e=>exact .inl ⟨rfl,fun i=>rfl⟩
  | shutF p e=>exact .inl ⟨rfl,fun i=>rfl⟩
  | cap21 p w e=>exact .inl ⟨rfl,fun i=>rfl⟩
  | capF p=>exact .inl ⟨rfl,fun i=>rfl⟩
  | absorb p w=>exact .inl ⟨rfl,fun i=>rfl⟩
  | spinF p e=>exact .inl ⟨rfl,fun i=>rfl⟩
  | spinL p e=>exact .inl ⟨rfl,fun i=>rfl⟩
  | spinO p e=>exact .inl ⟨rfl,fun i=>rfl⟩
  | open24 p=>exact .inl ⟨rfl,fun i=>rfl⟩
  | leave p e hw hw2 o=>exact .inl ⟨rfl,fun i=>rfl⟩
  | leaveF p e=>exact .inl ⟨rfl,fun i=>rfl⟩
end
structure LinT (c:Config) (w:Wld) (th:Thread) (ro:Int) (co:Option Int) (j:Int):Prop where
  ex:∃ (k:Nat) (op:Bool) (last:Event),ansL c.lo c.hi j (Za2 j w.log) (0,false,ZeI) w.hist=some (k,op,last)∧(op=true↔ro≠0) ∧
    (op=true→last.op=th.op∧last.item=th.item∧last.kind=1∧last.t=j∧last∈w.hist∧last.step≤w.steps) ∧
    (co=none→(Za2 j w.log).length=k) ∧
    (∀ x,co=some x→(Za2 j w.log).length=k+1∧((Za2 j w.log).getD k ZaJ).op=th.op∧((Za2 j w.log).getD k ZaJ).item=th.item∧((Za2 j w.log).getD k ZaJ).prior=x∧last.step<((Za2 j w.log).getD k ZaJ).step∧((Za2 j w.log).getD k ZaJ).step≤w.steps)
structure Lin (c:Config) (w:Wld) (ro:Int→Int) (co:Int→Option Int):Prop where
  ans:∀ j,InT c j→LinT c w ((vw c w.m w.t).th j) (ro j) (co j) j
  cells:∀ i,0≤i→i<c.items→Zc5 c i c.init w.log=some ((vw c w.m w.t).b i 0)
  srt:w.log.Pairwise (fun a b=>a.step≤b.step)
  steps:∀ m∈w.log,1≤m.step∧m.step≤w.steps
  asked:∀ m∈w.log,∃ h∈w.hist,h.kind=1∧h.t=m.t∧h.item=m.item∧h.op=m.op∧h.step<m.step
  inlog:∀ m∈w.log,InT c m.t∧(0≤m.item∧m.item<c.items)∧ZgD m.op c.bounded=true∧Num m.op.v
  ehist:∀ h∈w.hist,InT c h.t∧(h.kind=1∨h.kind=2∨h.kind=3)∧h.step≤w.steps∧0≤h.step∧Num h.op.v∧Num h.prior
  may:∀ j,InT c j→ro j≠0→ZgD ((vw c w.m w.t).th j).op c.bounded=true
  hsrt:w.hist.Pairwise (fun a b=>a.step≤b.step)
section
variable {c:Config} {w:Wld} {n:Nat} {ro pa rt ro' pa' rt':Int→Int} {co co':Int→Option Int} {t:Int}
theorem LinT.skip {th:Thread} {r:Int} {cc:Option Int} {j:Int} (L:LinT c w th r cc j) {w':Wld} {h:Event} (hh:h.t≠j∨h.kind=3) (e1:w'.log=w.log) (e2:w'.hist=w.hist++[h]) (e3:w.steps≤w'.steps):LinT c w' th r cc j:=by
  obtain ⟨k,op,last,a,b,d,f,g⟩:=L.ex
  refine ⟨k,op,last,?_,b,fun x=>?_,by rw [e1];exact f,fun x hx=>?_⟩
  · rw [e1,e2,Zgo a,ZlB]
    unfold ansE
    rw [if_pos hh]
  · obtain ⟨d1,d2,d3,d4,d5,d6⟩:=d x
    exact ⟨d1,d2,d3,d4,by rw [e2];exact List.mem_append_left _ d5,by omega⟩
  · rw [e1]
    obtain ⟨g1,g2,g3,g4,g5,g6⟩:=g x hx
    exact ⟨g1,g2,g3,g4,g5,by omega⟩
theorem LinT.same {th:Thread} {r:Int} {cc:Option Int} {j:Int} (L:LinT c w th r cc j) {w':Wld} (e1:Za2 j w'.log=Za2 j w.log) (e2:w'.hist=w.hist) (e3:w.steps≤w'.steps):LinT c w' th r cc j:=by
  obtain ⟨k,op,last,a,b,d,f,g⟩:=L.ex
  refine ⟨k,op,last,by rw [e1,e2];exact a,b,fun x=>?_,by rw [e1];exact f,fun x hx=>?_⟩
  · obtain ⟨d1,d2,d3,d4,d5,d6⟩:=d x
    exact ⟨d1,d2,d3,d4,by rw [e2];exact d5,by omega⟩
  · rw [e1]
    obtain ⟨g1,g2,g3,g4,g5,g6⟩:=g x hx
    exact ⟨g1,g2,g3,g4,g5,by omega⟩
theorem Lin.hist_more (Li:Lin c w ro co) {h:Event} (hs:w.steps≤h.step):(w.hist++[h]).Pairwise (fun a b=>a.step≤b.step):=by
  rw [List.pairwise_append]
  refine ⟨Li.hsrt,List.pairwise_singleton _ _,fun a ha b hb=>?_⟩
  rw [List.mem_singleton] at hb
  subst hb
  have:=(Li.ehist a ha).2.2.1
  omega
theorem Lin.invoke (Li:Lin c w ro co) (W:WInv c w n ro pa rt co) (hC:CfgOK c) {e:SEntry} (ht:InT c e.t) (ho:ZgD e.op c.bounded=true) (hop:Num e.op.v):(¬(w.t.getD e.t.toNat Zax).phase=0→Lin c (invT w e) ro co)∧((w.t.getD e.t.toNat Zax).phase=0→Lin c (invT w e) (seta ro e.t 1) co):=by
  have hth:(vw c w.m w.t).th e.t=w.t.getD e.t.toNat Zax:=ZkA ht
  have hst:=W.steps
  constructor
  · intro hp
    have e0:invT w e={ w with hist:=w.hist++[⟨3,e.t,e.item,e.op,0,false,w.steps⟩] }:=by unfold invT;rw [if_pos hp]
    rw [e0]
    refine ⟨fun j hj=>(Li.ans j hj).skip (.inr rfl) rfl rfl (Int.le_refl _),Li.cells,Li.srt,Li.steps,fun m hm=>?_,Li.inlog,fun h hh=>?_,Li.may,Li.hist_more (Int.le_refl _)⟩
    · obtain ⟨h,h1,h2⟩:=Li.asked m hm
      exact ⟨h,List.mem_append_left _ h1,h2⟩
    · rcases List.mem_append.1 hh with hh | hh
      · exact Li.ehist h hh
      · rw [List.mem_singleton] at hh;subst hh
        exact ⟨ht,.inr (.inr rfl),Int.le_refl _,hst.1,hop,ZbK (show (-1000000:Int)≤0∧(0:Int)≤1000000 by decide)⟩
  · intro hp
    have h0:ro e.t=0:=(W.inv.busy ht).2 (by rw [hth];exact hp)
    have e0:invT w e={ w with t:=w.t.set e.t.toNat (ZiG w.c e.t e.item e.op w.now (w.t.getD e.t.toNat Zax).width),hist:=w.hist++[⟨1,e.t,e.item,e.op,0,false,w.steps⟩] }:=by unfold invT;rw [if_neg (fun x=>x hp)]
    rw [e0]
    obtain ⟨b,hb⟩:∃ b,b=ZiG w.c e.t e.item e.op w.now (w.t.getD e.t.toNat Zax).width:=⟨_,rfl⟩
    rw [← hb]
    have hvt:(vw c w.m (w.t.set e.t.toNat b)).th=seta (vw c w.m w.t).th e.t b:=by
      rw [Zpo W.lenT ht];rfl
    refine ⟨fun j hj=>?_,Li.cells,Li.srt,Li.steps,fun m hm=>?_,Li.inlog,fun h hh=>?_,fun j hj hr=>?_,Li.hist_more (Int.le_refl _)⟩
    · show LinT c _ ((vw c w.m (w.t.set e.t.toNat b)).th j) (seta ro e.t 1 j) (co j) j
      rw [hvt]
      by_cases ej:j=e.t
      · rw [ej,Zag,Zag]
        obtain ⟨k,op,last,a,b1,d,f,g⟩:=(Li.ans e.t ht).ex
        have hop:op=false:=by
          cases op with
          | false=>rfl
          | true=>exact (b1.1 rfl h0).elim
        have hct:co e.t=none:=(W.inv.core.k0 e.t h0).1
        refine ⟨k,true,⟨1,e.t,e.item,e.op,0,false,w.steps⟩,?_,⟨fun _=>by decide,fun _=>rfl⟩,fun _=>⟨by rw [hb];rfl,by rw [hb];rfl,rfl,rfl,List.mem_append_right _ (List.mem_singleton.2 rfl),Int.le_refl _⟩,f,fun x hx=>by rw [hct] at hx;cases hx⟩
        rw [Zgo a,ZlB,hop]
        unfold ansE
        rw [if_neg (by show ¬(e.t≠e.t∨(1:Int)=3);simp),if_pos rfl,if_neg (show ¬(false=true) by decide)]
      · rw [Zaf ej,Zaf ej]
        exact (Li.ans j hj).skip (.inl (Ne.symm ej)) rfl rfl (Int.le_refl _)
    · obtain ⟨h,h1,h2⟩:=Li.asked m hm
      exact ⟨h,List.mem_append_left _ h1,h2⟩
    · rcases List.mem_append.1 hh with hh | hh
      · exact Li.ehist h hh
      · rw [List.mem_singleton] at hh;subst hh
        exact ⟨ht,.inl rfl,Int.le_refl _,hst.1,hop,ZbK (show (-1000000:Int)≤0∧(0:Int)≤1000000 by decide)⟩
    · show ZgD ((vw c w.m (w.t.set e.t.toNat b)).th j).op c.bounded=true
      rw [hvt]
      by_cases ej:j=e.t
      · rw [ej,Zag,hb];exact ho
      · rw [Zaf ej] at hr ⊢;exact Li.may j hj hr
theorem Core.inBatch {ba:Int→List Entry} {ks:Int→List Kid} {opf:Int→Op} {it:Int→Int} (C:Core c ba ks opf it ro pa rt co) {r:Int} (hr:ro r=1) (j:Int):(ro j≠0∧co j=none∧rt j=r)↔idxOf (ba r) j<(ba r).length:=by
  obtain ⟨cr,rr⟩:=C.k1 r (by omega)
  constructor
  · rintro ⟨a,b,d⟩
    obtain ⟨_,_,o,hs⟩:=C.k5 j a b
    rw [d] at hs
    obtain ⟨r1,hr1⟩:=C.k3 j a
    have hm:(⟨j,opf j⟩:Entry)∈ba r:=hs.mem (by rw [hr1];exact List.mem_cons_self ..)
    exact ZAm hm
  · intro h
    unfold idxOf at h
    have h':((ba r).map (·.t)).findIdx (fun t=>t == j)<((ba r).map (·.t)).length:=by rwa [List.length_map]
    have h2:=List.findIdx_getElem (w:=h')
    have h3:j∈(ba r).map (·.t):=by
      rw [← eq_of_beq h2];exact List.getElem_mem h'
    obtain ⟨e,he,rfl⟩:=List.mem_map.1 h3
    obtain ⟨a,b,d,f,g⟩:=C.k4 r (by omega) cr e he
    exact ⟨a,f,by rw [g,rr]⟩
theorem Lin.pick (Li:Lin c w ro co) (W:WInv c w n ro pa rt co) (hC:CfgOK c) (hlo:Num c.lo) (hhi:Num c.hi) (hn:n≤200000) (hci:Inb c c.init) (ht:InT c t) (hp:(w.t.getD t.toNat Zax).phase≠0) :
    ∃ ro' pa' rt' co',WInv c (Zdt w t (ZaL (ZbA w t))) (n+1) ro' pa' rt' co'∧Lin c (Zdt w t (ZaL (ZbA w t))) ro' co':=by
  obtain ⟨_,ro',pa',rt',co1,W',info,T⟩:=W.pick hC hlo hhi hn ht hp
  refine ⟨ro',pa',rt',_,W',?_⟩
  have hth:(vw c w.m w.t).th t=w.t.getD t.toNat Zax:=ZkA ht
  have hkp:=Zl5 (ZbA w t)
  have hL:=W.inv.loc t ht
  have hro:ro t≠0:=by
    intro h0
    have:=(W.inv.busy ht).1 h0
    rw [hth] at this
    exact hp this
  have hop1:(ZaL (ZbA w t)).th.op=(w.t.getD t.toNat Zax).op:=Zux hkp
  have hit1:(ZaL (ZbA w t)).th.item=(w.t.getD t.toNat Zax).item:=ZwX hkp
  obtain ⟨u,hu⟩:∃ u,u=ZaL (ZbA w t):=⟨_,rfl⟩
  rw [← hu] at W' info T hop1 hit1 ⊢
  have hst:=W.steps
  have hs:Zd8 w=w.steps+1:=by unfold Zd8;rw [Zau (by omega) (by omega)]
  have hvth:(vw c (Zdt w t u).m (Zdt w t u).t).th=seta (vw c w.m w.t).th t u.th:=by
    show vwT c (w.t.set t.toNat u.th)=_
    rw [Zwi W.lenT ht];rfl
  have hidle:=T.idle hth hp
  rw [hvth,Zag] at hidle
  have hcells:=T.cells (fun p=>by rw [← hth] at p ⊢;exact hL.y p) (Zbu c).1 (fun p=>by
    rw [← hth] at p ⊢
    have ha:=hL.ari.2.2.2.2.2.2.1 (by omega)
    have:=(W.inv.nodes t ht).1 _ (ZgT (by omega) ha)
    omega)
  have hbz:∀ j,InT c j→j≠t→(ro' j=0↔ro j=0):=by
    intro j hj hjt
    rw [W'.inv.busy hj,W.inv.busy hj,hvth,Zaf hjt]
  have hbt:ro' t=0↔u.done=true:=by
    rw [W'.inv.busy ht,hvth,Zag];exact hidle
  obtain ⟨co',hco'⟩:∃ co',co'=if u.done=true then seta co1 t none else co1:=⟨_,rfl⟩
  rw [← hco'] at W' ⊢
  have hcoj:∀ j,j≠t→co' j=co1 j:=by
    intro j hj;rw [hco'];split
    · rw [Zaf hj]
    · rfl
  obtain ⟨ms,hms⟩:∃ ms,ms=u.log.map (ZcD (Zd8 w)):=⟨_,rfl⟩
  have hlog:(Zdt w t u).log=w.log++ms:=by rw [hms];rfl
  have hsteps:(Zdt w t u).steps=w.steps+1:=hs
  have own:∀ j,InT c j→∃ (k:Nat) (op:Bool) (last:Event),ansL c.lo c.hi j (Za2 j (w.log++ms)) (0,false,ZeI) w.hist=some (k,op,last)∧(op=true↔ro j≠0) ∧
      (op=true→last.op=((vw c w.m w.t).th j).op∧last.item=((vw c w.m w.t).th j).item∧last.kind=1∧last.t=j∧last∈w.hist∧last.step≤w.steps) ∧
      (co1 j=none→(Za2 j (w.log++ms)).length=k) ∧
      (∀ x,co1 j=some x→(Za2 j (w.log++ms)).length=k+1∧((Za2 j (w.log++ms)).getD k ZaJ).op=((vw c w.m w.t).th j).op∧((Za2 j (w.log++ms)).getD k ZaJ).item=((vw c w.m w.t).th j).item∧((Za2 j (w.log++ms)).getD k ZaJ).prior=x∧last.step<((Za2 j (w.log++ms)).getD k ZaJ).step∧((Za2 j (w.log++ms)).getD k ZaJ).step≤w.steps+1):=by
    intro j hj
    obtain ⟨k,op,last,a,b,d,f,g⟩:=(Li.ans j hj).ex
    rcases info.1 with ⟨e1,e2⟩ | ⟨hr1,e1,e2⟩
    · have:ms=[]:=by rw [hms,e1];rfl
      rw [this,List.append_nil,e2]
      exact ⟨k,op,last,a,b,d,f,fun x hx=>by obtain ⟨g1,g2,g3,g4,g5,g6⟩:=g x hx;exact ⟨g1,g2,g3,g4,g5,by omega⟩⟩
    · have hmo:Za2 j ms=if idxOf ((vw c w.m w.t).th t).batch j<((vw c w.m w.t).th t).batch.length then [⟨j,((vw c w.m w.t).th t).item,(((vw c w.m w.t).th t).batch.getD (idxOf ((vw c w.m w.t).th t).batch j) ⟨0,⟨0,0⟩⟩).op,allT c.lo c.hi (((vw c w.m w.t).th t).batch.take (idxOf ((vw c w.m w.t).th t).batch j)) ((vw c w.m w.t).b ((vw c w.m w.t).th t).item 0),Zd8 w⟩] else []:=by
        rw [hms,e1]
        exact Zrg _ _ j _ _ (W.inv.core.nod t hro)
      have hib:=W.inv.core.inBatch hr1 j
      rw [ZpR,hmo]
      by_cases hlt:idxOf ((vw c w.m w.t).th t).batch j<((vw c w.m w.t).th t).batch.length
      · obtain ⟨q1,q2,q3⟩:=hib.2 hlt
        have hf:=f q2
        have hc1:co1 j=some (allT c.lo c.hi (((vw c w.m w.t).th t).batch.take (idxOf ((vw c w.m w.t).th t).batch j)) ((vw c w.m w.t).b ((vw c w.m w.t).th t).item 0)):=by
          rw [e2];exact if_pos ⟨q1,q2,q3⟩
        have hd:=d (b.2 q1)
        have hget:(((vw c w.m w.t).th t).batch.getD (idxOf ((vw c w.m w.t).th t).batch j) ⟨0,⟨0,0⟩⟩)∈((vw c w.m w.t).th t).batch:=by
          rw [List.getD_eq_getElem?_getD,List.getElem?_eq_getElem hlt];exact List.getElem_mem hlt
        have hgt:(((vw c w.m w.t).th t).batch.getD (idxOf ((vw c w.m w.t).th t).batch j) ⟨0,⟨0,0⟩⟩).t=j:=by
          rw [List.getD_eq_getElem?_getD,List.getElem?_eq_getElem hlt]
          have h':(((vw c w.m w.t).th t).batch.map (·.t)).findIdx (fun t=>t == j)<(((vw c w.m w.t).th t).batch.map (·.t)).length:=by rw [List.length_map];exact hlt
          have h2:=List.findIdx_getElem (w:=h')
          have:=eq_of_beq h2
          rw [List.getElem_map] at this
          exact this
        have hk4:=W.inv.core.k4 t hro (W.inv.core.k1 t (by omega)).1 _ hget
        rw [hgt] at hk4
        rw [if_pos hlt]
        refine ⟨k,op,last,ZmX a,b,d,fun x=>(by rw [hc1] at x;cases x),fun x hx=>?_⟩
        rw [hc1] at hx
        have hx:=Option.some.inj hx
        have hg:(Za2 j w.log++[(⟨j,((vw c w.m w.t).th t).item,(((vw c w.m w.t).th t).batch.getD (idxOf ((vw c w.m w.t).th t).batch j) ⟨0,⟨0,0⟩⟩).op,allT c.lo c.hi (((vw c w.m w.t).th t).batch.take (idxOf ((vw c w.m w.t).th t).batch j)) ((vw c w.m w.t).b ((vw c w.m w.t).th t).item 0),Zd8 w⟩:Mark)]).getD k ZaJ=⟨j,((vw c w.m w.t).th t).item,(((vw c w.m w.t).th t).batch.getD (idxOf ((vw c w.m w.t).th t).batch j) ⟨0,⟨0,0⟩⟩).op,allT c.lo c.hi (((vw c w.m w.t).th t).batch.take (idxOf ((vw c w.m w.t).th t).batch j)) ((vw c w.m w.t).b ((vw c w.m w.t).th t).item 0),Zd8 w⟩:=by
          rw [List.getD_eq_getElem?_getD,List.getElem?_append_right (by omega),hf,Nat.sub_self];rfl
        rw [hg]
        refine ⟨by rw [List.length_append,hf];rfl,hk4.2.1.symm,hk4.2.2.1.symm,hx,?_,?_⟩
        · show last.step<Zd8 w
          rw [hs];omega
        · show Zd8 w≤w.steps+1
          rw [hs];exact Int.le_refl _
      · rw [if_neg hlt,List.append_nil]
        have hc1:co1 j=co j:=by rw [e2];exact if_neg (fun x=>hlt (hib.1 x))
        rw [hc1]
        exact ⟨k,op,last,a,b,d,f,fun x hx=>by obtain ⟨g1,g2,g3,g4,g5,g6⟩:=g x hx;exact ⟨g1,g2,g3,g4,g5,by omega⟩⟩
  have hmst:∀ m∈ms,m.step=w.steps+1:=by
    intro m hm
    rw [hms] at hm
    obtain ⟨m0,_,rfl⟩:=List.mem_map.1 hm
    exact hs
  have hment:∀ m∈ms,∃ e∈((vw c w.m w.t).th t).batch,ro t=1∧m.t=e.t∧m.op=e.op∧m.item=((vw c w.m w.t).th t).item:=by
    intro m hm
    rw [hms] at hm
    obtain ⟨m0,hm0,rfl⟩:=List.mem_map.1 hm
    rcases info.1 with ⟨e1,_⟩ | ⟨hr1,e1,_⟩
    · rw [e1] at hm0;cases hm0
    · rw [e1] at hm0
      unfold ZfB at hm0
      obtain ⟨i,hi,hg⟩:=List.mem_iff_getElem.1 hm0
      rw [List.getElem_zipWith] at hg
      rw [List.length_zipWith] at hi
      exact ⟨((vw c w.m w.t).th t).batch[i]'(by omega),List.getElem_mem _,hr1,by rw [← hg];rfl,by rw [← hg];rfl,by rw [← hg];rfl⟩
  have hk4m:∀ m∈ms,InT c m.t∧ro m.t≠0∧((vw c w.m w.t).th m.t).op=m.op∧((vw c w.m w.t).th m.t).item=m.item:=by
    intro m hm
    obtain ⟨e,he,hr1,a,b,d⟩:=hment m hm
    have hk:=W.inv.core.k4 t hro (W.inv.core.k1 t (by omega)).1 e he
    rw [a,b,d]
    exact ⟨W.inv.core.ent t hro e he,hk.1,hk.2.1,hk.2.2.1⟩
  have hopt:((vw c w.m w.t).th t).op=u.th.op:=by rw [hop1,hth]
  have hitt:((vw c w.m w.t).th t).item=u.th.item:=by rw [hit1,hth]
  refine ⟨fun j hj=>?_,fun i h0 h1=>?_,?_,fun m hm=>?_,fun m hm=>?_,fun m hm=>?_,fun h hh=>?_,fun j hj hr=>?_,?_⟩
  · rw [hvth]
    obtain ⟨k,op,last,a,b,d,f,g⟩:=own j hj
    by_cases ej:j=t
    · rw [ej] at a b d f g hj ⊢
      rw [Zag]
      have hopen:op=true:=b.2 hro
      obtain ⟨d1,d2,d3,d4,d5,d6⟩:=d hopen
      cases hd:u.done with
      | false =>
        have hh:(Zdt w t u).hist=w.hist:=by show (if u.done=true then _ else _)=_;rw [hd];rfl
        have hct:co' t=co1 t:=by rw [hco',hd];rfl
        refine ⟨k,op,last,by rw [hlog,hh];exact a,⟨fun _ x=>?_,fun _=>hopen⟩,fun _=>⟨by rw [← hopt];exact d1,by rw [← hitt];exact d2,d3,d4,by rw [hh];exact d5,by rw [hsteps];omega⟩,fun x=>?_,fun x hx=>?_⟩
        · have:=hbt.1 x;rw [hd] at this;cases this
        · rw [hlog];exact f (by rw [← hct];exact x)
        · rw [hlog,hsteps]
          have:=g x (by rw [← hct];exact hx)
          rw [hopt,hitt] at this
          exact this
      | true =>
        have hh:(Zdt w t u).hist=w.hist++[Zjq w t u]:=by show (if u.done=true then _ else _)=_;rw [hd];rfl
        have hc1:co1 t=some u.th.x:=by
          have:=info.2 hd
          rw [hvth,Zag] at this
          exact this
        have hct:co' t=none:=by rw [hco',hd,if_pos rfl,Zag]
        obtain ⟨g1,g2,g3,g4,g5,g6⟩:=g _ hc1
        have hfit:Fits c.lo c.hi (Za2 t (w.log++ms)) k last (Zjq w t u):=by
          refine ⟨by omega,by rw [g2,hopt];rfl,by rw [g3,hitt];rfl,g4,?_,by rw [d1,hopt];rfl,by rw [d2,hitt];rfl,g5,?_⟩
          · show (App u.th.op u.th.x w.c.lo w.c.hi).2=(App u.th.op u.th.x c.lo c.hi).2
            rw [W.cE]
          · show _≤Zd8 w
            rw [hs];exact g6
        refine ⟨k+1,false,last,?_,⟨fun x=>(by cases x),fun x=>(x (hbt.2 hd)).elim⟩,fun x=>(by cases x),fun _=>?_,fun x hx=>by rw [hct] at hx;cases hx⟩
        · rw [hlog,hh,Zgo a,ZlB]
          unfold ansE
          rw [if_neg (by show ¬(t≠t∨(2:Int)=3);simp),if_neg (by show ¬(2:Int)=1;decide),if_pos ⟨hopen,hfit⟩]
        · rw [hlog];exact g1
    · rw [Zaf ej,hcoj j ej]
      have hskip:ansL c.lo c.hi j (Za2 j (Zdt w t u).log) (0,false,ZeI) (Zdt w t u).hist=some (k,op,last):=by
        rw [hlog]
        show ansL c.lo c.hi j (Za2 j (w.log++ms)) (0,false,ZeI) (if u.done=true then w.hist++[Zjq w t u] else w.hist)=_
        split
        · rw [Zgo a,ZlB]
          unfold ansE
          rw [if_pos (.inl (by show t≠j;exact Ne.symm ej))]
        · exact a
      have hb:=hbz j hj ej
      refine ⟨k,op,last,hskip,⟨fun x=>fun y=>b.1 x (hb.1 y),fun x=>b.2 (fun y=>x (hb.2 y))⟩,fun x=>?_,fun x=>by rw [hlog];exact f x,fun x hx=>by rw [hlog,hsteps];exact g x hx⟩
      obtain ⟨d1,d2,d3,d4,d5,d6⟩:=d x
      refine ⟨d1,d2,d3,d4,?_,by rw [hsteps];omega⟩
      show last∈(if u.done=true then w.hist++[Zjq w t u] else w.hist)
      split
      · exact List.mem_append_left _ d5
      · exact d5
  · rw [hlog]
    have old:=Li.cells i h0 h1
    rw [ZjX old]
    have hCin:Inb c ((vw c w.m w.t).b i 0):=Zoy old hci
    have hnx:=W.inv.num.1 i 0
    rcases hcells with ⟨e1,e2⟩ | ⟨e1,e2,e3⟩
    · rw [hms,e1]
      show some _=some _
      rw [e2 i]
    · by_cases ei:i=(w.t.getD t.toNat Zax).item
      · have hr1:ro t=1:=by
          rcases info.1 with ⟨x,_⟩ | ⟨x,_,_⟩
          · exfalso
            rw [x] at e1
            have hb:=W.inv.core.k3 t hro
            obtain ⟨r,hb⟩:=hb
            have hb:((vw c w.m w.t).th t).batch=⟨t,((vw c w.m w.t).th t).op⟩::r:=hb
            rw [hth] at hb
            unfold ZfB at e1
            rw [hb] at e1
            cases e1
          · exact x
        rw [hms,e1,ei,e2]
        unfold ZfB
        rw [← ei]
        have:=ZpF hlo i (Zd8 w) (w.t.getD t.toNat Zax).batch ((vw c w.m w.t).b i 0) hnx hCin (fun e he=>by
          rw [← hth] at he
          have hk:=W.inv.core.k4 t hro (W.inv.core.k1 t (by omega)).1 e he
          refine ⟨hL.ops (by rw [hth];exact hp) e he,?_⟩
          have:=Li.may e.t (W.inv.core.ent t hro e he) hk.1
          have h2:((vw c w.m w.t).th e.t).op=e.op:=hk.2.1
          rwa [h2] at this)
        exact this
      · rw [hms,e1,e3 i ei]
        exact Zn2 (Ne.symm ei) _ (fun _ _=>rfl) _ _ _
  · rw [hlog,List.pairwise_append]
    refine ⟨Li.srt,?_,fun a ha b hb=>?_⟩
    · rw [List.pairwise_iff_getElem]
      intro i j hi hj _
      rw [hmst _ (List.getElem_mem hi),hmst _ (List.getElem_mem hj)]
      exact Int.le_refl _
    · rw [hmst b hb]
      have:=(Li.steps a ha).2
      omega
  · rw [hsteps]
    rw [hlog] at hm
    rcases List.mem_append.1 hm with hm | hm
    · have:=Li.steps m hm;omega
    · rw [hmst m hm];omega
  · rw [hlog] at hm
    have hsub:∀ h∈w.hist,h∈(Zdt w t u).hist:=by
      intro h hh
      show h∈(if u.done=true then w.hist++[Zjq w t u] else w.hist)
      split
      · exact List.mem_append_left _ hh
      · exact hh
    rcases List.mem_append.1 hm with hm | hm
    · obtain ⟨h,h1,h2⟩:=Li.asked m hm
      exact ⟨h,hsub h h1,h2⟩
    · obtain ⟨q1,q2,q3,q4⟩:=hk4m m hm
      obtain ⟨k,op,last,a,b,d,_,_⟩:=(Li.ans m.t q1).ex
      obtain ⟨d1,d2,d3,d4,d5,d6⟩:=d (b.2 q2)
      exact ⟨last,hsub _ d5,d3,d4,by rw [d2,q4],by rw [d1,q3],by rw [hmst m hm];omega⟩
  · rw [hlog] at hm
    rcases List.mem_append.1 hm with hm | hm
    · exact Li.inlog m hm
    · obtain ⟨q1,q2,q3,q4⟩:=hk4m m hm
      have hLm:=W.inv.loc m.t q1
      have hpm:((vw c w.m w.t).th m.t).phase≠0:=fun x=>q2 ((W.inv.busy q1).2 x)
      refine ⟨q1,by rw [← q4];exact hLm.item hpm,by rw [← q3];exact Li.may m.t q1 q2,?_⟩
      obtain ⟨e,he,_,_,b,_⟩:=hment m hm
      rw [b]
      exact hL.ops (by rw [hth];exact hp) e he
  · have hh:h∈(if u.done=true then w.hist++[Zjq w t u] else w.hist):=hh
    rw [hsteps]
    have old:h∈w.hist→_:=fun hh=>Li.ehist h hh
    split at hh
    · rcases List.mem_append.1 hh with hh | hh
      · have:=old hh;exact ⟨this.1,this.2.1,by omega,this.2.2.2⟩
      · rw [List.mem_singleton] at hh;subst hh
        refine ⟨ht,.inr (.inl rfl),by show Zd8 w≤_;rw [hs];exact Int.le_refl _,by show 0≤Zd8 w;rw [hs];omega,?_,?_⟩
        · show Num u.th.op.v
          obtain ⟨r,hb⟩:=W.inv.core.k3 t hro
          have hb:((vw c w.m w.t).th t).batch=⟨t,((vw c w.m w.t).th t).op⟩::r:=hb
          have:=hL.ops (by rw [hth];exact hp) ⟨t,((vw c w.m w.t).th t).op⟩ (by rw [hb];exact List.mem_cons_self ..)
          rw [← hopt];exact this
        · show Num u.th.x
          have:=(W'.inv.loc t ht).nx
          rw [hvth,Zag] at this
          exact this
    · have:=old hh;exact ⟨this.1,this.2.1,by omega,this.2.2.2⟩
  · rw [hvth]
    by_cases ej:j=t
    · rw [ej,Zag,hop1,← hth];exact Li.may t ht hro
    · rw [Zaf ej];exact Li.may j hj (fun x=>hr ((hbz j hj ej).2 x))
  · show (if u.done=true then w.hist++[Zjq w t u] else w.hist).Pairwise _
    split
    · exact Li.hist_more (by show w.steps≤Zd8 w;rw [hs];omega)
    · exact Li.hsrt
theorem Lin.entry (Li:Lin c w ro co) (W:WInv c w n ro pa rt co) (hC:CfgOK c) (hlo:Num c.lo) (hhi:Num c.hi) (hn:n≤200000) (hci:Inb c c.init) {e:SEntry} (he:Zcw c e=0) (hop:Num e.op.v) :
    ∃ ro' pa' rt' co',WInv c (Zeb w e) (n+1) ro' pa' rt' co'∧Lin c (Zeb w e) ro' co':=by
  have hE:=(W.entry hC hlo hhi hn he hop).2
  rcases Zs1 he with ⟨k,ht,hi,ho⟩ | ⟨k,ht⟩ | k
  · unfold Zeb
    rw [if_pos k]
    have hI:=Li.invoke W hC ht ho hop
    by_cases hp:(w.t.getD e.t.toNat Zax).phase=0
    · have h2:=hI.2 hp
      have hth:(vw c w.m w.t).th e.t=w.t.getD e.t.toNat Zax:=ZkA ht
      have hl:=W.log;have hh:=W.hist;have hst:=W.steps;have hnw:=W.now
      refine ⟨seta ro e.t 1,pa,seta rt e.t e.t,co,?_,h2⟩
      have hv:=W.inv.invoke hC ht (by rw [hth];exact hp) (i:=e.item) (op:=e.op) (now:=w.now) (wd:=(w.t.getD e.t.toNat Zax).width) hi hop (by rw [hth])
      unfold invT
      rw [if_neg (fun x=>x hp)]
      refine ⟨W.cE,?_,W.lenW,W.lenB,W.tape,?_,?_,?_,?_,?_⟩
      · show ((w.t.set _ _).length:Int)=_
        rw [List.length_set];exact W.lenT
      · show w.log.length≤_;omega
      · show (w.hist++[_]).length≤_
        rw [List.length_append,List.length_singleton];omega
      · show 0≤w.steps∧w.steps≤((n+1:Nat):Int);omega
      · show 0≤w.now∧w.now≤((n+1:Nat):Int);omega
      · show Inv c (vw c w.m (w.t.set _ _)) _ _ _ _
        rw [Zpo W.lenT ht,W.cE]
        exact hv
    · have h2:=hI.1 hp
      have hl:=W.log;have hh:=W.hist;have hst:=W.steps;have hnw:=W.now
      refine ⟨ro,pa,rt,co,?_,h2⟩
      unfold invT
      rw [if_pos hp]
      refine ⟨W.cE,W.lenT,W.lenW,W.lenB,W.tape,?_,?_,?_,?_,W.inv⟩
      · show w.log.length≤_;omega
      · show (w.hist++[_]).length≤_
        rw [List.length_append,List.length_singleton];omega
      · show 0≤w.steps∧w.steps≤((n+1:Nat):Int);omega
      · show 0≤w.now∧w.now≤((n+1:Nat):Int);omega
  · unfold Zeb
    rw [if_neg (show ¬e.kind=1 by omega),if_pos k]
    have hl:=W.log;have hh:=W.hist;have hst:=W.steps;have hnw:=W.now
    by_cases hp:(w.t.getD e.t.toNat Zax).phase=0
    · rw [if_pos hp]
      exact ⟨ro,pa,rt,co,⟨W.cE,W.lenT,W.lenW,W.lenB,W.tape,by omega,by omega,by omega,by omega,W.inv⟩,Li⟩
    · rw [if_neg hp]
      exact Li.pick W hC hlo hhi hn hci ht hp
  · have hl:=W.log;have hh:=W.hist;have hst:=W.steps;have hnw:=W.now
    unfold Zeb
    rw [if_neg (show ¬e.kind=1 by omega),if_neg (show ¬e.kind=2 by omega),if_pos k]
    refine ⟨ro,pa,rt,co,⟨W.cE,W.lenT,W.lenW,W.lenB,W.tape,?_,?_,?_,?_,W.inv⟩,⟨fun j hj=>(Li.ans j hj).same rfl rfl (Int.le_refl _),Li.cells,Li.srt,Li.steps,Li.asked,Li.inlog,Li.ehist,Li.may,Li.hsrt⟩⟩
    · show w.log.length≤_;omega
    · show w.hist.length≤_;omega
    · show 0≤w.steps∧w.steps≤((n+1:Nat):Int);omega
    · show 0≤Zad .i64 (w.now+1)∧Zad .i64 (w.now+1)≤((n+1:Nat):Int)
      rw [Zau (by omega) (by omega)];omega
theorem Lin.entries (hC:CfgOK c) (hlo:Num c.lo) (hhi:Num c.hi) (hci:Inb c c.init):∀ {l:List SEntry} {w:Wld} {n:Nat} {ro pa rt:Int→Int} {co:Int→Option Int},WInv c w n ro pa rt co→Lin c w ro co→n+l.length≤200000→(∀ e∈l,Zcw c e=0∧Num e.op.v) →
    ∃ ro' pa' rt' co',WInv c (l.foldl Zeb w) (n+l.length) ro' pa' rt' co'∧Lin c (l.foldl Zeb w) ro' co'
  | [],w,n,ro,pa,rt,co,W,Li,_,_=>⟨ro,pa,rt,co,W,Li⟩
  | e :: l, w, n, ro, pa, rt, co, W, Li, hn, he => by
    rw [List.length_cons] at hn
    obtain ⟨ro',pa',rt',co',W',Li'⟩:=Li.entry W hC hlo hhi (by omega) hci (he e (List.mem_cons_self ..)).1 (he e (List.mem_cons_self ..)).2
    have:=Lin.entries hC hlo hhi hci W' Li' (by omega) (fun x hx=>he x (List.mem_cons_of_mem _ hx))
    rw [List.length_cons,show n+(l.length+1)=n+1+l.length by omega]
    exact this
theorem Zyd (hC:CfgOK c) (hci:Num c.init) {d:List Int}:Lin c (newW c d) (fun _=>0) (fun _=>none):=by
  have hth:=hC.threads
  have hit:=hC.items
  refine ⟨fun j hj=>⟨0,false,ZeI,rfl,⟨fun x=>(by cases x),fun x=>(x rfl).elim⟩,fun x=>(by cases x),fun _=>rfl,fun x hx=>(by cases hx)⟩,fun i h0 h1=>?_,List.Pairwise.nil,fun m hm=>(by cases hm),fun m hm=>(by cases hm),fun m hm=>(by cases hm),fun h hh=>(by cases hh),fun j _ h=>(h rfl).elim,List.Pairwise.nil⟩
  show some c.init=some (vwB c (ZcQ c).words i 0)
  have hb:=Zck hC
  unfold vwB
  rw [if_pos ⟨⟨h0,h1⟩,Int.le_refl 0,by omega⟩]
  rw [(ZmF (t:=0) (i:=0) hC hci ⟨by omega,by omega⟩ ⟨by omega,by omega⟩).cells i h0 h1]
end
end Go.Proofs.Mill

/- What the program says of logs and histories. -/
namespace Go.Proofs.Mill
set_option linter.all false
theorem ZmY {σ ρ α:Type} {step:σ→α→Option (σ⊕ρ)} {f:σ→α→σ} (I:σ→Prop):∀ (l:List α) (st:σ),I st→(∀ st,I st→∀ x∈l,step st x=some (.inl (f st x))∧I (f st x))→Zcg step l st=some (.inl (l.foldl f st))
  | [],st,_,_=>rfl
  | x :: l, st, h0, h => by
    obtain ⟨h1,h2⟩:=h st h0 x (List.mem_cons_self ..)
    unfold Zcg
    rw [h1]
    exact ZmY I l (f st x) h2 fun st hs y hy=>h st hs y (List.mem_cons_of_mem _ hy)
def Zw8 (m:Mark):Prop:=Num m.op.v
def ZnH (e:Event):Prop:=Num e.op.v∧Num e.prior
def ZjS (c:Config):Prop:=Num c.init∧Num c.lo∧Num c.hi
theorem ZzU {c:Config} (o:(Zaq celConfig).Ok c):ZjS c:=by
  have h1:∀ x:Int,AV.int .i64 x∈celConfig.enc c→Num x:=fun x hx=>ZwT (o _ hx)
  refine ⟨h1 _ ?_,h1 _ ?_,h1 _ ?_⟩ <;> simp [celConfig,Zcr,Zal,Zar,celBool]
noncomputable def ZnA (lo hi:Int) (st:Int×Bool) (m:Mark):Int×Bool:=((App m.op st.1 lo hi).1,st.2 && st.1 == m.prior)
noncomputable def replay (c:Config) (l:List Mark) (k:Int):Int×Bool:=(l.filter fun m=>m.item == k).foldl (ZnA c.lo c.hi) (c.init,true)
def evts (l:List Event) (k:Int):List Event:=l.filter fun e=>e.t == k && e.kind != 3
theorem Zos {σ:Type} {it:ItV} {step:σ→it.α→Option (σ⊕Empty)} {z:it.κ×σ} {y:σ} (hb:it.okB z.1=true) (h:Zcg step (it.els z.1) z.2=some (.inl y)):Zii it step z=some y:=by
  unfold Zii
  rw [hb,h]
  rfl
theorem Zyh {σ ρ:Type} {it:ItV} {step:σ→it.α→Option (σ⊕ρ)} {z:it.κ×σ} {y:Option (σ⊕ρ)} (hb:it.okB z.1=true) (h:Zcg step (it.els z.1) z.2=y):Znw it step z=y:=by
  unfold Znw
  rw [hb,h]
  rfl
theorem ZpP (c:Config):∀ (L:List Mark) (z:Int×Bool),L.foldl (fun (st:Config×Int×Bool) m=>(st.1,ZnA st.1.lo st.1.hi st.2 m)) (c,z)=(c,L.foldl (ZnA c.lo c.hi) z)
  | [],_=>rfl
  | m::L,z=>by rw [List.foldl_cons,List.foldl_cons];exact ZpP c L _
theorem Zp7 {c:Config} {l:List Mark} (k:Int) (hc:ZjS c) (hl:∀ m∈l,Zw8 m) (h:l.length≤4294967296):ZgL c l k=some (replay c l k):=by
  have hf:=ZmY (ρ:=Empty) (step:=Zdq) (f:=fun (st:Config×Int×Bool) m=>(st.1,ZnA st.1.lo st.1.hi st.2 m)) (fun st=>st.1=c∧Num st.2.1) (l.filter fun m=>m.item == k) (c,c.init,true) ⟨rfl,hc.1⟩ (by
    rintro ⟨c',x,b⟩ ⟨rfl,hx⟩ m hm
    have hm:=hl m (List.mem_filter.1 hm).1
    simp only at hx
    refine ⟨?_,rfl,ZnC hx hm hc.2.1⟩
    simp only [Zdq,Ziy,Zb6,Zjo hx hm hc.2.1 hc.2.2]
    cases b <;> rfl)
  rw [ZpP] at hf
  have hw:ZiB ((l,k),c,c.init,true)=some (c,replay c l k):=Zos (it:=itReplay) (ZbQ h) hf
  simp only [ZgL,hw]
def ZhL:Event:=⟨0,0,0,⟨0,0⟩,0,false,0⟩
def pend (L:List Event):Event×Bool:=match L.getLast? with
  | some e=>bif e.kind == 1 then (e,true) else (ZhL,false)
  | none=>(ZhL,false)
theorem Zq7:∀ (L:List Event) (z:Event×Bool),L.foldl (fun _ e=>(e,e.kind == (1:Int))) z=match L.getLast? with | some e=>(e,e.kind == (1:Int)) | none=>z
  | [],_=>rfl
  | e :: L, z => by
    rw [List.foldl_cons,Zq7 L,List.getLast?_cons]
    cases L.getLast? <;> rfl
theorem Zpf {l:List Event} (k:Int) (h:l.length≤4294967296):Zgd l k=some (pend (evts l k)):=by
  have hf:=ZmY (ρ:=Empty) (step:=Zea) (f:=fun (_:Event×Bool) e=>(e,e.kind == (1:Int))) (fun _=>True) (evts l k) (ZhL,false) trivial (fun _ _ _ _=>⟨rfl,trivial⟩)
  rw [Zq7] at hf
  have hw:Zfo ((l,k),ZhL,false)=some (match (evts l k).getLast? with | some e=>(e,e.kind == (1:Int)) | none=>(ZhL,false)):=Zos (it:=itEvents) (ZbQ h) hf
  have hw:Zfo ((l,k),Event.mk (0:Int) (0:Int) (0:Int) (Op.mk (0:Int) (0:Int)) (0:Int) false (0:Int),false)=_:=hw
  simp only [Zgd,hw,pend]
  cases (evts l k).getLast? with
  | none=>rfl
  | some e=>cases he:e.kind == (1:Int) <;> simp [he,ZhL]
def count (l:List Event) (k:Int):Int:=((l.filter fun e=>e.kind == k).length:Int)
noncomputable def fit (c:Config) (m:Mark) (call e:Event):Bool :=
  (e.op.tag == call.op.tag && (e.op.v == call.op.v && true)) && (e.item == call.item) && (m.op.tag == e.op.tag && (m.op.v == e.op.v && true)) && (m.item == e.item) && (m.prior == e.prior) && (e.did == (App e.op e.prior c.lo c.hi).2) && decide (call.step<m.step) && decide (m.step≤e.step)
theorem ZAi {a b c d e f g h i j:Bool}:(bif a && (b && true) && (c && true) then bif d && (e && true) && (f && true) then bif g then bif h then bif i then some j else some false else some false else some false else some false else some false) =
    some ((a && (b && true)) && c && (d && (e && true)) && f && g && h && i && j):=by
  cases a <;> cases b <;> cases c <;> cases d <;> cases e <;> cases f <;> cases g <;> cases h <;> cases i <;> rfl
theorem Zoz {c:Config} (m:Mark) (call:Event) {e:Event} (hc:ZjS c) (he:ZnH e):ZfF c m call e=some (fit c m call e):=by
  simp only [ZfF,Zb6,Zjo he.2 he.1 hc.2.1 hc.2.2,Zez,ZjW,fit]
  rw [ZAi]
  rw [BEq.comm (a:=m.op.tag),BEq.comm (a:=m.op.v),BEq.comm (a:=m.item),BEq.comm (a:=e.did)]
theorem ZtB (l:List Mark) (k:Int) (h:l.length≤4294967296):Zc7 (l,k)=some (l.filter fun m=>m.t == k):=by
  have key:∀ (L A:List Mark),A.length+L.length≤4294967296→Zcg ZbF L A=some (.inl (A++L)):=by
    intro L
    induction L with
    | nil=>intro A _;rw [List.append_nil];rfl
    | cons m L ih =>
      intro A hA
      rw [List.length_cons] at hA
      unfold Zcg
      simp only [ZbF,Zd1,List.length_cons,List.length_nil]
      rw [ZbQ (by omega)]
      simp only [cond_true]
      rw [ih _ (by rw [List.length_append,List.length_cons,List.length_nil];omega),List.append_assoc]
      rfl
  have hle:=List.length_filter_le (fun m:Mark=>m.t == k) l
  have hw:ZdY ((l,k),[])=some (l.filter fun m=>m.t == k):=Zos (it:=itOwn) (ZbQ h) (by
    have:=key (l.filter fun m=>m.t == k) [] (by rw [List.length_nil];omega)
    rw [List.nil_append] at this
    exact this)
  simp only [Zc7,ZcT,Zel,hw]
theorem Znm {σ ρ:Type} {step:σ→Option (σ⊕(ρ⊕Bool))} (st:Nat→σ) (n:Nat) (P:Nat→Prop) {y:ρ} (h1:∀ i,i<n→(P i∧step (st i)=some (.inl (st (i+1))))∨(¬P i∧step (st i)=some (.inr (.inr false)))) (h2:step (st n)=some (.inr (.inl y))) :
    (ZaH step (st 0)=some (.inl y)∧∀ i,i<n→P i)∨(ZaH step (st 0)=some (.inr false)∧¬∀ i,i<n→P i):=by
  have key:∀ k,k≤n→(Loops step (st (n-k)) (.inl y)∧∀ i,n-k≤i→i<n→P i)∨(Loops step (st (n-k)) (.inr false)∧¬∀ i,n-k≤i→i<n→P i):=by
    intro k
    induction k with
    | zero=>intro _;exact .inl ⟨.done _ _ h2,fun i h1 h2=>by omega⟩
    | succ k ih =>
      intro hk
      have hs:n-(k+1)+1=n-k:=by omega
      rcases h1 (n-(k+1)) (by omega) with ⟨p,h⟩ | ⟨p,h⟩
      · rw [hs] at h
        rcases ih (by omega) with ⟨l,q⟩ | ⟨l,q⟩
        · refine .inl ⟨.more _ _ _ h l,fun i hi hn=>?_⟩
          by_cases e:i=n-(k+1)
          · rw [e];exact p
          · exact q i (by omega) hn
        · exact .inr ⟨.more _ _ _ h l,fun hall=>q fun i hi hn=>hall i (by omega) hn⟩
      · exact .inr ⟨.done _ _ h,fun hall=>p (hall _ (Nat.le_refl _) (by omega))⟩
  have:=key n (Nat.le_refl _)
  rw [Nat.sub_self] at this
  rcases this with ⟨l,q⟩ | ⟨l,q⟩
  · exact .inl ⟨whileM_some.2 l,fun i hi=>q i (by omega) hi⟩
  · exact .inr ⟨whileM_some.2 l,fun hall=>q fun i _ hi=>hall i hi⟩
def Srt (l:List Mark):Prop:=∀ i,i<l.length-1→¬(l.getD (i+1) ZaJ).step<(l.getD i ZaJ).step
theorem ZpU {l:List Mark} (h:l.length≤4294967296):(Zbz l ()=some true∧Srt l)∨(Zbz l ()=some false∧¬Srt l):=by
  cases hl:l with
  | nil =>
    refine .inl ⟨?_,fun i hi=>by simp at hi⟩
    have:Zbp ([],(),-1)=some (.inl ()):=by
      unfold Zbp
      rw [Zcl]
      rfl
    simp only [Zbz]
    rw [show Zad .i64 ((([]:List Mark).length:Int)-1)=-1 from Zau (by simp) (by simp),this]
  | cons m0 l0 =>
    rw [← hl]
    have hn:0<l.length:=by rw [hl];simp
    have w:Zad .i64 ((l.length:Int)-1)=((l.length-1-0:Nat):Int):=by rw [Zau (by omega) (by omega)];omega
    have key:=Znm (step:=Zbb) (fun j=>(l,(),((l.length-1-j:Nat):Int))) (l.length-1) (fun j=>¬(l.getD (l.length-1-j) ZaJ).step<(l.getD (l.length-1-j-1) ZaJ).step) (y:=()) (fun j hj=>?_) ?_
    · simp only [Zbz,w]
      rcases key with ⟨k1,k2⟩ | ⟨k1,k2⟩
      · have k1:Zbp (l,(),((l.length-1-0:Nat):Int))=some (.inl ()):=k1
        rw [k1]
        refine .inl ⟨rfl,fun i hi=>?_⟩
        have:=k2 (l.length-1-(i+1)) (by omega)
        rw [show l.length-1-(l.length-1-(i+1))=i+1 by omega,Nat.add_sub_cancel] at this
        exact this
      · have k1:Zbp (l,(),((l.length-1-0:Nat):Int))=some (.inr false):=k1
        rw [k1]
        refine .inr ⟨rfl,fun hs=>k2 fun j hj=>?_⟩
        have:=hs (l.length-1-j-1) (by omega)
        rw [show l.length-1-j-1+1=l.length-1-j by omega] at this
        exact this
    · have b0:decide (((l.length-1-j:Nat):Int)>0)=true:=decide_eq_true (by omega)
      have b1:decide ((0:Int)≤((l.length-1-j:Nat):Int))=true:=decide_eq_true (by omega)
      have b2:decide (((l.length-1-j:Nat):Int)<(l.length:Int))=true:=decide_eq_true (by omega)
      have w1:Zad .i64 (((l.length-1-j:Nat):Int)-1)=((l.length-1-j-1:Nat):Int):=by rw [Zau (by omega) (by omega)];omega
      have b3:decide ((0:Int)≤((l.length-1-j-1:Nat):Int))=true:=decide_eq_true (by omega)
      have b4:decide (((l.length-1-j-1:Nat):Int)<(l.length:Int))=true:=decide_eq_true (by omega)
      simp only [Zbb,Zcs,b0,b1,b2,w1,b3,b4,cond_true,Int.toNat_natCast,Zg7,Zkx]
      by_cases a:(l.getD (l.length-1-j) ZaJ).step<(l.getD (l.length-1-j-1) ZaJ).step
      · refine .inr ⟨fun h=>h a,?_⟩
        rw [decide_eq_true a]
        rfl
      · refine .inl ⟨a,?_⟩
        rw [decide_eq_false a,show l.length-1-(j+1)=l.length-1-j-1 by omega]
        cases decide ((l.getD (l.length-1-j) ZaJ).step>(l.getD (l.length-1-j-1) ZaJ).step) <;> rfl
    · have b0:decide (((l.length-1-(l.length-1):Nat):Int)>0)=false:=decide_eq_false (by omega)
      simp only [Zbb,Zcs,b0,cond_false]
end Go.Proofs.Mill

/- Whether a world is linear, as the program says it. -/
namespace Go.Proofs.Mill
set_option linter.all false
theorem Zuf {c:Config} {own:List Mark} {n:Nat} {last e:Event} (hn:n<own.length):fit c (own.getD n ZaJ) last e=true↔Fits c.lo c.hi own n last e:=by
  unfold fit Fits
  obtain ⟨a1,a2⟩:∃ a:Op,a=e.op:=⟨_,rfl⟩
  obtain ⟨b1,b2⟩:∃ a:Op,a=last.op:=⟨_,rfl⟩
  obtain ⟨d1,d2⟩:∃ a:Mark,a=own.getD n ZaJ:=⟨_,rfl⟩
  rw [← d2,← a2,← b2]
  obtain ⟨m1,m2,m3,m4,m5⟩:=d1
  obtain ⟨p1,p2⟩:=a1
  obtain ⟨q1,q2⟩:=b1
  obtain ⟨r1,r2⟩:=m3
  simp only [Bool.and_eq_true,beq_iff_eq,decide_eq_true_eq,Bool.and_true,Op.mk.injEq]
  constructor
  · rintro ⟨⟨⟨⟨⟨⟨⟨⟨x1,x2⟩,x3⟩,x4,x5⟩,x6⟩,x7⟩,x8⟩,x9⟩,x10⟩
    exact ⟨hn,⟨x4,x5⟩,x6,x7,x8,⟨x1.symm,x2.symm⟩,x3.symm,x9,x10⟩
  · rintro ⟨_,⟨x4,x5⟩,x6,x7,x8,⟨x1,x2⟩,x3,x9,x10⟩
    exact ⟨⟨⟨⟨⟨⟨⟨⟨x1.symm,x2.symm⟩,x3.symm⟩,x4,x5⟩,x6⟩,x7⟩,x8⟩,x9⟩,x10⟩
theorem Zlw {c:Config} {j:Int} {own:List Mark} (hc:ZjS c) (ho:own.length≤4294967296):∀ (l:List Event) (n:Nat) (op:Bool) (last:Event),(∀ e∈l,ZnH e)→n≤own.length →
    Zcg Zcc (evts l j) (c,false,own.drop n,last,op)=match ansL c.lo c.hi j own (n,op,last) l with
      | some (n',op',last')=>some (.inl (c,false,own.drop n',last',op'))
      | none=>some (.inr false)
  | [],n,op,last,_,_=>rfl
  | e :: l, n, op, last, he, hn => by
    have he':=fun x hx=>he x (List.mem_cons_of_mem _ hx)
    have hee:=he e (List.mem_cons_self ..)
    have hev:evts (e::l) j=if e.t=j∧e.kind≠3 then e::evts l j else evts l j:=by
      unfold evts
      rw [List.filter_cons]
      by_cases g:e.t=j∧e.kind≠3
      · rw [if_pos g,if_pos (by simp [g.1,g.2])]
      · rw [if_neg g,if_neg (by simp only [Bool.and_eq_true,beq_iff_eq,bne_iff_ne];exact g)]
    show _=match (match ansE c.lo c.hi j own (n,op,last) e with | some s=>ansL c.lo c.hi j own s l | none=>none) with
      | some (n',op',last')=>some (Sum.inl (c,false,own.drop n',last',op'))
      | none=>some (Sum.inr false)
    rw [hev]
    unfold ansE
    by_cases g:e.t=j∧e.kind≠3
    · rw [if_pos g,if_neg (show ¬(e.t≠j∨e.kind=3) from fun h=>h.elim (fun x=>x g.1) g.2)]
      unfold Zcg
      have hT:Zcc (c,false,own.drop n,last,op) e=Zfp c false (own.drop n) last op e:=rfl
      rw [hT]
      unfold Zfp
      by_cases k:e.kind=1
      · rw [Zbd k,if_pos k]
        cases op with
        | true=>rw [if_pos rfl];rfl
        | false =>
          rw [if_neg (show ¬(false=true) by decide)]
          exact Zlw hc ho l n true e he' hn
      · rw [ZaO k,if_neg k]
        cases op with
        | false=>rw [if_neg (show ¬(false=true∧_) from fun h=>absurd h.1 (by decide))];rfl
        | true =>
          by_cases hlt:n<own.length
          · have hd:own.drop n=own.getD n ZaJ::own.drop (n+1):=by
              rw [List.drop_eq_getElem_cons hlt,List.getD_eq_getElem?_getD,List.getElem?_eq_getElem hlt,Option.getD_some]
            have hl2:(own.drop (n+1)).length≤4294967296:=by rw [List.length_drop];omega
            rw [hd]
            generalize hr:own.drop (n+1)=rest at hl2
            have hz:(((own.getD n ZaJ::rest).length:Int) == 0)=false:=by rw [List.length_cons];simp;omega
            have hp:decide ((0:Int)<((own.getD n ZaJ::rest).length:Int))=true:=decide_eq_true (by rw [List.length_cons];omega)
            have hp1:decide ((1:Int)≤((own.getD n ZaJ::rest).length:Int))=true:=decide_eq_true (by rw [List.length_cons];omega)
            have hp2:decide (((own.getD n ZaJ::rest).length:Int)≤((own.getD n ZaJ::rest).length:Int))=true:=decide_eq_true (Int.le_refl _)
            have hdr:List.drop (Int.toNat (1:Int)) (List.take ((own.getD n ZaJ::rest).length:Int).toNat (own.getD n ZaJ::rest))=rest:=by
              rw [Int.toNat_natCast,List.take_length];rfl
            have hans:ZfO (c,(own.getD n ZaJ::rest).getD (Int.toNat (0:Int)) ZaJ,last,e)=some (fit c (own.getD n ZaJ) last e):=Zoz _ _ hc hee
            simp only [hz,hp,hp1,hp2,hdr,hans,cond_true,cond_false,Bool.not_true]
            by_cases f:Fits c.lo c.hi own n last e
            · rw [(Zuf hlt).2 f,if_pos ⟨by trivial,f⟩]
              show Zcg Zcc (evts l j) (c,false,rest,last,false)=_
              rw [← hr]
              exact Zlw hc ho l (n+1) false last he' hlt
            · have:fit c (own.getD n ZaJ) last e=false:=by
                cases hb:fit c (own.getD n ZaJ) last e with
                | false=>rfl
                | true=>exact (f ((Zuf hlt).1 hb)).elim
              rw [this,if_neg (fun x=>f x.2)]
              rfl
          · rw [List.drop_of_length_le (by omega),if_neg (fun x=>hlt x.2.1)]
            rfl
    · rw [if_neg g,if_pos (show e.t≠j∨e.kind=3 from by
        by_cases x:e.t=j
        · by_cases y:e.kind=3
          · exact .inr y
          · exact (g ⟨x,y⟩).elim
        · exact .inl x)]
      exact Zlw hc ho l n op last he' hn
def AnsP (lo hi j:Int) (own:List Mark) (l:List Event):Prop :=
  ∃ n op last,ansL lo hi j own (0,false,ZeI) l=some (n,op,last)∧(own.length=n∨(own.length=n+1∧op=true∧(own.getD n ZaJ).op=last.op∧(own.getD n ZaJ).item=last.item∧last.step<(own.getD n ZaJ).step))
noncomputable instance (lo hi j:Int) (own:List Mark) (l:List Event):Decidable (AnsP lo hi j own l):=Classical.propDecidable _
theorem ZpV {lo hi j:Int} {own:List Mark}:∀ {l:List Event} {s s':Nat×Bool×Event},ansL lo hi j own s l=some s'→s.1≤own.length→s'.1≤own.length
  | [],s,s',h,hs=>by cases h;exact hs
  | e :: l, s, s', h, hs => by
    have h:(match ansE lo hi j own s e with | some s=>ansL lo hi j own s l | none=>none)=some s':=h
    cases h1:ansE lo hi j own s e with
    | none=>rw [h1] at h;cases h
    | some v =>
      rw [h1] at h
      refine ZpV h ?_
      unfold ansE at h1
      split at h1
      · rw [← Option.some.inj h1];exact hs
      · split at h1
        · split at h1
          · cases h1
          · rw [← Option.some.inj h1];exact hs
        · split at h1
          · rename_i f
            rw [← Option.some.inj h1]
            exact f.2.1
          · cases h1
theorem Zo2 {c:Config} {l:List Mark} {h:List Event} (j:Int) (hc:ZjS c) (he:∀ e∈h,ZnH e) (hl:l.length≤4294967296) (hh:h.length≤4294967296) :
    Zgb c l h j=some (decide (AnsP c.lo c.hi j (Za2 j l) h)):=by
  have hle:=List.length_filter_le (fun m:Mark=>m.t == j) l
  have hcol:Zdd (l,j)=some (Za2 j l):=ZtB l j hl
  obtain ⟨own,ho⟩:∃ own,own=Za2 j l:=⟨_,rfl⟩
  have hol:own.length≤4294967296:=by rw [ho];unfold Za2;omega
  have hf:=Zlw (c:=c) (j:=j) (own:=own) hc hol h 0 false ZeI he (Nat.zero_le _)
  rw [List.drop_zero] at hf
  have hW:ZhG ((h,j),c,false,own,Event.mk (0:Int) (0:Int) (0:Int) (Op.mk (0:Int) (0:Int)) (0:Int) false (0:Int),false)=Zcg Zcc (evts h j) (c,false,own,ZeI,false) :=
    Zyh (it:=itEvents) (ZbQ hh) rfl
  unfold Zgb
  rw [hcol,← ho]
  simp only []
  rw [hW,hf]
  cases ha:ansL c.lo c.hi j own (0,false,ZeI) h with
  | none =>
    simp only []
    rw [decide_eq_false]
    rintro ⟨n,op,last,h1,_⟩
    rw [ha] at h1;cases h1
  | some s =>
    obtain ⟨n,op,last⟩:=s
    have hn:n≤own.length:=ZpV ha (Nat.zero_le _)
    have key:AnsP c.lo c.hi j own h↔(own.length=n∨(own.length=n+1∧op=true∧(own.getD n ZaJ).op=last.op∧(own.getD n ZaJ).item=last.item∧last.step<(own.getD n ZaJ).step)):=by
      constructor
      · rintro ⟨n',op',last',h1,h2⟩
        rw [ha] at h1
        cases h1
        exact h2
      · intro h2
        exact ⟨n,op,last,ha,h2⟩
    simp only []
    by_cases a:own.length=n
    · have e1:(((own.drop n).length:Int) == 0)=true:=by rw [List.length_drop,a,Nat.sub_self];rfl
      rw [e1,decide_eq_true (key.2 (.inl a))];rfl
    · have e1:(((own.drop n).length:Int) == 0)=false:=beq_eq_false_iff_ne.2 (by rw [List.length_drop];omega)
      rw [e1]
      simp only [cond_false]
      by_cases a2:own.length=n+1
      · have e3:decide (((own.drop n).length:Int)>1)=false:=decide_eq_false (by rw [List.length_drop];omega)
        have b4:decide ((0:Int)<((own.drop n).length:Int))=true:=decide_eq_true (by rw [List.length_drop];omega)
        have hd:(own.drop n).getD (Int.toNat (0:Int)) ZaJ=own.getD n ZaJ:=by
          rw [List.getD_eq_getElem?_getD,List.getD_eq_getElem?_getD,List.getElem?_drop]
          rfl
        rw [e3,b4,hd]
        simp only [cond_true,cond_false,Zez,ZjW]
        cases op with
        | false =>
          have hdf:decide (AnsP c.lo c.hi j own h)=false:=decide_eq_false (by
            intro x
            rcases key.1 x with y | y
            · exact a y
            · exact absurd y.2.1 (by decide))
          rw [hdf]
          rfl
        | true =>
          simp only [Bool.not_true,cond_false]
          generalize own.getD n ZaJ=m at key
          obtain ⟨m1,m2,⟨m3,m4⟩,m5,m6⟩:=m
          obtain ⟨l1,l2,l3,⟨l4,l5⟩,l6,l7,l8⟩:=last
          by_cases x:m3=l4∧m4=l5∧m2=l3
          · obtain ⟨rfl,rfl,rfl⟩:=x
            simp only [beq_self_eq_true,Bool.and_true,cond_true]
            congr 1
            rw [decide_eq_decide,key]
            constructor
            · intro y;exact .inr ⟨a2,rfl,rfl,rfl,y⟩
            · rintro (y | y)
              · exact (a y).elim
              · exact y.2.2.2.2
          · have:(m3 == l4 && (m4 == l5 && true) && (m2 == l3 && true))=false:=by
              rw [Bool.eq_false_iff]
              intro y
              simp only [Bool.and_eq_true,beq_iff_eq,Bool.and_true] at y
              exact x ⟨y.1.1,y.1.2,y.2⟩
            rw [this]
            simp only [cond_false]
            rw [decide_eq_false]
            intro y
            rcases key.1 y with z | z
            · exact a z
            · obtain ⟨_,_,z1,z2,_⟩:=z
              have z1:(⟨m3,m4⟩:Op)=⟨l4,l5⟩:=z1
              cases z1
              exact x ⟨rfl,rfl,z2⟩
      · have e3:decide (((own.drop n).length:Int)>1)=true:=decide_eq_true (by rw [List.length_drop];omega)
        rw [e3]
        simp only [cond_true]
        rw [decide_eq_false]
        intro x
        rcases key.1 x with y | y
        · exact a y
        · exact a2 y.1
structure LinP (w:Wld):Prop where
  srt:Srt w.log
  items:∀ i:Nat,(i:Int)<w.c.items→(replay w.c w.log i).2=true∧(replay w.c w.log i).1=w.m.words.getD (pl w.c i 0).toNat 0
  threads:∀ j:Nat,(j:Int)<w.c.threads→AnsP w.c.lo w.c.hi j (Za2 j w.log) w.hist
noncomputable instance (w:Wld):Decidable (LinP w):=Classical.propDecidable _
structure WldOK (w:Wld):Prop where
  cfg:CfgOK w.c
  conf:ZjS w.c
  marks:∀ m∈w.log,Zw8 m
  events:∀ e∈w.hist,ZnH e
  log:w.log.length≤1000000
  hist:w.hist.length≤1000000
  words:(w.m.words.length:Int)=sizeOf w.c
theorem Zva {w:Wld} (h:WldOK w):(ZfM (w,w.c.items,0)=some (.inl w)∧∀ i:Nat,i<w.c.items.toNat→((replay w.c w.log i).2=true∧(replay w.c w.log i).1=w.m.words.getD (pl w.c i 0).toNat 0)) ∨
    (ZfM (w,w.c.items,0)=some (.inr false)∧¬∀ i:Nat,i<w.c.items.toNat→((replay w.c w.log i).2=true∧(replay w.c w.log i).1=w.m.words.getD (pl w.c i 0).toNat 0)):=by
  have hi:=h.cfg.items
  have hlog:=h.log
  refine Znm (step:=ZcP) (fun j=>(w,w.c.items,(j:Int))) w.c.items.toNat (fun i=>(replay w.c w.log i).2=true∧(replay w.c w.log i).1=w.m.words.getD (pl w.c i 0).toNat 0) (y:=w) (fun j hj=>?_) ?_
  · have b:decide ((j:Int)<w.c.items)=true:=decide_eq_true (by omega)
    have w1:Zad .i64 ((j:Int)+1)=((j+1:Nat):Int):=by rw [Zau (by omega) (by omega)];omega
    have hcl:=Zk7 h.cfg (i:=(j:Int)) (by omega) (by omega)
    have hcell:ZcA (w.c,(j:Int))=some (pl w.c j 0):=by
      show ZfN _ _=_
      rw [Zjr h.cfg]
      unfold cellAt
      rw [if_neg (by omega)]
      simp [pl]
    have hld:ZbN (w.m,pl w.c j 0)=some (w.m.words.getD (pl w.c j 0).toNat 0,0):=by
      have e:pl w.c j 0=(j:Int)*Zav w.c:=by simp [pl]
      have:=h.words
      exact Zhk (m:=w.m) (by omega) (show pl w.c (j:Int) 0<(w.m.words.length:Int) by omega)
    simp only [ZcP,ZfH,b,cond_true,w1,Zc8,Zp7 (l:=w.log) (j:Int) h.conf h.marks (by omega),hcell,hld,bne_self_eq_false,cond_false]
    cases h2:(replay w.c w.log j).2 with
    | false=>exact .inr ⟨fun x=>absurd x.1 (by decide),rfl⟩
    | true =>
      simp only [Bool.not_true,cond_false]
      by_cases h3:(replay w.c w.log j).1=w.m.words.getD (pl w.c j 0).toNat 0
      · rw [Zik h3];exact .inl ⟨⟨by trivial,h3⟩,rfl⟩
      · rw [Zgz h3];exact .inr ⟨fun x=>h3 x.2,rfl⟩
  · have b:decide ((w.c.items.toNat:Int)<w.c.items)=false:=decide_eq_false (by omega)
    simp only [ZcP,ZfH,b,cond_false]
theorem ZrV {w:Wld} (h:WldOK w):(Zfq (w,w.c.threads,0)=some (.inl ())∧∀ i:Nat,i<w.c.threads.toNat→AnsP w.c.lo w.c.hi i (Za2 i w.log) w.hist) ∨
    (Zfq (w,w.c.threads,0)=some (.inr false)∧¬∀ i:Nat,i<w.c.threads.toNat→AnsP w.c.lo w.c.hi i (Za2 i w.log) w.hist):=by
  have hi:=h.cfg.threads
  have hlog:=h.log
  have hhist:=h.hist
  refine Znm (step:=Zcz) (fun j=>(w,w.c.threads,(j:Int))) w.c.threads.toNat (fun i=>AnsP w.c.lo w.c.hi i (Za2 i w.log) w.hist) (y:=()) (fun j hj=>?_) ?_
  · have b:decide ((j:Int)<w.c.threads)=true:=decide_eq_true (by omega)
    have w1:Zad .i64 ((j:Int)+1)=((j+1:Nat):Int):=by rw [Zau (by omega) (by omega)];omega
    simp only [Zcz,Zfn,b,cond_true,w1,Zc0,Zo2 (c:=w.c) (l:=w.log) (h:=w.hist) (j:Int) h.conf h.events (by omega) (by omega)]
    by_cases g:AnsP w.c.lo w.c.hi j (Za2 j w.log) w.hist
    · rw [decide_eq_true g];exact .inl ⟨g,rfl⟩
    · rw [decide_eq_false g];exact .inr ⟨g,rfl⟩
  · have b:decide ((w.c.threads.toNat:Int)<w.c.threads)=false:=decide_eq_false (by omega)
    simp only [Zcz,Zfn,b,cond_false]
theorem Zk5 {w:Wld} (h:WldOK w):ZeT w=some (decide (LinP w)):=by
  obtain ⟨e,he,hE⟩:=Zhc w.c
  have he0:=hE.2 h.cfg
  subst he0
  have e1:Zde w.c=some 0:=(Zjy w.c).trans he
  have hlog:=h.log
  have hi:=h.cfg.items
  have hth:=h.cfg.threads
  unfold ZeT
  rw [e1]
  simp only [bne_self_eq_false,cond_false,ZcE]
  rcases ZpU (l:=w.log) (by omega) with ⟨s1,s2⟩ | ⟨s1,s2⟩
  · rw [s1]
    simp only [Bool.not_true,cond_false]
    rcases Zva h with ⟨i1,i2⟩ | ⟨i1,i2⟩
    · rw [i1]
      simp only []
      rcases ZrV h with ⟨t1,t2⟩ | ⟨t1,t2⟩
      · rw [t1]
        simp only []
        rw [decide_eq_true ⟨s2,fun i hi'=>i2 i (by omega),fun j hj=>t2 j (by omega)⟩]
      · rw [t1]
        simp only []
        rw [decide_eq_false (fun x=>t2 fun j hj=>x.threads j (by omega))]
    · rw [i1]
      simp only []
      rw [decide_eq_false (fun x=>i2 fun i hi'=>x.items i (by omega))]
  · rw [s1]
    simp only [Bool.not_false,cond_true]
    rw [decide_eq_false (fun x=>s2 x.srt)]
end Go.Proofs.Mill

/- Any script, run. -/
namespace Go.Proofs.Mill
set_option linter.all false
theorem Zxa {e:SEntry} (h:Ty.Ok .sentry e):Num e.op.v:=by
  have:=h (.int .i64 e.op.v) (by simp [Ty.enc,Zkj])
  cases this with
  | int h=>exact ZwT h
theorem ZtQ {l:List SEntry} (h:(Zap .sentry).Ok l):∀ e∈l,Num e.op.v:=fun e he=>Zxa (h.2 e he)
def ZyN:Wld:=Wld.mk (Config.mk (0:Int) (0:Int) (0:Int) (0:Int) (0:Int) (0:Int) (0:Int) (0:Int) false (0:Int) (0:Int) (0:Int)) (Memo.mk ([]:List Int) ([]:List (List Entry))) ([]:List Thread) (0:Int) (0:Int) (Tape.mk ([]:List Int) (0:Int)) ([]:List Mark) ([]:List Event)
theorem Zwq {c:Config} {l:List SEntry} (h:(allE c l).2=0):CfgOK c∧l.length≤65536∧∀ e∈l,Zcw c e=0:=by
  obtain ⟨e,he,hE⟩:=Zhc c
  unfold allE at h
  rw [he,Option.getD_some] at h
  by_cases h0:e≠0
  · rw [if_pos h0] at h;exact (h0 h).elim
  rw [if_neg h0] at h
  have h0:=Classical.not_not.1 h0
  by_cases h1:l.length>65536
  · rw [if_pos h1] at h;exact absurd h (by decide)
  rw [if_neg h1] at h
  refine ⟨hE.1 h0,by omega,?_⟩
  cases hb:ZgA c 0 l with
  | none=>exact ZqD hb
  | some y =>
    rw [hb] at h
    have key:∀ (l:List SEntry) (i:Nat),ZgA c i l=some y→y.2≠0:=by
      intro l
      induction l with
      | nil=>intro i h;cases h
      | cons e l ih =>
        intro i h
        unfold ZgA at h
        by_cases g:Zcw c e=0
        · rw [if_pos g] at h;exact ih _ h
        · rw [if_neg g] at h;rw [← Option.some.inj h];exact g
    exact (key l 0 hb h).elim
theorem ZzX {c:Config} {l:List SEntry} {d:List Int} (hc:Num c.init∧Num c.lo∧Num c.hi) (hl:∀ e∈l,Num e.op.v) (hd:d.length≤4294967296) :
    (Zfd c l d=some (ZyN,allE c l)∧(allE c l).2≠0) ∨
    (Zfd c l d=some (l.foldl Zeb (newW c d),0,0)∧allE c l=(0,0)∧CfgOK c∧l.length≤65536∧(∀ e∈l,Zcw c e=0)∧∃ ro pa rt co,WInv c (l.foldl Zeb (newW c d)) l.length ro pa rt co∧Lin c (l.foldl Zeb (newW c d)) ro co):=by
  by_cases h:(allE c l).2=0
  · obtain ⟨hC,h1,h2⟩:=Zwq h
    have hB:Inb c c.init:=fun hb=>hC.bounds hb
    have hW:=Zya hC hc.1 hd
    have hE:=WInv.entries hC hc.2.1 hc.2.2 hW (l:=l) (by omega) (fun e he=>⟨h2 e he,hl e he⟩)
    obtain ⟨ro,pa,rt,co,w1,w2⟩:=Lin.entries hC hc.2.1 hc.2.2 hB hW (Zyd hC hc.1 (d:=d)) (l:=l) (by omega) (fun e he=>⟨h2 e he,hl e he⟩)
    rw [Nat.zero_add] at w1
    exact .inr ⟨Zv4 hC h1 h2 hd hE.1,Zui hC h1 h2,hC,h1,h2,ro,pa,rt,co,w1,w2⟩
  · refine .inl ⟨?_,h⟩
    unfold Zfd
    rw [show Zg2 (c,l)=some (allE c l) from Zpp c l]
    simp only []
    rw [Zgz h]
    rfl
end Go.Proofs.Mill

/- The world behind any script is linear; who is pending; how many are. -/
namespace Go.Proofs.Mill
set_option linter.all false
theorem ZfE {c:Config} {i:Int}:∀ {a:List Mark} {x y:Int},Zc5 c i x a=some y→(a.filter fun m=>m.item == i).foldl (ZnA c.lo c.hi) (x,true)=(y,true)
  | [],x,y,h=>by cases h;rfl
  | m :: a, x, y, h => by
    rw [ZeX] at h
    rw [List.filter_cons]
    by_cases e:m.item=i
    · rw [if_neg (fun k=>k e)] at h
      rw [if_pos (by simp [e])]
      by_cases g:m.prior=x∧Inb c (App m.op x c.lo c.hi).1
      · rw [if_pos g] at h
        show (a.filter fun m=>m.item == i).foldl (ZnA c.lo c.hi) ((App m.op x c.lo c.hi).1,true && x == m.prior)=_
        rw [g.1,beq_self_eq_true,Bool.and_self]
        exact ZfE h
      · rw [if_neg g] at h;cases h
    · rw [if_pos e] at h
      rw [if_neg (by simp [e])]
      exact ZfE h
section
variable {c:Config} {w:Wld} {n:Nat} {ro pa rt:Int→Int} {co:Int→Option Int}
theorem Lin.ok (Li:Lin c w ro co) (W:WInv c w n ro pa rt co) (hC:CfgOK c) (hc:ZjS c) (hn:n≤60000):WldOK w:=by
  have hl:=W.log
  have hh:=W.hist
  exact ⟨by rw [W.cE];exact hC,by rw [W.cE];exact hc,fun m hm=>(Li.inlog m hm).2.2.2,fun e he=>(Li.ehist e he).2.2.2.2,by omega,by omega,by rw [W.cE];exact W.lenW⟩
theorem Lin.answered (Li:Lin c w ro co) (W:WInv c w n ro pa rt co) {j:Int} (hj:InT c j):AnsP c.lo c.hi j (Za2 j w.log) w.hist:=by
  obtain ⟨k,op,last,a,b,d,f,g⟩:=(Li.ans j hj).ex
  refine ⟨k,op,last,a,?_⟩
  cases hco:co j with
  | none=>exact .inl (f hco)
  | some x =>
    obtain ⟨g1,g2,g3,g4,g5,g6⟩:=g x hco
    have hr:ro j≠0:=by
      intro h0
      have:=(W.inv.core.k0 j h0).1
      rw [hco] at this;cases this
    have ho:=b.2 hr
    obtain ⟨d1,d2,_⟩:=d ho
    exact .inr ⟨g1,ho,by rw [g2,d1],by rw [g3,d2],g5⟩
theorem ZwD {l:List Mark} (h:l.Pairwise (fun a b=>a.step≤b.step)):Srt l:=by
  intro i hi hlt
  have h1:i<l.length:=by omega
  have h2:i+1<l.length:=by omega
  have:=List.pairwise_iff_getElem.1 h i (i+1) h1 h2 (by omega)
  rw [List.getD_eq_getElem?_getD,List.getD_eq_getElem?_getD,List.getElem?_eq_getElem h1,List.getElem?_eq_getElem h2,Option.getD_some,Option.getD_some] at hlt
  omega
theorem Lin.linear (Li:Lin c w ro co) (W:WInv c w n ro pa rt co) (hC:CfgOK c):LinP w:=by
  have cE:=W.cE
  refine ⟨ZwD Li.srt,fun i hi=>?_,fun j hj=>?_⟩
  · rw [cE] at hi ⊢
    have h1:=Li.cells i (by omega) hi
    have h2:=ZfE h1
    have hb:=Zck hC
    have hr:(vw c w.m w.t).b i 0=w.m.words.getD (pl c i 0).toNat 0:=rd_B ⟨⟨by omega,hi⟩,Int.le_refl 0,by omega⟩
    unfold replay
    rw [h2]
    exact ⟨rfl,hr⟩
  · rw [cE] at hj ⊢
    exact Li.answered W ⟨by omega,hj⟩
end
theorem ZqI {lo hi j:Int} {own:List Mark}:∀ {l:List Event} {s s':Nat×Bool×Event},ansL lo hi j own s l=some s'→(evts l j=[]∧s'=s)∨(∃ e,(evts l j).getLast?=some e∧s'.2.1=(e.kind == 1)∧(s'.2.1=true→s'.2.2=e))
  | [],s,s',h=>.inl ⟨rfl,(Option.some.inj h).symm⟩
  | e :: l, s, s', h => by
    have h:(match ansE lo hi j own s e with | some s=>ansL lo hi j own s l | none=>none)=some s':=h
    cases h1:ansE lo hi j own s e with
    | none=>rw [h1] at h;cases h
    | some v =>
      rw [h1] at h
      have ih:=ZqI h
      have hev:evts (e::l) j=if e.t=j∧e.kind≠3 then e::evts l j else evts l j:=by
        unfold evts
        rw [List.filter_cons]
        by_cases g:e.t=j∧e.kind≠3
        · rw [if_pos g,if_pos (by simp [g.1,g.2])]
        · rw [if_neg g,if_neg (by simp only [Bool.and_eq_true,beq_iff_eq,bne_iff_ne];exact g)]
      rw [hev]
      unfold ansE at h1
      by_cases g:e.t≠j∨e.kind=3
      · rw [if_pos g] at h1
        obtain rfl:=Option.some.inj h1
        rw [if_neg (show ¬(e.t=j∧e.kind≠3) from fun x=>g.elim (fun y=>y x.1) (fun y=>x.2 y))]
        exact ih
      · rw [if_neg g] at h1
        rw [if_pos (show e.t=j∧e.kind≠3 from ⟨Classical.not_not.1 (fun x=>g (.inl x)),fun x=>g (.inr x)⟩)]
        right
        have hv:v.2.1=(e.kind == 1)∧(v.2.1=true→v.2.2=e):=by
          by_cases k:e.kind=1
          · rw [if_pos k] at h1
            split at h1
            · cases h1
            · rw [← Option.some.inj h1,Zbd k];exact ⟨rfl,fun _=>rfl⟩
          · rw [if_neg k] at h1
            split at h1
            · rw [← Option.some.inj h1,ZaO k];exact ⟨rfl,fun x=>by cases x⟩
            · cases h1
        rcases ih with ⟨i1,i2⟩ | ⟨e',i1,i2,i3⟩
        · rw [i1,i2]
          exact ⟨e,rfl,hv⟩
        · refine ⟨e',?_,i2,i3⟩
          cases hq:evts l j with
          | nil=>rw [hq] at i1;cases i1
          | cons a r=>rw [hq] at i1;rw [List.getLast?_cons_cons];exact i1
theorem Zwp {lo hi j:Int} {own:List Mark} {l:List Event} {k:Nat} {op:Bool} {last:Event} (h:ansL lo hi j own (0,false,ZeI) l=some (k,op,last)):pend (evts l j)=if op=true then (last,true) else (ZhL,false):=by
  rcases ZqI h with ⟨h1,h2⟩ | ⟨e,h1,h2,h3⟩
  · cases h2
    rw [h1];rfl
  · have h2:op=(e.kind == 1):=h2
    have h3:op=true→last=e:=h3
    unfold pend
    rw [h1]
    cases op with
    | true =>
      simp only []
      rw [← h2,h3 rfl];rfl
    | false =>
      simp only []
      rw [← h2];rfl
section
variable {c:Config} {w:Wld} {n:Nat} {ro pa rt:Int→Int} {co:Int→Option Int}
end
theorem Ztd:Zef ()=some true:=by
  show Zmm=some true
  kernel_rfl
end Go.Proofs.Mill
