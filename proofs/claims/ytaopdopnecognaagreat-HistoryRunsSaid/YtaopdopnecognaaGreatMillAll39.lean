/- Parts of the proof: MillQLin2, MillQHist, MillQHist2, MillQRunAll, MillQHist3. -/
import Derived.Test.YtaopdopnecognaaGreatMillAll38
import Derived.Test.YtaopdopnecognaaGreatMillFDb
import Derived.Test.YtaopdopnecognaaGreatMillAll4
import Derived.KernelRfl
set_option linter.all false
/- Whatever is done, the ops are as if done one after another: kept by every entry. -/
namespace Go.Proofs.Mill
set_option linter.all false
theorem ZvT (h:Thread):(Zfg h).phase=4∨(Zfg h).phase=7∨(Zfg h).phase=11∨(Zfg h).phase=2:=by
  unfold Zfg
  split
  · exact .inl rfl
  · have:=ZeZ { h with phase:=4,held:=h.held++[h.node],node:=h.node / 2,at_:=0 }
    have e:(ZjB { h with phase:=4,held:=h.held++[h.node],node:=h.node / 2 }).phase=(Ze0 { h with phase:=4,held:=h.held++[h.node],node:=h.node / 2,at_:=0 }).phase:=rfl
    rw [e]
    omega
theorem Ziq (h:Thread):(Ze0 h).phase=7∨(Ze0 h).phase=11∨(Ze0 h).phase=2:=by
  have:=ZeZ h
  omega
section
variable {c:Config} {t:Int} {v v':Vw} {h:Thread} {log:List Mark} {done:Bool}
theorem Za8 {h':Thread}:(put v t h').th t=h':=Zag
theorem ZiA (g:Thread):((ZbE g).phase=0↔Zej g=true):=by
  have:=Zhc g
  cases hd:Zej g with
  | true=>rw [hd] at this;simp at this ⊢;exact this.1
  | false=>rw [hd] at this;simp at this ⊢;omega
theorem Tr.idle (T:Tr c t v h v' log done) (hv:v.th t=h) (hp:h.phase≠0):((v'.th t).phase=0↔done=true):=by
  have no:∀ {p:Int},p≠0→(p=0↔false=true):=fun h=>⟨fun x=>(h x).elim,fun x=>by cases x⟩
  cases T with
  | nop s=>rw [hv];exact no hp
  | start p s=>rw [Za8];cases s <;> exact no (by dsimp only;decide)
  | load p=>rw [Za8];exact no (by dsimp only;decide)
  | casF p hw=>rw [Za8];exact no (by dsimp only;decide)
  | same p e=>rw [Za8];exact ZiA _
  | cas p e=>rw [Za8];exact ZiA _
  | on25 p o=>rw [Za8];cases o <;> exact no (by dsimp only;decide)
  | look1 p k=>rw [Za8];exact no (by dsimp only;decide)
  | look0 p=>rw [Za8];exact no (by dsimp only;decide)
  | lookL p=>rw [Za8];exact no (by have:=Ziq { h with at_:=0 };show (Ze0 { h with at_:=0 }).phase≠0;omega)
  | take p n e=>rw [Za8];exact no (by have:=ZvT h;omega)
  | takeF p=>rw [Za8];exact no (by dsimp only;decide)
  | join p n e=>rw [Za8];exact no (by have:=Ziq { h with phase:=4,stop:=h.node,at_:=0 };show (Ze0 { h with phase:=4,stop:=h.node,at_:=0 }).phase≠0;omega)
  | joinF p=>rw [Za8];exact no (by dsimp only;decide)
  | seeF p a e=>rw [Za8];exact no (by dsimp only;decide)
  | seeD p a k=>rw [Za8];exact no (by dsimp only;decide)
  | close p a e=>rw [Za8];exact no (by have:=Ziq { h with at_:=Zad IntKind.i64 (h.at_+1) };show (Ze0 { h with at_:=Zad IntKind.i64 (h.at_+1) }).phase≠0;omega)
  | closeF p=>rw [Za8];exact no (by dsimp only;decide)
  | takeB p w=>rw [Za8];exact no (by dsimp only;decide)
  | clear p a=>rw [Za8];exact no (by have:=Ziq { h with at_:=Zad IntKind.i64 (h.at_+1) };show (Ze0 { h with at_:=Zad IntKind.i64 (h.at_+1) }).phase≠0;omega)
  | box11 p=>rw [Za8];exact no (by dsimp only;decide)
  | dep p n=>rw [Za8];exact no (by dsimp only;decide)
  | told p e=>rw [Za8];exact no (by dsimp only;decide)
  | res p=>rw [Za8];exact ZiA _
  | tell1 p a w=>rw [Za8];exact no (by dsimp only;decide)
  | tell2 p a w=>rw [Za8];exact ZiA _
  | box17 p=>rw [Za8];exact no (by dsimp only;decide)
  | open18 p=>rw [Za8];exact no (by dsimp only;decide)
  | swap20 p s w=>rw [Za8];exact no (by dsimp only;decide)
  | swap23 p s=>rw [Za8];exact no (by dsimp only;decide)
  | shut20 p e=>rw [Za8];exact no (by dsimp only;decide)
  | shutF p e=>rw [Za8];exact no (by dsimp only;decide)
  | cap21 p w e=>rw [Za8];exact no (by dsimp only;decide)
  | capF p=>rw [Za8];exact no (by dsimp only;decide)
  | absorb p w=>rw [Za8];exact no (by dsimp only;decide)
  | spinF p e=>rw [Za8];exact no (by dsimp only;decide)
  | spinL p e=>rw [Za8];exact no (by dsimp only;omega)
  | spinO p e=>rw [Za8];exact no (by dsimp only;decide)
  | open24 p=>rw [Za8];exact no (by dsimp only;decide)
  | leave p e hw o=>rw [Za8];cases o <;> exact no (by dsimp only;decide)
  | leaveF p e=>rw [Za8];exact no (by dsimp only;decide)
def Zzv (c:Config) (v v':Vw) (h:Thread) (log:List Mark):Prop :=
  (log=[]∧∀ i,v'.b i 0=v.b i 0)∨(log=ZfK c h (v.b h.item 0)∧v'.b h.item 0=allT c.lo c.hi h.batch (v.b h.item 0)∧∀ i,i≠h.item→v'.b i 0=v.b i 0)
theorem Tr.cells (T:Tr c t v h v' log done) (hy:h.phase=3→h.y=allT c.lo c.hi h.batch h.x) (hn:0≤ZaE c) (hat:h.phase=8∨h.phase=10→ZbJ h≠0):Zzv c v v' h log:=by
  have sm:∀ {a b:List Mark},(∀ i,v'.b i 0=v.b i 0)→Zzv c v v' h []:=fun x=>.inl ⟨rfl,x⟩
  have wn:∀ {i m w:Int},m≠0→∀ k,setb v.b i m w k 0=v.b k 0:=fun hm k=>ZdC (fun x=>hm x.2.symm)
  cases T with
  | same p e=>exact .inr ⟨rfl,e.symm,fun i _=>rfl⟩
  | cas p e =>
    refine .inr ⟨by rw [e],?_,fun i hi=>ZdC (fun x=>hi x.1)⟩
    show setb v.b h.item 0 h.y h.item 0=_
    rw [ZfE,hy p,e]
  | take p n e=>exact .inl ⟨rfl,wn (by omega)⟩
  | join p n e=>exact .inl ⟨rfl,wn (by omega)⟩
  | close p a e=>exact .inl ⟨rfl,wn (hat (.inl p))⟩
  | clear p a=>exact .inl ⟨rfl,wn (hat (.inr p))⟩
  | dep p n=>exact .inl ⟨rfl,wn (by omega)⟩
  | swap20 p s w=>exact .inl ⟨rfl,wn (by omega)⟩
  | swap23 p s=>exact .inl ⟨rfl,wn (by omega)⟩
  | nop s=>exact .inl ⟨rfl,fun i=>rfl⟩
  | start p s=>exact .inl ⟨rfl,fun i=>rfl⟩
  | load p=>exact .inl ⟨rfl,fun i=>rfl⟩
  | casF p hw=>exact .inl ⟨rfl,fun i=>rfl⟩
  | on25 p o=>exact .inl ⟨rfl,fun i=>rfl⟩
  | look1 p k=>exact .inl ⟨rfl,fun i=>rfl⟩
  | look0 p=>exact .inl ⟨rfl,fun i=>rfl⟩
  | lookL p=>exact .inl ⟨rfl,fun i=>rfl⟩
  | takeF p=>exact .inl ⟨rfl,fun i=>rfl⟩
  | joinF p=>exact .inl ⟨rfl,fun i=>rfl⟩
  | seeF p a e=>exact .inl ⟨rfl,fun i=>rfl⟩
  | seeD p a k=>exact .inl ⟨rfl,fun i=>rfl⟩
  | closeF p=>exact .inl ⟨rfl,fun i=>rfl⟩
  | takeB p w=>exact .inl ⟨rfl,fun i=>rfl⟩
  | box11 p=>exact .inl ⟨rfl,fun i=>rfl⟩
  | told p e=>exact .inl ⟨rfl,fun i=>rfl⟩
  | res p=>exact .inl ⟨rfl,fun i=>rfl⟩
  | tell1 p a w=>exact .inl ⟨rfl,fun i=>rfl⟩
  | tell2 p a w=>exact .inl ⟨rfl,fun i=>rfl⟩
  | box17 p=>exact .inl ⟨rfl,fun i=>rfl⟩
  | open18 p=>exact .inl ⟨rfl,fun i=>rfl⟩
  | shut20 p e=>exact .inl ⟨rfl,fun i=>rfl⟩
  | shutF p e=>exact .inl ⟨rfl,fun i=>rfl⟩
  | cap21 p w e=>exact .inl ⟨rfl,fun i=>rfl⟩
  | capF p=>exact .inl ⟨rfl,fun i=>rfl⟩
  | absorb p w=>exact .inl ⟨rfl,fun i=>rfl⟩
  | spinF p e=>exact .inl ⟨rfl,fun i=>rfl⟩
  | spinL p e=>exact .inl ⟨rfl,fun i=>rfl⟩
  | spinO p e=>exact .inl ⟨rfl,fun i=>rfl⟩
  | open24 p=>exact .inl ⟨rfl,fun i=>rfl⟩
  | leave p e hw o=>exact .inl ⟨rfl,fun i=>rfl⟩
  | leaveF p e=>exact .inl ⟨rfl,fun i=>rfl⟩
end
structure LinT (c:Config) (w:Wld) (th:Thread) (ro:Int) (co:Option Int) (j:Int):Prop where
  ex:∃ (k:Nat) (op:Bool) (last:Event),ansL c.lo c.hi j (Zbf j w.log) (0,false,Zdj) w.hist=some (k,op,last)∧(op=true↔ro≠0) ∧
    (op=true→last.op=th.op∧last.item=th.item∧last.kind=1∧last.t=j∧last∈w.hist∧last.step≤w.steps) ∧
    (co=none→(Zbf j w.log).length=k) ∧
    (∀ x,co=some x→(Zbf j w.log).length=k+1∧((Zbf j w.log).getD k ZaT).op=th.op∧((Zbf j w.log).getD k ZaT).item=th.item∧((Zbf j w.log).getD k ZaT).prior=x∧last.step<((Zbf j w.log).getD k ZaT).step∧((Zbf j w.log).getD k ZaT).step≤w.steps)
structure Lin (c:Config) (w:Wld) (ro:Int→Int) (co:Int→Option Int):Prop where
  ans:∀ j,InT c j→LinT c w ((vw c w.m w.t).th j) (ro j) (co j) j
  cells:∀ i,0≤i→i<c.items→Zem c i c.init w.log=some ((vw c w.m w.t).b i 0)
  srt:w.log.Pairwise (fun a b=>a.step≤b.step)
  steps:∀ m∈w.log,1≤m.step∧m.step≤w.steps
  asked:∀ m∈w.log,∃ h∈w.hist,h.kind=1∧h.t=m.t∧h.item=m.item∧h.op=m.op∧h.step<m.step
  inlog:∀ m∈w.log,InT c m.t∧(0≤m.item∧m.item<c.items)∧ZgG m.op c.bounded=true∧Num m.op.v
  ehist:∀ h∈w.hist,InT c h.t∧(h.kind=1∨h.kind=2∨h.kind=3)∧h.step≤w.steps∧0≤h.step∧Num h.op.v∧Num h.prior
  may:∀ j,InT c j→ro j≠0→ZgG ((vw c w.m w.t).th j).op c.bounded=true
  hsrt:w.hist.Pairwise (fun a b=>a.step≤b.step)
section
variable {c:Config} {w:Wld} {n:Nat} {ro pa rt ro' pa' rt':Int→Int} {co co':Int→Option Int} {t:Int}
theorem LinT.skip {th:Thread} {r:Int} {cc:Option Int} {j:Int} (L:LinT c w th r cc j) {w':Wld} {h:Event} (hh:h.t≠j∨h.kind=3) (e1:w'.log=w.log) (e2:w'.hist=w.hist++[h]) (e3:w.steps≤w'.steps):LinT c w' th r cc j:=by
  obtain ⟨k,op,last,a,b,d,f,g⟩:=L.ex
  refine ⟨k,op,last,?_,b,fun x=>?_,by rw [e1];exact f,fun x hx=>?_⟩
  · rw [e1,e2,Zgw a,ZlE]
    unfold ansE
    rw [if_pos hh]
  · obtain ⟨d1,d2,d3,d4,d5,d6⟩:=d x
    exact ⟨d1,d2,d3,d4,by rw [e2];exact List.mem_append_left _ d5,by omega⟩
  · rw [e1]
    obtain ⟨g1,g2,g3,g4,g5,g6⟩:=g x hx
    exact ⟨g1,g2,g3,g4,g5,by omega⟩
theorem LinT.same {th:Thread} {r:Int} {cc:Option Int} {j:Int} (L:LinT c w th r cc j) {w':Wld} (e1:Zbf j w'.log=Zbf j w.log) (e2:w'.hist=w.hist) (e3:w.steps≤w'.steps):LinT c w' th r cc j:=by
  obtain ⟨k,op,last,a,b,d,f,g⟩:=L.ex
  refine ⟨k,op,last,by rw [e1,e2];exact a,b,fun x=>?_,by rw [e1];exact f,fun x hx=>?_⟩
  · obtain ⟨d1,d2,d3,d4,d5,d6⟩:=d x
    exact ⟨d1,d2,d3,d4,by rw [e2];exact d5,by omega⟩
  · rw [e1]
    obtain ⟨g1,g2,g3,g4,g5,g6⟩:=g x hx
    exact ⟨g1,g2,g3,g4,g5,by omega⟩
theorem Lin.hist_more (Li:Lin c w ro co) {h:Event} (hs:w.steps≤h.step):(w.hist++[h]).Pairwise (fun a b=>a.step≤b.step):=by
  rw [List.pairwise_append]
  refine ⟨Li.hsrt,List.pairwise_singleton _ _,fun a ha b hb=>?_⟩
  rw [List.mem_singleton] at hb
  subst hb
  have:=(Li.ehist a ha).2.2.1
  omega
theorem Lin.invoke (Li:Lin c w ro co) (W:WInv c w n ro pa rt co) (hC:CfgOK c) {e:SEntry} (ht:InT c e.t) (ho:ZgG e.op c.bounded=true) (hop:Num e.op.v):(¬(w.t.getD e.t.toNat Zas).phase=0→Lin c (invT w e) ro co)∧((w.t.getD e.t.toNat Zas).phase=0→Lin c (invT w e) (seta ro e.t 1) co):=by
  have hth:(vw c w.m w.t).th e.t=w.t.getD e.t.toNat Zas:=Zir ht
  have hst:=W.steps
  constructor
  · intro hp
    have e0:invT w e={ w with hist:=w.hist++[⟨3,e.t,e.item,e.op,0,false,w.steps⟩] }:=by unfold invT;rw [if_pos hp]
    rw [e0]
    refine ⟨fun j hj=>(Li.ans j hj).skip (.inr rfl) rfl rfl (Int.le_refl _),Li.cells,Li.srt,Li.steps,fun m hm=>?_,Li.inlog,fun h hh=>?_,Li.may,Li.hist_more (Int.le_refl _)⟩
    · obtain ⟨h,h1,h2⟩:=Li.asked m hm
      exact ⟨h,List.mem_append_left _ h1,h2⟩
    · rcases List.mem_append.1 hh with hh | hh
      · exact Li.ehist h hh
      · rw [List.mem_singleton] at hh;subst hh
        exact ⟨ht,.inr (.inr rfl),Int.le_refl _,hst.1,hop,ZbM (show (-1000000:Int)≤0∧(0:Int)≤1000000 by decide)⟩
  · intro hp
    have h0:ro e.t=0:=(W.inv.busy ht).2 (by rw [hth];exact hp)
    have e0:invT w e={ w with t:=w.t.set e.t.toNat (ZiG w.c e.t e.item e.op w.now (w.t.getD e.t.toNat Zas).width),hist:=w.hist++[⟨1,e.t,e.item,e.op,0,false,w.steps⟩] }:=by unfold invT;rw [if_neg (fun x=>x hp)]
    rw [e0]
    obtain ⟨b,hb⟩:∃ b,b=ZiG w.c e.t e.item e.op w.now (w.t.getD e.t.toNat Zas).width:=⟨_,rfl⟩
    rw [← hb]
    have hvt:(vw c w.m (w.t.set e.t.toNat b)).th=seta (vw c w.m w.t).th e.t b:=by
      rw [Zps W.lenT ht];rfl
    refine ⟨fun j hj=>?_,Li.cells,Li.srt,Li.steps,fun m hm=>?_,Li.inlog,fun h hh=>?_,fun j hj hr=>?_,Li.hist_more (Int.le_refl _)⟩
    · show LinT c _ ((vw c w.m (w.t.set e.t.toNat b)).th j) (seta ro e.t 1 j) (co j) j
      rw [hvt]
      by_cases ej:j=e.t
      · rw [ej,Zag,Zag]
        obtain ⟨k,op,last,a,b1,d,f,g⟩:=(Li.ans e.t ht).ex
        have hop:op=false:=by
          cases op with
          | false=>rfl
          | true=>exact (b1.1 rfl h0).elim
        have hct:co e.t=none:=(W.inv.core.k0 e.t h0).1
        refine ⟨k,true,⟨1,e.t,e.item,e.op,0,false,w.steps⟩,?_,⟨fun _=>by decide,fun _=>rfl⟩,fun _=>⟨by rw [hb];rfl,by rw [hb];rfl,rfl,rfl,List.mem_append_right _ (List.mem_singleton.2 rfl),Int.le_refl _⟩,f,fun x hx=>by rw [hct] at hx;cases hx⟩
        rw [Zgw a,ZlE,hop]
        unfold ansE
        rw [if_neg (by show ¬(e.t≠e.t∨(1:Int)=3);simp),if_pos rfl,if_neg (show ¬(false=true) by decide)]
      · rw [Zaf ej,Zaf ej]
        exact (Li.ans j hj).skip (.inl (Ne.symm ej)) rfl rfl (Int.le_refl _)
    · obtain ⟨h,h1,h2⟩:=Li.asked m hm
      exact ⟨h,List.mem_append_left _ h1,h2⟩
    · rcases List.mem_append.1 hh with hh | hh
      · exact Li.ehist h hh
      · rw [List.mem_singleton] at hh;subst hh
        exact ⟨ht,.inl rfl,Int.le_refl _,hst.1,hop,ZbM (show (-1000000:Int)≤0∧(0:Int)≤1000000 by decide)⟩
    · show ZgG ((vw c w.m (w.t.set e.t.toNat b)).th j).op c.bounded=true
      rw [hvt]
      by_cases ej:j=e.t
      · rw [ej,Zag,hb];exact ho
      · rw [Zaf ej] at hr ⊢;exact Li.may j hj hr
theorem Core.inBatch {ba:Int→List Entry} {ks:Int→List Kid} {opf:Int→Op} {it:Int→Int} (C:Core c ba ks opf it ro pa rt co) {r:Int} (hr:ro r=1) (j:Int):(ro j≠0∧co j=none∧rt j=r)↔idxOf (ba r) j<(ba r).length:=by
  obtain ⟨cr,rr⟩:=C.k1 r (by omega)
  constructor
  · rintro ⟨a,b,d⟩
    obtain ⟨_,_,o,hs⟩:=C.k5 j a b
    rw [d] at hs
    obtain ⟨r1,hr1⟩:=C.k3 j a
    have hm:(⟨j,opf j⟩:Entry)∈ba r:=hs.mem (by rw [hr1];exact List.mem_cons_self ..)
    exact ZAt hm
  · intro h
    unfold idxOf at h
    have h':((ba r).map (·.t)).findIdx (fun t=>t == j)<((ba r).map (·.t)).length:=by rwa [List.length_map]
    have h2:=List.findIdx_getElem (w:=h')
    have h3:j∈(ba r).map (·.t):=by
      rw [← eq_of_beq h2];exact List.getElem_mem h'
    obtain ⟨e,he,rfl⟩:=List.mem_map.1 h3
    obtain ⟨a,b,d,f,g⟩:=C.k4 r (by omega) cr e he
    exact ⟨a,f,by rw [g,rr]⟩
theorem Lin.pick (Li:Lin c w ro co) (W:WInv c w n ro pa rt co) (hC:CfgOK c) (hlo:Num c.lo) (hhi:Num c.hi) (hn:n≤200000) (hci:Inb c c.init) (ht:InT c t) (hp:(w.t.getD t.toNat Zas).phase≠0) :
    ∃ ro' pa' rt' co',WInv c (ZdB w t (ZaL (ZbB w t))) (n+1) ro' pa' rt' co'∧Lin c (ZdB w t (ZaL (ZbB w t))) ro' co':=by
  obtain ⟨_,ro',pa',rt',co1,W',info,T⟩:=W.pick hC hlo hhi hn ht hp
  refine ⟨ro',pa',rt',_,W',?_⟩
  have hth:(vw c w.m w.t).th t=w.t.getD t.toNat Zas:=Zir ht
  have hkp:=Zmh (ZbB w t)
  have hL:=W.inv.loc t ht
  have hro:ro t≠0:=by
    intro h0
    have:=(W.inv.busy ht).1 h0
    rw [hth] at this
    exact hp this
  have hop1:(ZaL (ZbB w t)).th.op=(w.t.getD t.toNat Zas).op:=ZuO hkp
  have hit1:(ZaL (ZbB w t)).th.item=(w.t.getD t.toNat Zas).item:=Zwk hkp
  obtain ⟨u,hu⟩:∃ u,u=ZaL (ZbB w t):=⟨_,rfl⟩
  rw [← hu] at W' info T hop1 hit1 ⊢
  have hst:=W.steps
  have hs:Zel w=w.steps+1:=by unfold Zel;rw [Zav (by omega) (by omega)]
  have hvth:(vw c (ZdB w t u).m (ZdB w t u).t).th=seta (vw c w.m w.t).th t u.th:=by
    show vwT c (w.t.set t.toNat u.th)=_
    rw [ZwY W.lenT ht];rfl
  have hidle:=T.idle hth hp
  rw [hvth,Zag] at hidle
  have hcells:=T.cells (fun p=>by rw [← hth] at p ⊢;exact hL.y p) (Zbu c).1 (fun p=>by
    rw [← hth] at p ⊢
    have ha:=hL.ari.2.2.2.2.2.2.1 (by omega)
    have:=(W.inv.nodes t ht).1 _ (ZgY (by omega) ha)
    omega)
  have hbz:∀ j,InT c j→j≠t→(ro' j=0↔ro j=0):=by
    intro j hj hjt
    rw [W'.inv.busy hj,W.inv.busy hj,hvth,Zaf hjt]
  have hbt:ro' t=0↔u.done=true:=by
    rw [W'.inv.busy ht,hvth,Zag];exact hidle
  obtain ⟨co',hco'⟩:∃ co',co'=if u.done=true then seta co1 t none else co1:=⟨_,rfl⟩
  rw [← hco'] at W' ⊢
  have hcoj:∀ j,j≠t→co' j=co1 j:=by
    intro j hj;rw [hco'];split
    · rw [Zaf hj]
    · rfl
  obtain ⟨ms,hms⟩:∃ ms,ms=u.log.map (ZcC (Zel w)):=⟨_,rfl⟩
  have hlog:(ZdB w t u).log=w.log++ms:=by rw [hms];rfl
  have hsteps:(ZdB w t u).steps=w.steps+1:=hs
  have own:∀ j,InT c j→∃ (k:Nat) (op:Bool) (last:Event),ansL c.lo c.hi j (Zbf j (w.log++ms)) (0,false,Zdj) w.hist=some (k,op,last)∧(op=true↔ro j≠0) ∧
      (op=true→last.op=((vw c w.m w.t).th j).op∧last.item=((vw c w.m w.t).th j).item∧last.kind=1∧last.t=j∧last∈w.hist∧last.step≤w.steps) ∧
      (co1 j=none→(Zbf j (w.log++ms)).length=k) ∧
      (∀ x,co1 j=some x→(Zbf j (w.log++ms)).length=k+1∧((Zbf j (w.log++ms)).getD k ZaT).op=((vw c w.m w.t).th j).op∧((Zbf j (w.log++ms)).getD k ZaT).item=((vw c w.m w.t).th j).item∧((Zbf j (w.log++ms)).getD k ZaT).prior=x∧last.step<((Zbf j (w.log++ms)).getD k ZaT).step∧((Zbf j (w.log++ms)).getD k ZaT).step≤w.steps+1):=by
    intro j hj
    obtain ⟨k,op,last,a,b,d,f,g⟩:=(Li.ans j hj).ex
    rcases info.1 with ⟨e1,e2⟩ | ⟨hr1,e1,e2⟩
    · have:ms=[]:=by rw [hms,e1];rfl
      rw [this,List.append_nil,e2]
      exact ⟨k,op,last,a,b,d,f,fun x hx=>by obtain ⟨g1,g2,g3,g4,g5,g6⟩:=g x hx;exact ⟨g1,g2,g3,g4,g5,by omega⟩⟩
    · have hmo:Zbf j ms=if idxOf ((vw c w.m w.t).th t).batch j<((vw c w.m w.t).th t).batch.length then [⟨j,((vw c w.m w.t).th t).item,(((vw c w.m w.t).th t).batch.getD (idxOf ((vw c w.m w.t).th t).batch j) ⟨0,⟨0,0⟩⟩).op,allT c.lo c.hi (((vw c w.m w.t).th t).batch.take (idxOf ((vw c w.m w.t).th t).batch j)) ((vw c w.m w.t).b ((vw c w.m w.t).th t).item 0),Zel w⟩] else []:=by
        rw [hms,e1]
        exact Zq6 _ _ j _ _ (W.inv.core.nod t hro)
      have hib:=W.inv.core.inBatch hr1 j
      rw [Zvp,hmo]
      by_cases hlt:idxOf ((vw c w.m w.t).th t).batch j<((vw c w.m w.t).th t).batch.length
      · obtain ⟨q1,q2,q3⟩:=hib.2 hlt
        have hf:=f q2
        have hc1:co1 j=some (allT c.lo c.hi (((vw c w.m w.t).th t).batch.take (idxOf ((vw c w.m w.t).th t).batch j)) ((vw c w.m w.t).b ((vw c w.m w.t).th t).item 0)):=by
          rw [e2];exact if_pos ⟨q1,q2,q3⟩
        have hd:=d (b.2 q1)
        have hget:(((vw c w.m w.t).th t).batch.getD (idxOf ((vw c w.m w.t).th t).batch j) ⟨0,⟨0,0⟩⟩)∈((vw c w.m w.t).th t).batch:=by
          rw [List.getD_eq_getElem?_getD,List.getElem?_eq_getElem hlt];exact List.getElem_mem hlt
        have hgt:(((vw c w.m w.t).th t).batch.getD (idxOf ((vw c w.m w.t).th t).batch j) ⟨0,⟨0,0⟩⟩).t=j:=by
          rw [List.getD_eq_getElem?_getD,List.getElem?_eq_getElem hlt]
          have h':(((vw c w.m w.t).th t).batch.map (·.t)).findIdx (fun t=>t == j)<(((vw c w.m w.t).th t).batch.map (·.t)).length:=by rw [List.length_map];exact hlt
          have h2:=List.findIdx_getElem (w:=h')
          have:=eq_of_beq h2
          rw [List.getElem_map] at this
          exact this
        have hk4:=W.inv.core.k4 t hro (W.inv.core.k1 t (by omega)).1 _ hget
        rw [hgt] at hk4
        rw [if_pos hlt]
        refine ⟨k,op,last,ZqX a,b,d,fun x=>(by rw [hc1] at x;cases x),fun x hx=>?_⟩
        rw [hc1] at hx
        have hx:=Option.some.inj hx
        have hg:(Zbf j w.log++[(⟨j,((vw c w.m w.t).th t).item,(((vw c w.m w.t).th t).batch.getD (idxOf ((vw c w.m w.t).th t).batch j) ⟨0,⟨0,0⟩⟩).op,allT c.lo c.hi (((vw c w.m w.t).th t).batch.take (idxOf ((vw c w.m w.t).th t).batch j)) ((vw c w.m w.t).b ((vw c w.m w.t).th t).item 0),Zel w⟩:Mark)]).getD k ZaT=⟨j,((vw c w.m w.t).th t).item,(((vw c w.m w.t).th t).batch.getD (idxOf ((vw c w.m w.t).th t).batch j) ⟨0,⟨0,0⟩⟩).op,allT c.lo c.hi (((vw c w.m w.t).th t).batch.take (idxOf ((vw c w.m w.t).th t).batch j)) ((vw c w.m w.t).b ((vw c w.m w.t).th t).item 0),Zel w⟩:=by
          rw [List.getD_eq_getElem?_getD,List.getElem?_append_right (by omega),hf,Nat.sub_self];rfl
        rw [hg]
        refine ⟨by rw [List.length_append,hf];rfl,hk4.2.1.symm,hk4.2.2.1.symm,hx,?_,?_⟩
        · show last.step<Zel w
          rw [hs];omega
        · show Zel w≤w.steps+1
          rw [hs];exact Int.le_refl _
      · rw [if_neg hlt,List.append_nil]
        have hc1:co1 j=co j:=by rw [e2];exact if_neg (fun x=>hlt (hib.1 x))
        rw [hc1]
        exact ⟨k,op,last,a,b,d,f,fun x hx=>by obtain ⟨g1,g2,g3,g4,g5,g6⟩:=g x hx;exact ⟨g1,g2,g3,g4,g5,by omega⟩⟩
  have hmst:∀ m∈ms,m.step=w.steps+1:=by
    intro m hm
    rw [hms] at hm
    obtain ⟨m0,_,rfl⟩:=List.mem_map.1 hm
    exact hs
  have hment:∀ m∈ms,∃ e∈((vw c w.m w.t).th t).batch,ro t=1∧m.t=e.t∧m.op=e.op∧m.item=((vw c w.m w.t).th t).item:=by
    intro m hm
    rw [hms] at hm
    obtain ⟨m0,hm0,rfl⟩:=List.mem_map.1 hm
    rcases info.1 with ⟨e1,_⟩ | ⟨hr1,e1,_⟩
    · rw [e1] at hm0;cases hm0
    · rw [e1] at hm0
      unfold ZfK at hm0
      obtain ⟨i,hi,hg⟩:=List.mem_iff_getElem.1 hm0
      rw [List.getElem_zipWith] at hg
      rw [List.length_zipWith] at hi
      exact ⟨((vw c w.m w.t).th t).batch[i]'(by omega),List.getElem_mem _,hr1,by rw [← hg];rfl,by rw [← hg];rfl,by rw [← hg];rfl⟩
  have hk4m:∀ m∈ms,InT c m.t∧ro m.t≠0∧((vw c w.m w.t).th m.t).op=m.op∧((vw c w.m w.t).th m.t).item=m.item:=by
    intro m hm
    obtain ⟨e,he,hr1,a,b,d⟩:=hment m hm
    have hk:=W.inv.core.k4 t hro (W.inv.core.k1 t (by omega)).1 e he
    rw [a,b,d]
    exact ⟨W.inv.core.ent t hro e he,hk.1,hk.2.1,hk.2.2.1⟩
  have hopt:((vw c w.m w.t).th t).op=u.th.op:=by rw [hop1,hth]
  have hitt:((vw c w.m w.t).th t).item=u.th.item:=by rw [hit1,hth]
  refine ⟨fun j hj=>?_,fun i h0 h1=>?_,?_,fun m hm=>?_,fun m hm=>?_,fun m hm=>?_,fun h hh=>?_,fun j hj hr=>?_,?_⟩
  · rw [hvth]
    obtain ⟨k,op,last,a,b,d,f,g⟩:=own j hj
    by_cases ej:j=t
    · rw [ej] at a b d f g hj ⊢
      rw [Zag]
      have hopen:op=true:=b.2 hro
      obtain ⟨d1,d2,d3,d4,d5,d6⟩:=d hopen
      cases hd:u.done with
      | false =>
        have hh:(ZdB w t u).hist=w.hist:=by show (if u.done=true then _ else _)=_;rw [hd];rfl
        have hct:co' t=co1 t:=by rw [hco',hd];rfl
        refine ⟨k,op,last,by rw [hlog,hh];exact a,⟨fun _ x=>?_,fun _=>hopen⟩,fun _=>⟨by rw [← hopt];exact d1,by rw [← hitt];exact d2,d3,d4,by rw [hh];exact d5,by rw [hsteps];omega⟩,fun x=>?_,fun x hx=>?_⟩
        · have:=hbt.1 x;rw [hd] at this;cases this
        · rw [hlog];exact f (by rw [← hct];exact x)
        · rw [hlog,hsteps]
          have:=g x (by rw [← hct];exact hx)
          rw [hopt,hitt] at this
          exact this
      | true =>
        have hh:(ZdB w t u).hist=w.hist++[Zjz w t u]:=by show (if u.done=true then _ else _)=_;rw [hd];rfl
        have hc1:co1 t=some u.th.x:=by
          have:=info.2 hd
          rw [hvth,Zag] at this
          exact this
        have hct:co' t=none:=by rw [hco',hd,if_pos rfl,Zag]
        obtain ⟨g1,g2,g3,g4,g5,g6⟩:=g _ hc1
        have hfit:Fits c.lo c.hi (Zbf t (w.log++ms)) k last (Zjz w t u):=by
          refine ⟨by omega,by rw [g2,hopt];rfl,by rw [g3,hitt];rfl,g4,?_,by rw [d1,hopt];rfl,by rw [d2,hitt];rfl,g5,?_⟩
          · show (App u.th.op u.th.x w.c.lo w.c.hi).2=(App u.th.op u.th.x c.lo c.hi).2
            rw [W.cE]
          · show _≤Zel w
            rw [hs];exact g6
        refine ⟨k+1,false,last,?_,⟨fun x=>(by cases x),fun x=>(x (hbt.2 hd)).elim⟩,fun x=>(by cases x),fun _=>?_,fun x hx=>by rw [hct] at hx;cases hx⟩
        · rw [hlog,hh,Zgw a,ZlE]
          unfold ansE
          rw [if_neg (by show ¬(t≠t∨(2:Int)=3);simp),if_neg (by show ¬(2:Int)=1;decide),if_pos ⟨hopen,hfit⟩]
        · rw [hlog];exact g1
    · rw [Zaf ej,hcoj j ej]
      have hskip:ansL c.lo c.hi j (Zbf j (ZdB w t u).log) (0,false,Zdj) (ZdB w t u).hist=some (k,op,last):=by
        rw [hlog]
        show ansL c.lo c.hi j (Zbf j (w.log++ms)) (0,false,Zdj) (if u.done=true then w.hist++[Zjz w t u] else w.hist)=_
        split
        · rw [Zgw a,ZlE]
          unfold ansE
          rw [if_pos (.inl (by show t≠j;exact Ne.symm ej))]
        · exact a
      have hb:=hbz j hj ej
      refine ⟨k,op,last,hskip,⟨fun x=>fun y=>b.1 x (hb.1 y),fun x=>b.2 (fun y=>x (hb.2 y))⟩,fun x=>?_,fun x=>by rw [hlog];exact f x,fun x hx=>by rw [hlog,hsteps];exact g x hx⟩
      obtain ⟨d1,d2,d3,d4,d5,d6⟩:=d x
      refine ⟨d1,d2,d3,d4,?_,by rw [hsteps];omega⟩
      show last∈(if u.done=true then w.hist++[Zjz w t u] else w.hist)
      split
      · exact List.mem_append_left _ d5
      · exact d5
  · rw [hlog]
    have old:=Li.cells i h0 h1
    rw [Zj9 old]
    have hCin:Inb c ((vw c w.m w.t).b i 0):=Zor old hci
    have hnx:=W.inv.num.1 i 0
    rcases hcells with ⟨e1,e2⟩ | ⟨e1,e2,e3⟩
    · rw [hms,e1]
      show some _=some _
      rw [e2 i]
    · by_cases ei:i=(w.t.getD t.toNat Zas).item
      · have hr1:ro t=1:=by
          rcases info.1 with ⟨x,_⟩ | ⟨x,_,_⟩
          · exfalso
            rw [x] at e1
            have hb:=W.inv.core.k3 t hro
            obtain ⟨r,hb⟩:=hb
            have hb:((vw c w.m w.t).th t).batch=⟨t,((vw c w.m w.t).th t).op⟩::r:=hb
            rw [hth] at hb
            unfold ZfK at e1
            rw [hb] at e1
            cases e1
          · exact x
        rw [hms,e1,ei,e2]
        unfold ZfK
        rw [← ei]
        have:=ZoV hlo i (Zel w) (w.t.getD t.toNat Zas).batch ((vw c w.m w.t).b i 0) hnx hCin (fun e he=>by
          rw [← hth] at he
          have hk:=W.inv.core.k4 t hro (W.inv.core.k1 t (by omega)).1 e he
          refine ⟨hL.ops (by rw [hth];exact hp) e he,?_⟩
          have:=Li.may e.t (W.inv.core.ent t hro e he) hk.1
          have h2:((vw c w.m w.t).th e.t).op=e.op:=hk.2.1
          rwa [h2] at this)
        exact this
      · rw [hms,e1,e3 i ei]
        exact Zoh (Ne.symm ei) _ (fun _ _=>rfl) _ _ _
  · rw [hlog,List.pairwise_append]
    refine ⟨Li.srt,?_,fun a ha b hb=>?_⟩
    · rw [List.pairwise_iff_getElem]
      intro i j hi hj _
      rw [hmst _ (List.getElem_mem hi),hmst _ (List.getElem_mem hj)]
      exact Int.le_refl _
    · rw [hmst b hb]
      have:=(Li.steps a ha).2
      omega
  · rw [hsteps]
    rw [hlog] at hm
    rcases List.mem_append.1 hm with hm | hm
    · have:=Li.steps m hm;omega
    · rw [hmst m hm];omega
  · rw [hlog] at hm
    have hsub:∀ h∈w.hist,h∈(ZdB w t u).hist:=by
      intro h hh
      show h∈(if u.done=true then w.hist++[Zjz w t u] else w.hist)
      split
      · exact List.mem_append_left _ hh
      · exact hh
    rcases List.mem_append.1 hm with hm | hm
    · obtain ⟨h,h1,h2⟩:=Li.asked m hm
      exact ⟨h,hsub h h1,h2⟩
    · obtain ⟨q1,q2,q3,q4⟩:=hk4m m hm
      obtain ⟨k,op,last,a,b,d,_,_⟩:=(Li.ans m.t q1).ex
      obtain ⟨d1,d2,d3,d4,d5,d6⟩:=d (b.2 q2)
      exact ⟨last,hsub _ d5,d3,d4,by rw [d2,q4],by rw [d1,q3],by rw [hmst m hm];omega⟩
  · rw [hlog] at hm
    rcases List.mem_append.1 hm with hm | hm
    · exact Li.inlog m hm
    · obtain ⟨q1,q2,q3,q4⟩:=hk4m m hm
      have hLm:=W.inv.loc m.t q1
      have hpm:((vw c w.m w.t).th m.t).phase≠0:=fun x=>q2 ((W.inv.busy q1).2 x)
      refine ⟨q1,by rw [← q4];exact hLm.item hpm,by rw [← q3];exact Li.may m.t q1 q2,?_⟩
      obtain ⟨e,he,_,_,b,_⟩:=hment m hm
      rw [b]
      exact hL.ops (by rw [hth];exact hp) e he
  · have hh:h∈(if u.done=true then w.hist++[Zjz w t u] else w.hist):=hh
    rw [hsteps]
    have old:h∈w.hist→_:=fun hh=>Li.ehist h hh
    split at hh
    · rcases List.mem_append.1 hh with hh | hh
      · have:=old hh;exact ⟨this.1,this.2.1,by omega,this.2.2.2⟩
      · rw [List.mem_singleton] at hh;subst hh
        refine ⟨ht,.inr (.inl rfl),by show Zel w≤_;rw [hs];exact Int.le_refl _,by show 0≤Zel w;rw [hs];omega,?_,?_⟩
        · show Num u.th.op.v
          obtain ⟨r,hb⟩:=W.inv.core.k3 t hro
          have hb:((vw c w.m w.t).th t).batch=⟨t,((vw c w.m w.t).th t).op⟩::r:=hb
          have:=hL.ops (by rw [hth];exact hp) ⟨t,((vw c w.m w.t).th t).op⟩ (by rw [hb];exact List.mem_cons_self ..)
          rw [← hopt];exact this
        · show Num u.th.x
          have:=(W'.inv.loc t ht).nx
          rw [hvth,Zag] at this
          exact this
    · have:=old hh;exact ⟨this.1,this.2.1,by omega,this.2.2.2⟩
  · rw [hvth]
    by_cases ej:j=t
    · rw [ej,Zag,hop1,← hth];exact Li.may t ht hro
    · rw [Zaf ej];exact Li.may j hj (fun x=>hr ((hbz j hj ej).2 x))
  · show (if u.done=true then w.hist++[Zjz w t u] else w.hist).Pairwise _
    split
    · exact Li.hist_more (by show w.steps≤Zel w;rw [hs];omega)
    · exact Li.hsrt
theorem Lin.entry (Li:Lin c w ro co) (W:WInv c w n ro pa rt co) (hC:CfgOK c) (hlo:Num c.lo) (hhi:Num c.hi) (hn:n≤200000) (hci:Inb c c.init) {e:SEntry} (he:Zcu c e=0) (hop:Num e.op.v) :
    ∃ ro' pa' rt' co',WInv c (Zeg w e) (n+1) ro' pa' rt' co'∧Lin c (Zeg w e) ro' co':=by
  have hE:=(W.entry hC hlo hhi hn he hop).2
  rcases Zsv he with ⟨k,ht,hi,ho⟩ | ⟨k,ht⟩ | k
  · unfold Zeg
    rw [if_pos k]
    have hI:=Li.invoke W hC ht ho hop
    by_cases hp:(w.t.getD e.t.toNat Zas).phase=0
    · have h2:=hI.2 hp
      have hth:(vw c w.m w.t).th e.t=w.t.getD e.t.toNat Zas:=Zir ht
      have hl:=W.log;have hh:=W.hist;have hst:=W.steps;have hnw:=W.now
      refine ⟨seta ro e.t 1,pa,seta rt e.t e.t,co,?_,h2⟩
      have hv:=W.inv.invoke hC ht (by rw [hth];exact hp) (i:=e.item) (op:=e.op) (now:=w.now) (wd:=(w.t.getD e.t.toNat Zas).width) hi hop (by rw [hth])
      unfold invT
      rw [if_neg (fun x=>x hp)]
      refine ⟨W.cE,?_,W.lenW,W.lenB,W.tape,?_,?_,?_,?_,?_⟩
      · show ((w.t.set _ _).length:Int)=_
        rw [List.length_set];exact W.lenT
      · show w.log.length≤_;omega
      · show (w.hist++[_]).length≤_
        rw [List.length_append,List.length_singleton];omega
      · show 0≤w.steps∧w.steps≤((n+1:Nat):Int);omega
      · show 0≤w.now∧w.now≤((n+1:Nat):Int);omega
      · show Inv c (vw c w.m (w.t.set _ _)) _ _ _ _
        rw [Zps W.lenT ht,W.cE]
        exact hv
    · have h2:=hI.1 hp
      have hl:=W.log;have hh:=W.hist;have hst:=W.steps;have hnw:=W.now
      refine ⟨ro,pa,rt,co,?_,h2⟩
      unfold invT
      rw [if_pos hp]
      refine ⟨W.cE,W.lenT,W.lenW,W.lenB,W.tape,?_,?_,?_,?_,W.inv⟩
      · show w.log.length≤_;omega
      · show (w.hist++[_]).length≤_
        rw [List.length_append,List.length_singleton];omega
      · show 0≤w.steps∧w.steps≤((n+1:Nat):Int);omega
      · show 0≤w.now∧w.now≤((n+1:Nat):Int);omega
  · unfold Zeg
    rw [if_neg (show ¬e.kind=1 by omega),if_pos k]
    have hl:=W.log;have hh:=W.hist;have hst:=W.steps;have hnw:=W.now
    by_cases hp:(w.t.getD e.t.toNat Zas).phase=0
    · rw [if_pos hp]
      exact ⟨ro,pa,rt,co,⟨W.cE,W.lenT,W.lenW,W.lenB,W.tape,by omega,by omega,by omega,by omega,W.inv⟩,Li⟩
    · rw [if_neg hp]
      exact Li.pick W hC hlo hhi hn hci ht hp
  · have hl:=W.log;have hh:=W.hist;have hst:=W.steps;have hnw:=W.now
    unfold Zeg
    rw [if_neg (show ¬e.kind=1 by omega),if_neg (show ¬e.kind=2 by omega),if_pos k]
    refine ⟨ro,pa,rt,co,⟨W.cE,W.lenT,W.lenW,W.lenB,W.tape,?_,?_,?_,?_,W.inv⟩,⟨fun j hj=>(Li.ans j hj).same rfl rfl (Int.le_refl _),Li.cells,Li.srt,Li.steps,Li.asked,Li.inlog,Li.ehist,Li.may,Li.hsrt⟩⟩
    · show w.log.length≤_;omega
    · show w.hist.length≤_;omega
    · show 0≤w.steps∧w.steps≤((n+1:Nat):Int);omega
    · show 0≤Zad .i64 (w.now+1)∧Zad .i64 (w.now+1)≤((n+1:Nat):Int)
      rw [Zav (by omega) (by omega)];omega
theorem Lin.entries (hC:CfgOK c) (hlo:Num c.lo) (hhi:Num c.hi) (hci:Inb c c.init):∀ {l:List SEntry} {w:Wld} {n:Nat} {ro pa rt:Int→Int} {co:Int→Option Int},WInv c w n ro pa rt co→Lin c w ro co→n+l.length≤200000→(∀ e∈l,Zcu c e=0∧Num e.op.v) →
    ∃ ro' pa' rt' co',WInv c (l.foldl Zeg w) (n+l.length) ro' pa' rt' co'∧Lin c (l.foldl Zeg w) ro' co'
  | [],w,n,ro,pa,rt,co,W,Li,_,_=>⟨ro,pa,rt,co,W,Li⟩
  | e :: l, w, n, ro, pa, rt, co, W, Li, hn, he => by
    rw [List.length_cons] at hn
    obtain ⟨ro',pa',rt',co',W',Li'⟩:=Li.entry W hC hlo hhi (by omega) hci (he e (List.mem_cons_self ..)).1 (he e (List.mem_cons_self ..)).2
    have:=Lin.entries hC hlo hhi hci W' Li' (by omega) (fun x hx=>he x (List.mem_cons_of_mem _ hx))
    rw [List.length_cons,show n+(l.length+1)=n+1+l.length by omega]
    exact this
theorem ZxO (hC:CfgOK c) (hci:Num c.init) {d:List Int}:Lin c (newW c d) (fun _=>0) (fun _=>none):=by
  have hth:=hC.threads
  have hit:=hC.items
  refine ⟨fun j hj=>⟨0,false,Zdj,rfl,⟨fun x=>(by cases x),fun x=>(x rfl).elim⟩,fun x=>(by cases x),fun _=>rfl,fun x hx=>(by cases hx)⟩,fun i h0 h1=>?_,List.Pairwise.nil,fun m hm=>(by cases hm),fun m hm=>(by cases hm),fun m hm=>(by cases hm),fun h hh=>(by cases hh),fun j _ h=>(h rfl).elim,List.Pairwise.nil⟩
  show some c.init=some (vwB c (ZcP c).words i 0)
  have hb:=ZcF hC
  unfold vwB
  rw [if_pos ⟨⟨h0,h1⟩,Int.le_refl 0,by omega⟩]
  rw [(Znm (t:=0) (i:=0) hC hci ⟨by omega,by omega⟩ ⟨by omega,by omega⟩).cells i h0 h1]
end
end Go.Proofs.Mill

/- What the program says of logs and histories. -/
namespace Go.Proofs.Mill
set_option linter.all false
theorem ZnW {α:Type} (p:α→Bool) (l:List α) (d:α) (i:Nat) (h:i<l.length):(l.take (i+1)).filter p=if p (l.getD i d)=true then (l.take i).filter p++[l.getD i d] else (l.take i).filter p:=by
  rw [← Zns l d i h,List.filter_append]
  by_cases hp:p (l.getD i d)=true
  · rw [if_pos hp,List.filter_cons_of_pos hp,List.filter_nil]
  · rw [if_neg hp,List.filter_cons_of_neg hp,List.filter_nil,List.append_nil]
theorem Znj {σ ρ α:Type} {step:σ→α→Option (σ⊕ρ)} {f:σ→α→σ} (I:σ→Prop):∀ (l:List α) (st:σ),I st→(∀ st,I st→∀ x∈l,step st x=some (.inl (f st x))∧I (f st x))→Zch step l st=some (.inl (l.foldl f st))
  | [],st,_,_=>rfl
  | x :: l, st, h0, h => by
    obtain ⟨h1,h2⟩:=h st h0 x (List.mem_cons_self ..)
    unfold Zch
    rw [h1]
    exact Znj I l (f st x) h2 fun st hs y hy=>h st hs y (List.mem_cons_of_mem _ hy)
def ZwL (m:Mark):Prop:=Num m.op.v
def ZnL (e:Event):Prop:=Num e.op.v∧Num e.prior
def ZjP (c:Config):Prop:=Num c.init∧Num c.lo∧Num c.hi
theorem ZAc {c:Config} (o:(Zaq celConfig).Ok c):ZjP c:=by
  have h1:∀ x:Int,AV.int .i64 x∈celConfig.enc c→Num x:=fun x hx=>Zxd (o _ hx)
  refine ⟨h1 _ ?_,h1 _ ?_,h1 _ ?_⟩ <;> simp [celConfig,Zct,Zal,Zar,celBool]
noncomputable def ZnP (lo hi:Int) (st:Int×Bool) (m:Mark):Int×Bool:=((App m.op st.1 lo hi).1,st.2 && st.1 == m.prior)
noncomputable def replay (c:Config) (l:List Mark) (k:Int):Int×Bool:=(l.filter fun m=>m.item == k).foldl (ZnP c.lo c.hi) (c.init,true)
def evts (l:List Event) (k:Int):List Event:=l.filter fun e=>e.t == k && e.kind != 3
theorem Zok {σ:Type} {it:ItV} {step:σ→it.α→Option (σ⊕Empty)} {z:it.κ×σ} {y:σ} (hb:it.okB z.1=true) (h:Zch step (it.els z.1) z.2=some (.inl y)):Ziy it step z=some y:=by
  unfold Ziy
  rw [hb,h]
  rfl
theorem ZxU {σ ρ:Type} {it:ItV} {step:σ→it.α→Option (σ⊕ρ)} {z:it.κ×σ} {y:Option (σ⊕ρ)} (hb:it.okB z.1=true) (h:Zch step (it.els z.1) z.2=y):Znx it step z=y:=by
  unfold Znx
  rw [hb,h]
  rfl
theorem ZpA (c:Config):∀ (L:List Mark) (z:Int×Bool),L.foldl (fun (st:Config×Int×Bool) m=>(st.1,ZnP st.1.lo st.1.hi st.2 m)) (c,z)=(c,L.foldl (ZnP c.lo c.hi) z)
  | [],_=>rfl
  | m::L,z=>by rw [List.foldl_cons,List.foldl_cons];exact ZpA c L _
theorem Zqd {c:Config} {l:List Mark} (k:Int) (hc:ZjP c) (hl:∀ m∈l,ZwL m) (h:l.length≤4294967296):ZgN c l k=some (replay c l k):=by
  have hf:=Znj (ρ:=Empty) (step:=Zdq) (f:=fun (st:Config×Int×Bool) m=>(st.1,ZnP st.1.lo st.1.hi st.2 m)) (fun st=>st.1=c∧Num st.2.1) (l.filter fun m=>m.item == k) (c,c.init,true) ⟨rfl,hc.1⟩ (by
    rintro ⟨c',x,b⟩ ⟨rfl,hx⟩ m hm
    have hm:=hl m (List.mem_filter.1 hm).1
    simp only at hx
    refine ⟨?_,rfl,ZnG hx hm hc.2.1⟩
    simp only [Zdq,ZiS,Zb7,Zjt hx hm hc.2.1 hc.2.2]
    cases b <;> rfl)
  rw [ZpA] at hf
  have hw:ZiL ((l,k),c,c.init,true)=some (c,replay c l k):=Zok (it:=itReplay) (ZbQ h) hf
  simp only [ZgN,hw]
def Zg4:Event:=⟨0,0,0,⟨0,0⟩,0,false,0⟩
def pend (L:List Event):Event×Bool:=match L.getLast? with
  | some e=>bif e.kind == 1 then (e,true) else (Zg4,false)
  | none=>(Zg4,false)
theorem ZqJ:∀ (L:List Event) (z:Event×Bool),L.foldl (fun _ e=>(e,e.kind == (1:Int))) z=match L.getLast? with | some e=>(e,e.kind == (1:Int)) | none=>z
  | [],_=>rfl
  | e :: L, z => by
    rw [List.foldl_cons,ZqJ L,List.getLast?_cons]
    cases L.getLast? <;> rfl
theorem ZpQ {l:List Event} (k:Int) (h:l.length≤4294967296):ZeC l k=some (pend (evts l k)):=by
  have hf:=Znj (ρ:=Empty) (step:=Zek) (f:=fun (_:Event×Bool) e=>(e,e.kind == (1:Int))) (fun _=>True) (evts l k) (Zg4,false) trivial (fun _ _ _ _=>⟨rfl,trivial⟩)
  rw [ZqJ] at hf
  have hw:Zfs ((l,k),Zg4,false)=some (match (evts l k).getLast? with | some e=>(e,e.kind == (1:Int)) | none=>(Zg4,false)):=Zok (it:=itEvents) (ZbQ h) hf
  have hw:Zfs ((l,k),Event.mk (0:Int) (0:Int) (0:Int) (Op.mk (0:Int) (0:Int)) (0:Int) false (0:Int),false)=_:=hw
  simp only [ZeC,hw,pend]
  cases (evts l k).getLast? with
  | none=>rfl
  | some e=>cases he:e.kind == (1:Int) <;> simp [he,Zg4]
def count (l:List Event) (k:Int):Int:=((l.filter fun e=>e.kind == k).length:Int)
theorem count_le (l:List Event) (k:Int):0≤count l k∧count l k≤l.length:=by
  have:=List.length_filter_le (fun e:Event=>e.kind == k) l
  unfold count
  omega
theorem Zl0 (l:List Event) (k:Int) (i:Nat) (h:i<l.length):count (l.take (i+1)) k=if (l.getD i Zdj).kind=k then count (l.take i) k+1 else count (l.take i) k:=by
  unfold count
  rw [ZnW _ l Zdj i h]
  by_cases hk:(l.getD i Zdj).kind=k
  · rw [if_pos (by simpa using hk),if_pos hk,List.length_append];rfl
  · rw [if_neg (by simpa using hk),if_neg hk]
theorem ZvH {l:List Event} (k:Int) (h:l.length≤4294967296) (i:Nat):Zad .i64 (count (l.take i) k+1)=count (l.take i) k+1:=by
  have h1:=count_le (l.take i) k
  have:(l.take i).length≤l.length:=by rw [List.length_take];omega
  exact Zav (by omega) (by omega)
theorem ZqB {l:List Event} (h:l.length≤4294967296):ZgW l=some (count l 1,count l 2,count l 3):=by
  have hw:ZiB (0,0,0,l,l.length,0)=some (count l 1,count l 2,count l 3):=by
    refine ZhQ (fun i=>(count (l.take i) 1,count (l.take i) 2,count (l.take i) 3,l,(l.length:Int),(i:Int))) l.length (fun i hi=>?_) ?_
    · have h1:decide ((i:Int)<(l.length:Int))=true:=decide_eq_true (by omega)
      have h2:decide ((0:Int)≤(i:Int))=true:=decide_eq_true (by omega)
      rw [Zl0 l 1 i hi,Zl0 l 2 i hi,Zl0 l 3 i hi]
      simp only [Zdr,ZfO,h1,h2,cond_true,Int.toNat_natCast,ZvH _ h]
      rw [Zav (by omega) (by omega)]
      generalize (l.getD i Zdj).kind=q
      by_cases q1:q=1
      · subst q1;rfl
      by_cases q2:q=2
      · subst q2;rfl
      by_cases q3:q=3
      · subst q3;rfl
      rw [show (q == 1)=false by simpa using q1,show (q == 2)=false by simpa using q2,show (q == 3)=false by simpa using q3,if_neg q1,if_neg q2,if_neg q3]
      rfl
    · simp [Zdr,ZfO]
  simp only [ZgW,hw]
noncomputable def fit (c:Config) (m:Mark) (call e:Event):Bool :=
  (e.op.tag == call.op.tag && (e.op.v == call.op.v && true)) && (e.item == call.item) && (m.op.tag == e.op.tag && (m.op.v == e.op.v && true)) && (m.item == e.item) && (m.prior == e.prior) && (e.did == (App e.op e.prior c.lo c.hi).2) && decide (call.step<m.step) && decide (m.step≤e.step)
theorem ZAH {a b c d e f g h i j:Bool}:(bif a && (b && true) && (c && true) then bif d && (e && true) && (f && true) then bif g then bif h then bif i then some j else some false else some false else some false else some false else some false) =
    some ((a && (b && true)) && c && (d && (e && true)) && f && g && h && i && j):=by
  cases a <;> cases b <;> cases c <;> cases d <;> cases e <;> cases f <;> cases g <;> cases h <;> cases i <;> rfl
theorem Zoz {c:Config} (m:Mark) (call:Event) {e:Event} (hc:ZjP c) (he:ZnL e):ZfQ c m call e=some (fit c m call e):=by
  simp only [ZfQ,Zb7,Zjt he.2 he.1 hc.2.1 hc.2.2,ZeS,Zkn,fit]
  rw [ZAH]
  rw [BEq.comm (a:=m.op.tag),BEq.comm (a:=m.op.v),BEq.comm (a:=m.item),BEq.comm (a:=e.did)]
theorem ZtN (l:List Mark) (k:Int) (h:l.length≤4294967296):Zda (l,k)=some (l.filter fun m=>m.t == k):=by
  have key:∀ (L A:List Mark),A.length+L.length≤4294967296→Zch ZbI L A=some (.inl (A++L)):=by
    intro L
    induction L with
    | nil=>intro A _;rw [List.append_nil];rfl
    | cons m L ih =>
      intro A hA
      rw [List.length_cons] at hA
      unfold Zch
      simp only [ZbI,Zd2,List.length_cons,List.length_nil]
      rw [ZbQ (by omega)]
      simp only [cond_true]
      rw [ih _ (by rw [List.length_append,List.length_cons,List.length_nil];omega),List.append_assoc]
      rfl
  have hle:=List.length_filter_le (fun m:Mark=>m.t == k) l
  have hw:Zd8 ((l,k),[])=some (l.filter fun m=>m.t == k):=Zok (it:=itOwn) (ZbQ h) (by
    have:=key (l.filter fun m=>m.t == k) [] (by rw [List.length_nil];omega)
    rw [List.nil_append] at this
    exact this)
  simp only [Zda,ZcW,Zet,hw]
theorem ZmH {σ ρ:Type} {step:σ→Option (σ⊕(ρ⊕Bool))} (st:Nat→σ) (n:Nat) (P:Nat→Prop) {y:ρ} (h1:∀ i,i<n→(P i∧step (st i)=some (.inl (st (i+1))))∨(¬P i∧step (st i)=some (.inr (.inr false)))) (h2:step (st n)=some (.inr (.inl y))) :
    (ZaH step (st 0)=some (.inl y)∧∀ i,i<n→P i)∨(ZaH step (st 0)=some (.inr false)∧¬∀ i,i<n→P i):=by
  have key:∀ k,k≤n→(Loops step (st (n-k)) (.inl y)∧∀ i,n-k≤i→i<n→P i)∨(Loops step (st (n-k)) (.inr false)∧¬∀ i,n-k≤i→i<n→P i):=by
    intro k
    induction k with
    | zero=>intro _;exact .inl ⟨.done _ _ h2,fun i h1 h2=>by omega⟩
    | succ k ih =>
      intro hk
      have hs:n-(k+1)+1=n-k:=by omega
      rcases h1 (n-(k+1)) (by omega) with ⟨p,h⟩ | ⟨p,h⟩
      · rw [hs] at h
        rcases ih (by omega) with ⟨l,q⟩ | ⟨l,q⟩
        · refine .inl ⟨.more _ _ _ h l,fun i hi hn=>?_⟩
          by_cases e:i=n-(k+1)
          · rw [e];exact p
          · exact q i (by omega) hn
        · exact .inr ⟨.more _ _ _ h l,fun hall=>q fun i hi hn=>hall i (by omega) hn⟩
      · exact .inr ⟨.done _ _ h,fun hall=>p (hall _ (Nat.le_refl _) (by omega))⟩
  have:=key n (Nat.le_refl _)
  rw [Nat.sub_self] at this
  rcases this with ⟨l,q⟩ | ⟨l,q⟩
  · exact .inl ⟨whileM_some.2 l,fun i hi=>q i (by omega) hi⟩
  · exact .inr ⟨whileM_some.2 l,fun hall=>q fun i _ hi=>hall i hi⟩
def Srt (l:List Mark):Prop:=∀ i,i<l.length-1→¬(l.getD (i+1) ZaT).step<(l.getD i ZaT).step
theorem Zp3 {l:List Mark} (h:l.length≤4294967296):(ZbA l ()=some true∧Srt l)∨(ZbA l ()=some false∧¬Srt l):=by
  cases hl:l with
  | nil =>
    refine .inl ⟨?_,fun i hi=>by simp at hi⟩
    have:Zbq ([],(),-1)=some (.inl ()):=by
      unfold Zbq
      rw [Zcl]
      rfl
    simp only [ZbA]
    rw [show Zad .i64 ((([]:List Mark).length:Int)-1)=-1 from Zav (by simp) (by simp),this]
  | cons m0 l0 =>
    rw [← hl]
    have hn:0<l.length:=by rw [hl];simp
    have w:Zad .i64 ((l.length:Int)-1)=((l.length-1-0:Nat):Int):=by rw [Zav (by omega) (by omega)];omega
    have key:=ZmH (step:=Zbb) (fun j=>(l,(),((l.length-1-j:Nat):Int))) (l.length-1) (fun j=>¬(l.getD (l.length-1-j) ZaT).step<(l.getD (l.length-1-j-1) ZaT).step) (y:=()) (fun j hj=>?_) ?_
    · simp only [ZbA,w]
      rcases key with ⟨k1,k2⟩ | ⟨k1,k2⟩
      · have k1:Zbq (l,(),((l.length-1-0:Nat):Int))=some (.inl ()):=k1
        rw [k1]
        refine .inl ⟨rfl,fun i hi=>?_⟩
        have:=k2 (l.length-1-(i+1)) (by omega)
        rw [show l.length-1-(l.length-1-(i+1))=i+1 by omega,Nat.add_sub_cancel] at this
        exact this
      · have k1:Zbq (l,(),((l.length-1-0:Nat):Int))=some (.inr false):=k1
        rw [k1]
        refine .inr ⟨rfl,fun hs=>k2 fun j hj=>?_⟩
        have:=hs (l.length-1-j-1) (by omega)
        rw [show l.length-1-j-1+1=l.length-1-j by omega] at this
        exact this
    · have b0:decide (((l.length-1-j:Nat):Int)>0)=true:=decide_eq_true (by omega)
      have b1:decide ((0:Int)≤((l.length-1-j:Nat):Int))=true:=decide_eq_true (by omega)
      have b2:decide (((l.length-1-j:Nat):Int)<(l.length:Int))=true:=decide_eq_true (by omega)
      have w1:Zad .i64 (((l.length-1-j:Nat):Int)-1)=((l.length-1-j-1:Nat):Int):=by rw [Zav (by omega) (by omega)];omega
      have b3:decide ((0:Int)≤((l.length-1-j-1:Nat):Int))=true:=decide_eq_true (by omega)
      have b4:decide (((l.length-1-j-1:Nat):Int)<(l.length:Int))=true:=decide_eq_true (by omega)
      simp only [Zbb,Zcr,b0,b1,b2,w1,b3,b4,cond_true,Int.toNat_natCast,Zhf,ZkL]
      by_cases a:(l.getD (l.length-1-j) ZaT).step<(l.getD (l.length-1-j-1) ZaT).step
      · refine .inr ⟨fun h=>h a,?_⟩
        rw [decide_eq_true a]
        rfl
      · refine .inl ⟨a,?_⟩
        rw [decide_eq_false a,show l.length-1-(j+1)=l.length-1-j-1 by omega]
        cases decide ((l.getD (l.length-1-j) ZaT).step>(l.getD (l.length-1-j-1) ZaT).step) <;> rfl
    · have b0:decide (((l.length-1-(l.length-1):Nat):Int)>0)=false:=decide_eq_false (by omega)
      simp only [Zbb,Zcr,b0,cond_false]
end Go.Proofs.Mill

/- Whether a world is linear, as the program says it. -/
namespace Go.Proofs.Mill
set_option linter.all false
theorem Zuy {c:Config} {own:List Mark} {n:Nat} {last e:Event} (hn:n<own.length):fit c (own.getD n ZaT) last e=true↔Fits c.lo c.hi own n last e:=by
  unfold fit Fits
  obtain ⟨a1,a2⟩:∃ a:Op,a=e.op:=⟨_,rfl⟩
  obtain ⟨b1,b2⟩:∃ a:Op,a=last.op:=⟨_,rfl⟩
  obtain ⟨d1,d2⟩:∃ a:Mark,a=own.getD n ZaT:=⟨_,rfl⟩
  rw [← d2,← a2,← b2]
  obtain ⟨m1,m2,m3,m4,m5⟩:=d1
  obtain ⟨p1,p2⟩:=a1
  obtain ⟨q1,q2⟩:=b1
  obtain ⟨r1,r2⟩:=m3
  simp only [Bool.and_eq_true,beq_iff_eq,decide_eq_true_eq,Bool.and_true,Op.mk.injEq]
  constructor
  · rintro ⟨⟨⟨⟨⟨⟨⟨⟨x1,x2⟩,x3⟩,x4,x5⟩,x6⟩,x7⟩,x8⟩,x9⟩,x10⟩
    exact ⟨hn,⟨x4,x5⟩,x6,x7,x8,⟨x1.symm,x2.symm⟩,x3.symm,x9,x10⟩
  · rintro ⟨_,⟨x4,x5⟩,x6,x7,x8,⟨x1,x2⟩,x3,x9,x10⟩
    exact ⟨⟨⟨⟨⟨⟨⟨⟨x1.symm,x2.symm⟩,x3.symm⟩,x4,x5⟩,x6⟩,x7⟩,x8⟩,x9⟩,x10⟩
theorem Zl1 {c:Config} {j:Int} {own:List Mark} (hc:ZjP c) (ho:own.length≤4294967296):∀ (l:List Event) (n:Nat) (op:Bool) (last:Event),(∀ e∈l,ZnL e)→n≤own.length →
    Zch Zcc (evts l j) (c,false,own.drop n,last,op)=match ansL c.lo c.hi j own (n,op,last) l with
      | some (n',op',last')=>some (.inl (c,false,own.drop n',last',op'))
      | none=>some (.inr false)
  | [],n,op,last,_,_=>rfl
  | e :: l, n, op, last, he, hn => by
    have he':=fun x hx=>he x (List.mem_cons_of_mem _ hx)
    have hee:=he e (List.mem_cons_self ..)
    have hev:evts (e::l) j=if e.t=j∧e.kind≠3 then e::evts l j else evts l j:=by
      unfold evts
      rw [List.filter_cons]
      by_cases g:e.t=j∧e.kind≠3
      · rw [if_pos g,if_pos (by simp [g.1,g.2])]
      · rw [if_neg g,if_neg (by simp only [Bool.and_eq_true,beq_iff_eq,bne_iff_ne];exact g)]
    show _=match (match ansE c.lo c.hi j own (n,op,last) e with | some s=>ansL c.lo c.hi j own s l | none=>none) with
      | some (n',op',last')=>some (Sum.inl (c,false,own.drop n',last',op'))
      | none=>some (Sum.inr false)
    rw [hev]
    unfold ansE
    by_cases g:e.t=j∧e.kind≠3
    · rw [if_pos g,if_neg (show ¬(e.t≠j∨e.kind=3) from fun h=>h.elim (fun x=>x g.1) g.2)]
      unfold Zch
      have hT:Zcc (c,false,own.drop n,last,op) e=Zfu c false (own.drop n) last op e:=rfl
      rw [hT]
      unfold Zfu
      by_cases k:e.kind=1
      · rw [Zbg k,if_pos k]
        cases op with
        | true=>rw [if_pos rfl];rfl
        | false =>
          rw [if_neg (show ¬(false=true) by decide)]
          exact Zl1 hc ho l n true e he' hn
      · rw [ZaN k,if_neg k]
        cases op with
        | false=>rw [if_neg (show ¬(false=true∧_) from fun h=>absurd h.1 (by decide))];rfl
        | true =>
          by_cases hlt:n<own.length
          · have hd:own.drop n=own.getD n ZaT::own.drop (n+1):=by
              rw [List.drop_eq_getElem_cons hlt,List.getD_eq_getElem?_getD,List.getElem?_eq_getElem hlt,Option.getD_some]
            have hl2:(own.drop (n+1)).length≤4294967296:=by rw [List.length_drop];omega
            rw [hd]
            generalize hr:own.drop (n+1)=rest at hl2
            have hz:(((own.getD n ZaT::rest).length:Int) == 0)=false:=by rw [List.length_cons];simp;omega
            have hp:decide ((0:Int)<((own.getD n ZaT::rest).length:Int))=true:=decide_eq_true (by rw [List.length_cons];omega)
            have hp1:decide ((1:Int)≤((own.getD n ZaT::rest).length:Int))=true:=decide_eq_true (by rw [List.length_cons];omega)
            have hp2:decide (((own.getD n ZaT::rest).length:Int)≤((own.getD n ZaT::rest).length:Int))=true:=decide_eq_true (Int.le_refl _)
            have hdr:List.drop (Int.toNat (1:Int)) (List.take ((own.getD n ZaT::rest).length:Int).toNat (own.getD n ZaT::rest))=rest:=by
              rw [Int.toNat_natCast,List.take_length];rfl
            have hans:ZfN (c,(own.getD n ZaT::rest).getD (Int.toNat (0:Int)) ZaT,last,e)=some (fit c (own.getD n ZaT) last e):=Zoz _ _ hc hee
            simp only [hz,hp,hp1,hp2,hdr,hans,cond_true,cond_false,Bool.not_true]
            by_cases f:Fits c.lo c.hi own n last e
            · rw [(Zuy hlt).2 f,if_pos ⟨by trivial,f⟩]
              show Zch Zcc (evts l j) (c,false,rest,last,false)=_
              rw [← hr]
              exact Zl1 hc ho l (n+1) false last he' hlt
            · have:fit c (own.getD n ZaT) last e=false:=by
                cases hb:fit c (own.getD n ZaT) last e with
                | false=>rfl
                | true=>exact (f ((Zuy hlt).1 hb)).elim
              rw [this,if_neg (fun x=>f x.2)]
              rfl
          · rw [List.drop_of_length_le (by omega),if_neg (fun x=>hlt x.2.1)]
            rfl
    · rw [if_neg g,if_pos (show e.t≠j∨e.kind=3 from by
        by_cases x:e.t=j
        · by_cases y:e.kind=3
          · exact .inr y
          · exact (g ⟨x,y⟩).elim
        · exact .inl x)]
      exact Zl1 hc ho l n op last he' hn
def AnsP (lo hi j:Int) (own:List Mark) (l:List Event):Prop :=
  ∃ n op last,ansL lo hi j own (0,false,Zdj) l=some (n,op,last)∧(own.length=n∨(own.length=n+1∧op=true∧(own.getD n ZaT).op=last.op∧(own.getD n ZaT).item=last.item∧last.step<(own.getD n ZaT).step))
noncomputable instance (lo hi j:Int) (own:List Mark) (l:List Event):Decidable (AnsP lo hi j own l):=Classical.propDecidable _
theorem ZuA {lo hi j:Int} {own:List Mark}:∀ {l:List Event} {s s':Nat×Bool×Event},ansL lo hi j own s l=some s'→s.1≤own.length→s'.1≤own.length
  | [],s,s',h,hs=>by cases h;exact hs
  | e :: l, s, s', h, hs => by
    have h:(match ansE lo hi j own s e with | some s=>ansL lo hi j own s l | none=>none)=some s':=h
    cases h1:ansE lo hi j own s e with
    | none=>rw [h1] at h;cases h
    | some v =>
      rw [h1] at h
      refine ZuA h ?_
      unfold ansE at h1
      split at h1
      · rw [← Option.some.inj h1];exact hs
      · split at h1
        · split at h1
          · cases h1
          · rw [← Option.some.inj h1];exact hs
        · split at h1
          · rename_i f
            rw [← Option.some.inj h1]
            exact f.2.1
          · cases h1
theorem Zp2 {c:Config} {l:List Mark} {h:List Event} (j:Int) (hc:ZjP c) (he:∀ e∈h,ZnL e) (hl:l.length≤4294967296) (hh:h.length≤4294967296) :
    Zgj c l h j=some (decide (AnsP c.lo c.hi j (Zbf j l) h)):=by
  have hle:=List.length_filter_le (fun m:Mark=>m.t == j) l
  have hcol:Zdg (l,j)=some (Zbf j l):=ZtN l j hl
  obtain ⟨own,ho⟩:∃ own,own=Zbf j l:=⟨_,rfl⟩
  have hol:own.length≤4294967296:=by rw [ho];unfold Zbf;omega
  have hf:=Zl1 (c:=c) (j:=j) (own:=own) hc hol h 0 false Zdj he (Nat.zero_le _)
  rw [List.drop_zero] at hf
  have hW:ZhU ((h,j),c,false,own,Event.mk (0:Int) (0:Int) (0:Int) (Op.mk (0:Int) (0:Int)) (0:Int) false (0:Int),false)=Zch Zcc (evts h j) (c,false,own,Zdj,false) :=
    ZxU (it:=itEvents) (ZbQ hh) rfl
  unfold Zgj
  rw [hcol,← ho]
  simp only []
  rw [hW,hf]
  cases ha:ansL c.lo c.hi j own (0,false,Zdj) h with
  | none =>
    simp only []
    rw [decide_eq_false]
    rintro ⟨n,op,last,h1,_⟩
    rw [ha] at h1;cases h1
  | some s =>
    obtain ⟨n,op,last⟩:=s
    have hn:n≤own.length:=ZuA ha (Nat.zero_le _)
    have key:AnsP c.lo c.hi j own h↔(own.length=n∨(own.length=n+1∧op=true∧(own.getD n ZaT).op=last.op∧(own.getD n ZaT).item=last.item∧last.step<(own.getD n ZaT).step)):=by
      constructor
      · rintro ⟨n',op',last',h1,h2⟩
        rw [ha] at h1
        cases h1
        exact h2
      · intro h2
        exact ⟨n,op,last,ha,h2⟩
    simp only []
    by_cases a:own.length=n
    · have e1:(((own.drop n).length:Int) == 0)=true:=by rw [List.length_drop,a,Nat.sub_self];rfl
      rw [e1,decide_eq_true (key.2 (.inl a))];rfl
    · have e1:(((own.drop n).length:Int) == 0)=false:=beq_eq_false_iff_ne.2 (by rw [List.length_drop];omega)
      rw [e1]
      simp only [cond_false]
      by_cases a2:own.length=n+1
      · have e3:decide (((own.drop n).length:Int)>1)=false:=decide_eq_false (by rw [List.length_drop];omega)
        have b4:decide ((0:Int)<((own.drop n).length:Int))=true:=decide_eq_true (by rw [List.length_drop];omega)
        have hd:(own.drop n).getD (Int.toNat (0:Int)) ZaT=own.getD n ZaT:=by
          rw [List.getD_eq_getElem?_getD,List.getD_eq_getElem?_getD,List.getElem?_drop]
          rfl
        rw [e3,b4,hd]
        simp only [cond_true,cond_false,ZeS,Zkn]
        cases op with
        | false =>
          have hdf:decide (AnsP c.lo c.hi j own h)=false:=decide_eq_false (by
            intro x
            rcases key.1 x with y | y
            · exact a y
            · exact absurd y.2.1 (by decide))
          rw [hdf]
          rfl
        | true =>
          simp only [Bool.not_true,cond_false]
          generalize own.getD n ZaT=m at key
          obtain ⟨m1,m2,⟨m3,m4⟩,m5,m6⟩:=m
          obtain ⟨l1,l2,l3,⟨l4,l5⟩,l6,l7,l8⟩:=last
          by_cases x:m3=l4∧m4=l5∧m2=l3
          · obtain ⟨rfl,rfl,rfl⟩:=x
            simp only [beq_self_eq_true,Bool.and_true,cond_true]
            congr 1
            rw [decide_eq_decide,key]
            constructor
            · intro y;exact .inr ⟨a2,rfl,rfl,rfl,y⟩
            · rintro (y | y)
              · exact (a y).elim
              · exact y.2.2.2.2
          · have:(m3 == l4 && (m4 == l5 && true) && (m2 == l3 && true))=false:=by
              rw [Bool.eq_false_iff]
              intro y
              simp only [Bool.and_eq_true,beq_iff_eq,Bool.and_true] at y
              exact x ⟨y.1.1,y.1.2,y.2⟩
            rw [this]
            simp only [cond_false]
            rw [decide_eq_false]
            intro y
            rcases key.1 y with z | z
            · exact a z
            · obtain ⟨_,_,z1,z2,_⟩:=z
              have z1:(⟨m3,m4⟩:Op)=⟨l4,l5⟩:=z1
              cases z1
              exact x ⟨rfl,rfl,z2⟩
      · have e3:decide (((own.drop n).length:Int)>1)=true:=decide_eq_true (by rw [List.length_drop];omega)
        rw [e3]
        simp only [cond_true]
        rw [decide_eq_false]
        intro x
        rcases key.1 x with y | y
        · exact a y
        · exact a2 y.1
structure LinP (w:Wld):Prop where
  srt:Srt w.log
  items:∀ i:Nat,(i:Int)<w.c.items→(replay w.c w.log i).2=true∧(replay w.c w.log i).1=w.m.words.getD (pl w.c i 0).toNat 0
  threads:∀ j:Nat,(j:Int)<w.c.threads→AnsP w.c.lo w.c.hi j (Zbf j w.log) w.hist
noncomputable instance (w:Wld):Decidable (LinP w):=Classical.propDecidable _
structure WldOK (w:Wld):Prop where
  cfg:CfgOK w.c
  conf:ZjP w.c
  marks:∀ m∈w.log,ZwL m
  events:∀ e∈w.hist,ZnL e
  log:w.log.length≤1000000
  hist:w.hist.length≤1000000
  words:(w.m.words.length:Int)=sizeOf w.c
theorem ZvD {w:Wld} (h:WldOK w):(ZfM (w,w.c.items,0)=some (.inl w)∧∀ i:Nat,i<w.c.items.toNat→((replay w.c w.log i).2=true∧(replay w.c w.log i).1=w.m.words.getD (pl w.c i 0).toNat 0)) ∨
    (ZfM (w,w.c.items,0)=some (.inr false)∧¬∀ i:Nat,i<w.c.items.toNat→((replay w.c w.log i).2=true∧(replay w.c w.log i).1=w.m.words.getD (pl w.c i 0).toNat 0)):=by
  have hi:=h.cfg.items
  have hlog:=h.log
  refine ZmH (step:=ZcQ) (fun j=>(w,w.c.items,(j:Int))) w.c.items.toNat (fun i=>(replay w.c w.log i).2=true∧(replay w.c w.log i).1=w.m.words.getD (pl w.c i 0).toNat 0) (y:=w) (fun j hj=>?_) ?_
  · have b:decide ((j:Int)<w.c.items)=true:=decide_eq_true (by omega)
    have w1:Zad .i64 ((j:Int)+1)=((j+1:Nat):Int):=by rw [Zav (by omega) (by omega)];omega
    have hcl:=Zlr h.cfg (i:=(j:Int)) (by omega) (by omega)
    have hcell:ZcA (w.c,(j:Int))=some (pl w.c j 0):=by
      show Zf0 _ _=_
      rw [Zjy h.cfg]
      unfold cellAt
      rw [if_neg (by omega)]
      simp [pl]
    have hld:ZbO (w.m,pl w.c j 0)=some (w.m.words.getD (pl w.c j 0).toNat 0,0):=by
      have e:pl w.c j 0=(j:Int)*Zaw w.c:=by simp [pl]
      have:=h.words
      exact ZhM (m:=w.m) (by omega) (show pl w.c (j:Int) 0<(w.m.words.length:Int) by omega)
    simp only [ZcQ,ZfX,b,cond_true,w1,Zc8,Zqd (l:=w.log) (j:Int) h.conf h.marks (by omega),hcell,hld,bne_self_eq_false,cond_false]
    cases h2:(replay w.c w.log j).2 with
    | false=>exact .inr ⟨fun x=>absurd x.1 (by decide),rfl⟩
    | true =>
      simp only [Bool.not_true,cond_false]
      by_cases h3:(replay w.c w.log j).1=w.m.words.getD (pl w.c j 0).toNat 0
      · rw [Ze5 h3];exact .inl ⟨⟨by trivial,h3⟩,rfl⟩
      · rw [ZfC h3];exact .inr ⟨fun x=>h3 x.2,rfl⟩
  · have b:decide ((w.c.items.toNat:Int)<w.c.items)=false:=decide_eq_false (by omega)
    simp only [ZcQ,ZfX,b,cond_false]
theorem Zs0 {w:Wld} (h:WldOK w):(Zfw (w,w.c.threads,0)=some (.inl ())∧∀ i:Nat,i<w.c.threads.toNat→AnsP w.c.lo w.c.hi i (Zbf i w.log) w.hist) ∨
    (Zfw (w,w.c.threads,0)=some (.inr false)∧¬∀ i:Nat,i<w.c.threads.toNat→AnsP w.c.lo w.c.hi i (Zbf i w.log) w.hist):=by
  have hi:=h.cfg.threads
  have hlog:=h.log
  have hhist:=h.hist
  refine ZmH (step:=Zcy) (fun j=>(w,w.c.threads,(j:Int))) w.c.threads.toNat (fun i=>AnsP w.c.lo w.c.hi i (Zbf i w.log) w.hist) (y:=()) (fun j hj=>?_) ?_
  · have b:decide ((j:Int)<w.c.threads)=true:=decide_eq_true (by omega)
    have w1:Zad .i64 ((j:Int)+1)=((j+1:Nat):Int):=by rw [Zav (by omega) (by omega)];omega
    simp only [Zcy,Zfv,b,cond_true,w1,Zc1,Zp2 (c:=w.c) (l:=w.log) (h:=w.hist) (j:Int) h.conf h.events (by omega) (by omega)]
    by_cases g:AnsP w.c.lo w.c.hi j (Zbf j w.log) w.hist
    · rw [decide_eq_true g];exact .inl ⟨g,rfl⟩
    · rw [decide_eq_false g];exact .inr ⟨g,rfl⟩
  · have b:decide ((w.c.threads.toNat:Int)<w.c.threads)=false:=decide_eq_false (by omega)
    simp only [Zcy,Zfv,b,cond_false]
theorem Zp5 {w:Wld} (h:WldOK w):Zd0 w=some (decide (LinP w)):=by
  obtain ⟨e,he,hE⟩:=ZhB w.c
  have he0:=hE.2 h.cfg
  subst he0
  have e1:Zc9 w.c=some 0:=(Zj0 w.c).trans he
  have hlog:=h.log
  have hi:=h.cfg.items
  have hth:=h.cfg.threads
  unfold Zd0
  rw [e1]
  simp only [bne_self_eq_false,cond_false,ZcD]
  rcases Zp3 (l:=w.log) (by omega) with ⟨s1,s2⟩ | ⟨s1,s2⟩
  · rw [s1]
    simp only [Bool.not_true,cond_false]
    rcases ZvD h with ⟨i1,i2⟩ | ⟨i1,i2⟩
    · rw [i1]
      simp only []
      rcases Zs0 h with ⟨t1,t2⟩ | ⟨t1,t2⟩
      · rw [t1]
        simp only []
        rw [decide_eq_true ⟨s2,fun i hi'=>i2 i (by omega),fun j hj=>t2 j (by omega)⟩]
      · rw [t1]
        simp only []
        rw [decide_eq_false (fun x=>t2 fun j hj=>x.threads j (by omega))]
    · rw [i1]
      simp only []
      rw [decide_eq_false (fun x=>i2 fun i hi'=>x.items i (by omega))]
  · rw [s1]
    simp only [Bool.not_false,cond_true]
    rw [decide_eq_false (fun x=>s2 x.srt)]
end Go.Proofs.Mill

/- Any script, run. -/
namespace Go.Proofs.Mill
set_option linter.all false
theorem Zxr {e:SEntry} (h:Ty.Ok .sentry e):Num e.op.v:=by
  have:=h (.int .i64 e.op.v) (by simp [Ty.enc,ZkI])
  cases this with
  | int h=>exact Zxd h
theorem ZtV {l:List SEntry} (h:(Zap .sentry).Ok l):∀ e∈l,Num e.op.v:=fun e he=>Zxr (h.2 e he)
def Zr1:Wld:=Wld.mk (Config.mk (0:Int) (0:Int) (0:Int) (0:Int) (0:Int) (0:Int) (0:Int) (0:Int) false (0:Int) (0:Int) (0:Int)) (Memo.mk ([]:List Int) ([]:List (List Entry))) ([]:List Thread) (0:Int) (0:Int) (Tape.mk ([]:List Int) (0:Int)) ([]:List Mark) ([]:List Event)
theorem ZwG {c:Config} {l:List SEntry} (h:(allE c l).2=0):CfgOK c∧l.length≤65536∧∀ e∈l,Zcu c e=0:=by
  obtain ⟨e,he,hE⟩:=ZhB c
  unfold allE at h
  rw [he,Option.getD_some] at h
  by_cases h0:e≠0
  · rw [if_pos h0] at h;exact (h0 h).elim
  rw [if_neg h0] at h
  have h0:=Classical.not_not.1 h0
  by_cases h1:l.length>65536
  · rw [if_pos h1] at h;exact absurd h (by decide)
  rw [if_neg h1] at h
  refine ⟨hE.1 h0,by omega,?_⟩
  cases hb:ZgH c 0 l with
  | none=>exact Zq8 hb
  | some y =>
    rw [hb] at h
    have key:∀ (l:List SEntry) (i:Nat),ZgH c i l=some y→y.2≠0:=by
      intro l
      induction l with
      | nil=>intro i h;cases h
      | cons e l ih =>
        intro i h
        unfold ZgH at h
        by_cases g:Zcu c e=0
        · rw [if_pos g] at h;exact ih _ h
        · rw [if_neg g] at h;rw [← Option.some.inj h];exact g
    exact (key l 0 hb h).elim
theorem ZAk {c:Config} {l:List SEntry} {d:List Int} (hc:Num c.init∧Num c.lo∧Num c.hi) (hl:∀ e∈l,Num e.op.v) (hd:d.length≤4294967296) :
    (Zfr c l d=some (Zr1,allE c l)∧(allE c l).2≠0) ∨
    (Zfr c l d=some (l.foldl Zeg (newW c d),0,0)∧allE c l=(0,0)∧CfgOK c∧l.length≤65536∧(∀ e∈l,Zcu c e=0)∧∃ ro pa rt co,WInv c (l.foldl Zeg (newW c d)) l.length ro pa rt co∧Lin c (l.foldl Zeg (newW c d)) ro co):=by
  by_cases h:(allE c l).2=0
  · obtain ⟨hC,h1,h2⟩:=ZwG h
    have hB:Inb c c.init:=fun hb=>hC.bounds hb
    have hW:=ZxP hC hc.1 hd
    have hE:=WInv.entries hC hc.2.1 hc.2.2 hW (l:=l) (by omega) (fun e he=>⟨h2 e he,hl e he⟩)
    obtain ⟨ro,pa,rt,co,w1,w2⟩:=Lin.entries hC hc.2.1 hc.2.2 hB hW (ZxO hC hc.1 (d:=d)) (l:=l) (by omega) (fun e he=>⟨h2 e he,hl e he⟩)
    rw [Nat.zero_add] at w1
    exact .inr ⟨ZwA hC h1 h2 hd hE.1,ZuJ hC h1 h2,hC,h1,h2,ro,pa,rt,co,w1,w2⟩
  · refine .inl ⟨?_,h⟩
    unfold Zfr
    rw [show ZhH (c,l)=some (allE c l) from ZpX c l]
    simp only []
    rw [ZfC h]
    rfl
end Go.Proofs.Mill

/- The world behind any script is linear; who is pending; how many are. -/
namespace Go.Proofs.Mill
set_option linter.all false
theorem Zj4 {c:Config} {i:Int}:∀ {a:List Mark} {x y:Int},Zem c i x a=some y→(a.filter fun m=>m.item == i).foldl (ZnP c.lo c.hi) (x,true)=(y,true)
  | [],x,y,h=>by cases h;rfl
  | m :: a, x, y, h => by
    rw [Zme] at h
    rw [List.filter_cons]
    by_cases e:m.item=i
    · rw [if_neg (fun k=>k e)] at h
      rw [if_pos (by simp [e])]
      by_cases g:m.prior=x∧Inb c (App m.op x c.lo c.hi).1
      · rw [if_pos g] at h
        show (a.filter fun m=>m.item == i).foldl (ZnP c.lo c.hi) ((App m.op x c.lo c.hi).1,true && x == m.prior)=_
        rw [g.1,beq_self_eq_true,Bool.and_self]
        exact Zj4 h
      · rw [if_neg g] at h;cases h
    · rw [if_pos e] at h
      rw [if_neg (by simp [e])]
      exact Zj4 h
section
variable {c:Config} {w:Wld} {n:Nat} {ro pa rt:Int→Int} {co:Int→Option Int}
theorem Lin.ok (Li:Lin c w ro co) (W:WInv c w n ro pa rt co) (hC:CfgOK c) (hc:ZjP c) (hn:n≤60000):WldOK w:=by
  have hl:=W.log
  have hh:=W.hist
  exact ⟨by rw [W.cE];exact hC,by rw [W.cE];exact hc,fun m hm=>(Li.inlog m hm).2.2.2,fun e he=>(Li.ehist e he).2.2.2.2,by omega,by omega,by rw [W.cE];exact W.lenW⟩
theorem Lin.answered (Li:Lin c w ro co) (W:WInv c w n ro pa rt co) {j:Int} (hj:InT c j):AnsP c.lo c.hi j (Zbf j w.log) w.hist:=by
  obtain ⟨k,op,last,a,b,d,f,g⟩:=(Li.ans j hj).ex
  refine ⟨k,op,last,a,?_⟩
  cases hco:co j with
  | none=>exact .inl (f hco)
  | some x =>
    obtain ⟨g1,g2,g3,g4,g5,g6⟩:=g x hco
    have hr:ro j≠0:=by
      intro h0
      have:=(W.inv.core.k0 j h0).1
      rw [hco] at this;cases this
    have ho:=b.2 hr
    obtain ⟨d1,d2,_⟩:=d ho
    exact .inr ⟨g1,ho,by rw [g2,d1],by rw [g3,d2],g5⟩
theorem ZAE {l:List Mark} (h:l.Pairwise (fun a b=>a.step≤b.step)):Srt l:=by
  intro i hi hlt
  have h1:i<l.length:=by omega
  have h2:i+1<l.length:=by omega
  have:=List.pairwise_iff_getElem.1 h i (i+1) h1 h2 (by omega)
  rw [List.getD_eq_getElem?_getD,List.getD_eq_getElem?_getD,List.getElem?_eq_getElem h1,List.getElem?_eq_getElem h2,Option.getD_some,Option.getD_some] at hlt
  omega
theorem Lin.linear (Li:Lin c w ro co) (W:WInv c w n ro pa rt co) (hC:CfgOK c):LinP w:=by
  have cE:=W.cE
  refine ⟨ZAE Li.srt,fun i hi=>?_,fun j hj=>?_⟩
  · rw [cE] at hi ⊢
    have h1:=Li.cells i (by omega) hi
    have h2:=Zj4 h1
    have hb:=ZcF hC
    have hr:(vw c w.m w.t).b i 0=w.m.words.getD (pl c i 0).toNat 0:=rd_B ⟨⟨by omega,hi⟩,Int.le_refl 0,by omega⟩
    unfold replay
    rw [h2]
    exact ⟨rfl,hr⟩
  · rw [cE] at hj ⊢
    exact Li.answered W ⟨by omega,hj⟩
end
theorem Zq2 {lo hi j:Int} {own:List Mark}:∀ {l:List Event} {s s':Nat×Bool×Event},ansL lo hi j own s l=some s'→(evts l j=[]∧s'=s)∨(∃ e,(evts l j).getLast?=some e∧s'.2.1=(e.kind == 1)∧(s'.2.1=true→s'.2.2=e))
  | [],s,s',h=>.inl ⟨rfl,(Option.some.inj h).symm⟩
  | e :: l, s, s', h => by
    have h:(match ansE lo hi j own s e with | some s=>ansL lo hi j own s l | none=>none)=some s':=h
    cases h1:ansE lo hi j own s e with
    | none=>rw [h1] at h;cases h
    | some v =>
      rw [h1] at h
      have ih:=Zq2 h
      have hev:evts (e::l) j=if e.t=j∧e.kind≠3 then e::evts l j else evts l j:=by
        unfold evts
        rw [List.filter_cons]
        by_cases g:e.t=j∧e.kind≠3
        · rw [if_pos g,if_pos (by simp [g.1,g.2])]
        · rw [if_neg g,if_neg (by simp only [Bool.and_eq_true,beq_iff_eq,bne_iff_ne];exact g)]
      rw [hev]
      unfold ansE at h1
      by_cases g:e.t≠j∨e.kind=3
      · rw [if_pos g] at h1
        obtain rfl:=Option.some.inj h1
        rw [if_neg (show ¬(e.t=j∧e.kind≠3) from fun x=>g.elim (fun y=>y x.1) (fun y=>x.2 y))]
        exact ih
      · rw [if_neg g] at h1
        rw [if_pos (show e.t=j∧e.kind≠3 from ⟨Classical.not_not.1 (fun x=>g (.inl x)),fun x=>g (.inr x)⟩)]
        right
        have hv:v.2.1=(e.kind == 1)∧(v.2.1=true→v.2.2=e):=by
          by_cases k:e.kind=1
          · rw [if_pos k] at h1
            split at h1
            · cases h1
            · rw [← Option.some.inj h1,Zbg k];exact ⟨rfl,fun _=>rfl⟩
          · rw [if_neg k] at h1
            split at h1
            · rw [← Option.some.inj h1,ZaN k];exact ⟨rfl,fun x=>by cases x⟩
            · cases h1
        rcases ih with ⟨i1,i2⟩ | ⟨e',i1,i2,i3⟩
        · rw [i1,i2]
          exact ⟨e,rfl,hv⟩
        · refine ⟨e',?_,i2,i3⟩
          cases hq:evts l j with
          | nil=>rw [hq] at i1;cases i1
          | cons a r=>rw [hq] at i1;rw [List.getLast?_cons_cons];exact i1
theorem ZxD {lo hi j:Int} {own:List Mark} {l:List Event} {k:Nat} {op:Bool} {last:Event} (h:ansL lo hi j own (0,false,Zdj) l=some (k,op,last)):pend (evts l j)=if op=true then (last,true) else (Zg4,false):=by
  rcases Zq2 h with ⟨h1,h2⟩ | ⟨e,h1,h2,h3⟩
  · cases h2
    rw [h1];rfl
  · have h2:op=(e.kind == 1):=h2
    have h3:op=true→last=e:=h3
    unfold pend
    rw [h1]
    cases op with
    | true =>
      simp only []
      rw [← h2,h3 rfl];rfl
    | false =>
      simp only []
      rw [← h2];rfl
def ZcR:Nat→(Nat→Nat)→Nat
  | 0,_=>0
  | n+1,g=>ZcR n g+g n
theorem ZmV:∀ (n:Nat) (f g:Nat→Nat),ZcR n (fun j=>f j+g j)=ZcR n f+ZcR n g
  | 0,_,_=>rfl
  | n + 1, f, g => by
    show ZcR n _+(f n+g n)=ZcR n f+f n+(ZcR n g+g n)
    rw [ZmV n f g];omega
theorem ZkA:∀ (n:Nat) {f g:Nat→Nat},(∀ j,j<n→f j=g j)→ZcR n f=ZcR n g
  | 0,_,_,_=>rfl
  | n + 1, f, g, h => by
    show ZcR n f+f n=ZcR n g+g n
    rw [ZkA n (fun j hj=>h j (by omega)),h n (by omega)]
theorem Ztm:∀ (n:Nat) {f g:Nat→Nat},(∀ j,j<n→f j≤g j)→ZcR n f≤ZcR n g
  | 0,_,_,_=>Nat.le_refl _
  | n + 1, f, g, h => by
    have:=Ztm n (f:=f) (g:=g) (fun j hj=>h j (by omega))
    have:=h n (by omega)
    show ZcR n f+f n≤ZcR n g+g n
    omega
theorem Zmc:∀ n,ZcR n (fun _=>0)=0
  | 0=>rfl
  | n+1=>by show ZcR n _+0=0;rw [Zmc n]
theorem Zq3 {k:Nat}:∀ n,k<n→ZcR n (fun j=>if k=j then 1 else 0)=1
  | 0,h=>by omega
  | n + 1, h => by
    show ZcR n _+(if k=n then 1 else 0)=1
    by_cases e:k=n
    · rw [if_pos e,ZkA n (g:=fun _=>0) (fun j hj=>if_neg (by omega)),Zmc]
    · rw [if_neg e,Zq3 n (by omega)]
theorem Zhx {α:Type} {f:α→Int} {T:Nat}:∀ l:List α,(∀ x∈l,0≤f x∧f x<(T:Int))→l.length=ZcR T (fun j=>(l.filter fun x=>f x == (j:Int)).length)
  | [],_=>(Zmc T).symm
  | a :: l, h => by
    have ih:=Zhx l (fun x hx=>h x (List.mem_cons_of_mem _ hx))
    have ha:=h a (List.mem_cons_self ..)
    have e:ZcR T (fun j=>((a::l).filter fun x=>f x == (j:Int)).length)=ZcR T (fun j=>(if (f a).toNat=j then 1 else 0)+(l.filter fun x=>f x == (j:Int)).length):=by
      refine ZkA T fun j hj=>?_
      rw [List.filter_cons]
      by_cases g:f a=(j:Int)
      · rw [if_pos (by simp [g]),if_pos (by omega),List.length_cons];omega
      · rw [if_neg (by simp [g]),if_neg (by omega)];omega
    rw [e,ZmV,Zq3 T (by omega),← ih,List.length_cons]
    omega
theorem ZpR {l:List Thread}:∀ n,n≤l.length→Zhs (l.take n)=ZcR n (fun j=>if (l.getD j Zas).phase≠0 then 1 else 0)
  | 0,_=>by rw [List.take_zero];rfl
  | n + 1, h => by
    unfold Zhs
    rw [ZnW (fun t:Thread=>t.phase != 0) l Zas n (by omega)]
    show _=ZcR n _+(if (l.getD n Zas).phase≠0 then 1 else 0)
    rw [← ZpR n (by omega)]
    unfold Zhs
    by_cases g:(l.getD n Zas).phase=0
    · rw [if_neg (show ¬((l.getD n Zas).phase != 0)=true by rw [Ze5 g];decide),if_neg (fun x=>x g)];rfl
    · rw [if_pos (show ((l.getD n Zas).phase != 0)=true from ZfC g),if_pos g,List.length_append,List.length_singleton]
theorem Zpq {lo hi j:Int} {own:List Mark}:∀ {l:List Event} {s s':Nat×Bool×Event},ansL lo hi j own s l=some s'→(∀ e∈l,e.kind=1∨e.kind=2∨e.kind=3) →
    s'.1=s.1+(((l.filter fun e=>e.kind == 2)).filter fun e=>e.t == j).length ∧
    s'.1+(if s'.2.1=true then 1 else 0)=s.1+(if s.2.1=true then 1 else 0)+(((l.filter fun e=>e.kind == 1)).filter fun e=>e.t == j).length
  | [],s,s',h,_=>by cases h;exact ⟨rfl,rfl⟩
  | e :: l, s, s', h, hk => by
    have h:(match ansE lo hi j own s e with | some s=>ansL lo hi j own s l | none=>none)=some s':=h
    have hke:=hk e (List.mem_cons_self ..)
    cases h1:ansE lo hi j own s e with
    | none=>rw [h1] at h;cases h
    | some v =>
      rw [h1] at h
      obtain ⟨i1,i2⟩:=Zpq h (fun x hx=>hk x (List.mem_cons_of_mem _ hx))
      rw [i1]
      rw [i1] at i2
      have key:∀ k:Int,(((e::l).filter fun e=>e.kind == k).filter fun e=>e.t == j).length=(if e.kind=k∧e.t=j then 1 else 0)+((l.filter fun e=>e.kind == k).filter fun e=>e.t == j).length:=by
        intro k
        rw [List.filter_cons]
        by_cases g:e.kind=k
        · rw [if_pos (by simp [g]),List.filter_cons]
          by_cases g2:e.t=j
          · rw [if_pos (by simp [g2]),if_pos ⟨g,g2⟩,List.length_cons];omega
          · rw [if_neg (by simp [g2]),if_neg (fun x=>g2 x.2)];omega
        · rw [if_neg (by simp [g]),if_neg (fun x=>g x.1)];omega
      rw [key 1,key 2]
      unfold ansE at h1
      by_cases g:e.t≠j∨e.kind=3
      · rw [if_pos g] at h1
        obtain rfl:=Option.some.inj h1
        rw [if_neg (show ¬(e.kind=2∧e.t=j) from fun x=>g.elim (fun y=>y x.2) (fun y=>by omega)),if_neg (show ¬(e.kind=1∧e.t=j) from fun x=>g.elim (fun y=>y x.2) (fun y=>by omega))]
        omega
      · rw [if_neg g] at h1
        have ht:e.t=j:=Classical.not_not.1 (fun x=>g (.inl x))
        have h3:e.kind≠3:=fun x=>g (.inr x)
        by_cases k:e.kind=1
        · rw [if_pos k] at h1
          split at h1
          · cases h1
          · rename_i so
            obtain rfl:=Option.some.inj h1
            rw [if_neg (show ¬(e.kind=2∧e.t=j) by omega),if_pos (show e.kind=1∧e.t=j from ⟨k,ht⟩),if_neg so]
            rw [if_pos (show ((s.1,true,e):Nat×Bool×Event).2.1=true from rfl)] at i2
            have e0:((s.1,true,e):Nat×Bool×Event).1=s.1:=rfl
            rw [e0] at i2 ⊢
            omega
        · rw [if_neg k] at h1
          split at h1
          · rename_i f
            obtain rfl:=Option.some.inj h1
            rw [if_pos (show e.kind=2∧e.t=j from ⟨by omega,ht⟩),if_neg (show ¬(e.kind=1∧e.t=j) from fun x=>k x.1),if_pos f.1]
            rw [if_neg (show ¬((s.1+1,false,s.2.2):Nat×Bool×Event).2.1=true from fun x=>by cases x)] at i2
            have e0:((s.1+1,false,s.2.2):Nat×Bool×Event).1=s.1+1:=rfl
            rw [e0] at i2 ⊢
            omega
          · cases h1
section
variable {c:Config} {w:Wld} {n:Nat} {ro pa rt:Int→Int} {co:Int→Option Int}
theorem Lin.counts (Li:Lin c w ro co) (W:WInv c w n ro pa rt co) (hC:CfgOK c):count w.hist 1=count w.hist 2+(Zhs w.t:Int)∧w.log.length≤(w.hist.filter fun e=>e.kind == 1).length:=by
  have hT:=hC.threads
  have hlT:=W.lenT
  have hk:∀ e∈w.hist,e.kind=1∨e.kind=2∨e.kind=3:=fun e he=>(Li.ehist e he).2.1
  have hin:∀ (k:Int),∀ e∈(w.hist.filter fun e=>e.kind == k),0≤e.t∧e.t<((c.threads.toNat:Nat):Int):=by
    intro k e he
    have:=(Li.ehist e (List.mem_filter.1 he).1).1
    unfold InT at this
    omega
  have s1:=Zhx (f:=fun e:Event=>e.t) (T:=c.threads.toNat) (w.hist.filter fun e=>e.kind == 1) (hin 1)
  have s2:=Zhx (f:=fun e:Event=>e.t) (T:=c.threads.toNat) (w.hist.filter fun e=>e.kind == 2) (hin 2)
  have s3:=Zhx (f:=fun m:Mark=>m.t) (T:=c.threads.toNat) w.log (fun m hm=>by
    have:=(Li.inlog m hm).1
    unfold InT at this
    omega)
  have s4:=ZpR (l:=w.t) w.t.length (Nat.le_refl _)
  rw [List.take_length] at s4
  have hTn:w.t.length=c.threads.toNat:=by omega
  rw [hTn] at s4
  have per:∀ j:Nat,j<c.threads.toNat→((w.hist.filter fun e=>e.kind == 1).filter fun x=>x.t == (j:Int)).length=((w.hist.filter fun e=>e.kind == 2).filter fun x=>x.t == (j:Int)).length+(if (w.t.getD j Zas).phase≠0 then 1 else 0)∧(Zbf j w.log).length≤((w.hist.filter fun e=>e.kind == 1).filter fun x=>x.t == (j:Int)).length:=by
    intro j hj
    have hjn:InT c (j:Int):=⟨by omega,by omega⟩
    obtain ⟨k,op,last,a,b,d,f,g⟩:=(Li.ans j hjn).ex
    obtain ⟨c1,c2⟩:=Zpq a hk
    have hph:(vw c w.m w.t).th j=w.t.getD j Zas:=by rw [Zir hjn];rfl
    have hb:=W.inv.busy hjn
    rw [hph] at hb
    have c1:k=0+((w.hist.filter fun e=>e.kind == 2).filter fun x=>x.t == (j:Int)).length:=c1
    have c2:k+(if op=true then 1 else 0)=0+0+((w.hist.filter fun e=>e.kind == 1).filter fun x=>x.t == (j:Int)).length:=c2
    have hle:(Zbf j w.log).length≤k+(if op=true then 1 else 0):=by
      cases hco:co j with
      | none=>rw [f hco];omega
      | some x =>
        have hr:ro j≠0:=by
          intro h0
          have:=(W.inv.core.k0 j h0).1
          rw [hco] at this;cases this
        rw [(g x hco).1,if_pos (b.2 hr)]
        exact Nat.le_refl _
    refine ⟨?_,by omega⟩
    cases ho:op with
    | true =>
      have hr:=b.1 ho
      rw [ho,if_pos rfl] at c2
      rw [if_pos (fun x=>hr (hb.2 x))]
      omega
    | false =>
      have hr:¬ro j≠0:=fun x=>by have:=b.2 x;rw [ho] at this;cases this
      rw [ho,if_neg (by decide)] at c2
      rw [if_neg (fun x=>hr (fun y=>x (hb.1 y)))]
      omega
  constructor
  · have e:=ZkA c.threads.toNat (fun j hj=>(per j hj).1)
    rw [ZmV] at e
    unfold count
    rw [s1,s2,s4,e]
    omega
  · rw [s3,s1]
    exact Ztm _ fun j hj=>(per j hj).2
end
theorem Zs2:Zen ()=some true:=by
  show Zmv=some true
  kernel_rfl
end Go.Proofs.Mill
