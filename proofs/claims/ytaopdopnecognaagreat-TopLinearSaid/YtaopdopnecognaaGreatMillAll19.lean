/- Parts of the proof: MillComm2, MillFrame, MillPtr. -/
import Derived.Test.YtaopdopnecognaaGreatMillAll8
import Derived.Test.YtaopdopnecognaaGreatMillAll3
set_option linter.all false
namespace Go.Proofs.Mill
open Go.RowKit Go.Conc Go.CheckFast
def Zqn (K:Act->World->Prop):Exit->Act->World->Prop:=fun e a w=>match e with | .normal=>K a w | _=>False
theorem Zsn {P:Program} {opsX ops:Array Oper} {K:Act->World->Prop} (r:List Nat):∀ (l:List Nat) (a:Act) (w:World),(∀ i∈l,∃ o,opsX[i]?=some o/\ops[i]?=some o/\o.guard=none) ->
   wpOpsIn Fence.wide 0 P opsX (Zqn K) l a w->∀ (b:Frame) (k:List Item) (cs:List Frame),∃ a' w',K a' w'/\Steps P (lone (b.at a (.inRegion ops (l++r)::k)) cs w) (lone (b.at a' (.inRegion ops r::k)) cs w')
 | [],a,w,_,h,b,k,cs=>⟨a,w,h,Steps.refl _ _⟩
 | i :: rest, a, w, hX, h, b, k, cs => by
   obtain ⟨o,hoX,ho,hg⟩:=hX i (by simp)
   have ih:=Zsn (P:=P) (opsX:=opsX) (ops:=ops) (K:=K) r rest
   have hX':∀ i∈rest,∃ o,opsX[i]?=some o/\ops[i]?=some o/\o.guard=none:=fun i hi=>hX i (List.mem_cons_of_mem _ hi)
   have hw:Region.wanted o (yielded opsX a.tmps)=true:=by simp [Region.wanted,hg]
   have hw':Region.wanted o (yielded ops a.tmps)=true:=by simp [Region.wanted,hg]
   simp only [wpOpsIn,hoX,hw,if_true] at h
   obtain ⟨_,h⟩:=h
   have h:o.uponIn Fence.wide 0 P a (wpOpsIn Fence.wide 0 P opsX (Zqn K) rest) (Zqn K) ((execOp a.eval o).run P w):=h
   have hgs:=stepG_op (P:=P) (b:=b) (k:=k) (cs:=cs) (w:=w) (rest:=rest++r) ho hw'
   have hfin:∀ v,(b.at a (.inRegion ops (i::(rest++r))::k)).finish v=b.at (a.put o.dst v) (.inRegion ops (rest++r)::k):=by
     intro v;rw [Frame.finish_at,ho];rfl
   simp only [Oper.uponIn] at h
   show ∃ a' w',K a' w'/\Steps P (lone (b.at a (.inRegion ops (i::(rest++r))::k)) cs w) (lone (b.at a' (.inRegion ops r::k)) cs w')
   split at h
   . rename_i v w' hr
     obtain ⟨a',w'',hq,hs⟩:=ih _ _ hX' h b k cs
     refine ⟨a',w'',hq,.head (step_lone_go ?_) hs⟩
     rw [hgs,<- hfin];simp [stepG.apply,hr]
   . rename_i w' hr
     obtain ⟨a',w'',hq,hs⟩:=ih _ _ hX' h b k cs
     refine ⟨a',w'',hq,.head (step_lone_go ?_) hs⟩
     rw [hgs,<- hfin];simp [stepG.apply,hr]
   . rename_i d w' hr
     obtain ⟨a',w'',hq,hs⟩:=ih _ _ hX' h b k cs
     refine ⟨a',w'',hq,.head (step_lone_go ?_) hs⟩
     have:({ b.at a (.inRegion ops (i::(rest++r))::k) with defers:=d::a.defers }:Frame).finish undef =
         b.at ({ a with defers:=d::a.defers }.put o.dst undef) (.inRegion ops (rest++r)::k):=by
       have:=Frame.finish_at b { a with defers:=d::a.defers } ops i (rest++r) k undef
       rw [ho] at this;exact this
     rw [hgs];simp only [stepG.apply,Sem.runT_eq,hr,GStep.bare_after]
     exact congrArg (fun fr=>GStep.go { frame:=fr,callers:=cs,status:=.running,dying:=none } w') this
   . rename_i f args w' hr
     obtain ⟨e,w'',fr,hR,hsteps,_,hleave⟩:=(callsIn_wide.1 h.2) (b.at a (.inRegion ops (i::(rest++r))::k)::cs)
     have henter:step P (lone (b.at a (.inRegion ops (i::(rest++r))::k)) cs w) =
         .next (lone (Frame.enter P f args .normal) (b.at a (.inRegion ops (i::(rest++r))::k)::cs) w') :=
       step_lone_go (by rw [hgs];simp [stepG.apply,hr,Frame.at])
     cases e with
     | returned v =>
       obtain ⟨a',w₃,hq,hs⟩:=ih _ _ hX' hR b k cs
       refine ⟨a',w₃,hq,.head henter (hsteps.trans (.head ?_ hs))⟩
       rw [<- hfin];exact step_leave_returned hleave
     | panicked chain=>exact hR.elim
     | outgrown =>
       obtain ⟨a₀,w₀,hq⟩:=hR
       exact hq.elim
   . rename_i row args w' hr
     obtain ⟨v,w'',hR,hsteps⟩:=h.2 (b.at a (.inRegion ops (i::(rest++r))::k)) cs (room_wide _)
     have henter:step P (lone (b.at a (.inRegion ops (i::(rest++r))::k)) cs w) =
         .next (lone (Frame.ofRow P row args .normal) (b.at a (.inRegion ops (i::(rest++r))::k)::cs) w') :=
       step_lone_go (by rw [hgs];simp [stepG.apply,hr,Frame.at])
     obtain ⟨a',w₃,hq,hs⟩:=ih _ _ hX' hR b k cs
     refine ⟨a',w₃,hq,.head henter (Steps.trans ?_ hs)⟩
     rw [<- hfin];exact stepsIn_wide.1 hsteps
   . rename_i l f tmps assign body w' hr
     obtain ⟨e,w'',hR,hsteps⟩:=h.2.2 (b.at a (.inRegion ops (i::(rest++r))::k)) cs (room_wide _)
     have henter:step P (lone (b.at a (.inRegion ops (i::(rest++r))::k)) cs w) =
         .next (lone (Frame.round l f tmps assign body .normal) (b.at a (.inRegion ops (i::(rest++r))::k)::cs) w') :=
       step_lone_go (by rw [hgs];simp [stepG.apply,hr,Frame.at])
     cases e with
     | returned v =>
       obtain ⟨a',w₃,hq,hs⟩:=ih _ _ hX' hR b k cs
       refine ⟨a',w₃,hq,.head henter (Steps.trans ?_ hs)⟩
       rw [<- hfin];exact stepsIn_wide.1 hsteps
     | panicked chain=>exact hR.elim
     | outgrown =>
       obtain ⟨a₀,w₀,hq⟩:=hR
       exact hq.elim
   . exact h.elim
   . exact h.elim
theorem ZnZ {l:Array Bool} {n j:Nat} (hs:l.size=n) (hj:j<n):l.getD j true=Za1 l j:=by
 unfold Za1
 have:j<l.size:=by omega
 simp [Array.getD,this]
theorem ZxR {ops opsX:Array Oper} {m:Nat} (hm:ops.size=m+1) (hXs:opsX.size=m) (hX:∀ i,i<m->opsX[i]?=ops[i]?) (hback:Zev 0 ops.toList=true) {listed listedX:Array Bool} (hs:listed.size=m+1) (hsX:listedX.size=m)
   (heq:∀ j,j<m->Za1 listed j=Za1 listedX j) (hnr:m∉Region.ready .any ops listed):Region.ready .any ops listed=Region.ready .any opsX listedX:=by
 unfold Region.ready at hnr ⊢
 rw [hm,List.range_succ,List.filter_append,hXs]
 have h2:List.filter (fun i=>!listed.getD i true && ((ops[i]?).map (·.after.all fun e=>!Region.binds .any e || listed.getD e.on false)).getD false) [m]=[]:=by
   rw [List.filter_eq_nil_iff]
   intro x hx h
   simp only [List.mem_singleton] at hx
   subst hx
   exact hnr (List.mem_filter.2 ⟨by simp [hm],h⟩)
 rw [h2,List.append_nil]
 refine List.filter_congr fun j hj=>?_
 have hj:j<m:=by simpa using hj
 rw [ZnZ hs (by omega),ZnZ hsX hj,heq j hj,hX j hj]
 congr 1
 have ho:ops[j]?=some ops[j]:=Array.getElem?_eq_getElem (by omega)
 rw [ho]
 simp only [Option.map_some,Option.getD_some]
 rw [Bool.eq_iff_iff,Array.all_eq_true_iff_forall_mem,Array.all_eq_true_iff_forall_mem]
 have key:∀ e∈ops[j].after,Region.binds .any e=true->listed.getD e.on false=listedX.getD e.on false:=by
   intro e he hb
   have hlt:=ZeS _ _ hback j ops[j] (by simp [ho]) e (by simpa using he) hb
   exact heq e.on (by omega)
 constructor
 . intro h e he
   have:=h e he
   cases hb:Region.binds .any e with
   | false=>simp
   | true=>rw [hb] at this;rw [<- key e he hb];exact this
 . intro h e he
   have:=h e he
   cases hb:Region.binds .any e with
   | false=>simp
   | true=>rw [hb] at this;rw [key e he hb];exact this
theorem ZCQ {ops opsX:Array Oper} {m:Nat} (hm:ops.size=m+1) (hXs:opsX.size=m) (hX:∀ i,i<m->opsX[i]?=ops[i]?) (hback:Zev 0 ops.toList=true) (hwait:Zep (beforeL ops.toList 0 []) m=true) :
   ∀ (fuel t : Nat) (listed listedX : Array Bool), listed.size = m + 1 -> listedX.size = m -> (∀ j, j < m -> Za1 listed j = Za1 listedX j) -> Za1 listed m = false -> EdgesIn ops (Za1 listed) -> listedX.toList.count false = fuel ->
     Region.linearise.go .any ops (fuel+1) t listed []=Region.linearise.go .any opsX fuel t listedX []++[m]:=by
 have hom:ops[m]?=some ops[m]:=Array.getElem?_eq_getElem (by omega)
 intro fuel
 induction fuel with
 | zero =>
   intro t listed listedX hs hsX heq hnm hedges hc
   have hall:∀ j,j<m->Za1 listed j=true:=fun j hj=>by rw [heq j hj];exact Zkr hc (by omega)
   have hready:Region.ready .any ops listed=[m]:=by
     have hmem:m∈Region.ready .any ops listed:=ZmF (by omega) hom hnm fun e he hb=>hall _ (by have:=ZeS _ _ hback m ops[m] (by simp [hom]) e he hb;omega)
     unfold Region.ready at hmem ⊢
     rw [hm,List.range_succ,List.filter_append]
     have h1:List.filter (fun i=>!listed.getD i true && ((ops[i]?).map (·.after.all fun e=>!Region.binds .any e || listed.getD e.on false)).getD false) (List.range m)=[]:=by
       rw [List.filter_eq_nil_iff]
       intro j hj h
       have hj:j<m:=by simpa using hj
       simp only [Bool.and_eq_true] at h
       have h1:=h.1
       rw [ZnZ hs (by omega),hall j hj] at h1
       cases h1
     rw [h1,List.nil_append]
     have:=(List.mem_filter.1 hmem).2
     rw [List.filter_cons,if_pos this,List.filter_nil]
   simp only [Region.linearise.go]
   change (match (Region.ready .any ops listed)[t % (Region.ready .any ops listed).length]? with
     | some i=>Region.linearise.go .any ops 0 (t / (Region.ready .any ops listed).length) (listed.setIfInBounds i true) [i]
     | none=>[].reverse)=_
   rw [hready]
   simp [Nat.mod_one,Region.linearise.go]
 | succ fuel ih =>
   intro t listed listedX hs hsX heq hnm hedges hc
   have hnr:m∉Region.ready .any ops listed:=by
     intro hr
     obtain ⟨_,_,o,ho,he⟩:=ZgR (by omega) hr
     obtain ⟨j,hj,hjf⟩:=Zri hc
     have:=ZmN hedges m o ho he j (List.all_eq_true.1 hwait j (List.mem_range.2 (by omega)))
     rw [heq j (by omega),hjf] at this
     cases this
   have hready:=ZxR hm hXs hX hback hs hsX heq hnr
   have hne:Region.ready .any opsX listedX≠[]:=by
     have least:∀ n,(∃ j,j<n/\j<m/\Za1 listed j=false)->∃ j,j<m/\Za1 listed j=false/\∀ i,i<j->Za1 listed i=true:=by
       intro n
       induction n with
       | zero=>rintro ⟨j,hj,_⟩;omega
       | succ n ihn =>
         rintro ⟨j,hj,hjm,hjf⟩
         by_cases hlow:∃ j,j<n/\j<m/\Za1 listed j=false
         . exact ihn hlow
         . refine ⟨j,hjm,hjf,fun i hi=>?_⟩
           cases hb:Za1 listed i with
           | true=>rfl
           | false=>exact (hlow ⟨i,by omega,by omega,hb⟩).elim
     obtain ⟨j,hj,hjf⟩:=Zri hc
     obtain ⟨j,hjm,hjf,hbelow⟩:=least m ⟨j,by omega,by omega,by rw [heq j (by omega)];exact hjf⟩
     have hr:j∈Region.ready .any ops listed:=ZmF (by omega) (Array.getElem?_eq_getElem (by omega)) hjf fun e he hb =>
       hbelow _ (by have:=ZeS _ _ hback j ops[j] (by simp) e he hb;omega)
     rw [hready] at hr
     intro e
     rw [e] at hr
     cases hr
   rw [show fuel+1+1=(fuel+1)+1 from rfl]
   simp only [Region.linearise.go]
   change (match (Region.ready .any ops listed)[t % (Region.ready .any ops listed).length]? with
     | some i=>Region.linearise.go .any ops (fuel+1) (t / (Region.ready .any ops listed).length) (listed.setIfInBounds i true) [i]
     | none=>[].reverse)=(match (Region.ready .any opsX listedX)[t % (Region.ready .any opsX listedX).length]? with
     | some i=>Region.linearise.go .any opsX fuel (t / (Region.ready .any opsX listedX).length) (listedX.setIfInBounds i true) [i]
     | none=>[].reverse)++[m]
   rw [hready]
   have hlt:t % (Region.ready .any opsX listedX).length<(Region.ready .any opsX listedX).length:=Nat.mod_lt _ (List.length_pos_iff.2 hne)
   have hget:=List.getElem?_eq_getElem hlt
   generalize (Region.ready .any opsX listedX)[t % (Region.ready .any opsX listedX).length]=i at hget
   rw [hget]
   simp only
   have hi:i∈Region.ready .any opsX listedX:=List.mem_of_getElem? hget
   have hi':i∈Region.ready .any ops listed:=by rw [hready];exact hi
   obtain ⟨_,hif,o,ho,he⟩:=ZgR (by omega) hi'
   obtain ⟨hilt,hifX,_⟩:=ZgR (by omega) hi
   have him:i<m:=by omega
   rw [linearise_go_acc,linearise_go_acc (acc:=[i])]
   have g1:∀ j,j<m->Za1 (listed.setIfInBounds i true) j=Za1 (listedX.setIfInBounds i true) j:=fun j hj=>by
     rw [ZhG listed (show i<listed.size by omega) j,ZhG listedX (show i<listedX.size by omega) j,heq j hj]
   have g2:Za1 (listed.setIfInBounds i true) m=false:=by
     rw [ZhG listed (show i<listed.size by omega) m,hnm]
     simp;omega
   have g3:EdgesIn ops (Za1 (listed.setIfInBounds i true)):=by
     intro j oj hj hoj e hem hb
     rw [ZhG listed (show i<listed.size by omega)] at hj ⊢
     simp only [Bool.or_eq_true,decide_eq_true_eq] at hj ⊢
     rcases hj with hj | hj
     . exact .inl (hedges j oj hj hoj e hem hb)
     . subst hj
       rw [ho] at hoj
       obtain rfl:=Option.some.inj hoj
       exact .inl (he e hem hb)
   have g4:(listedX.setIfInBounds i true).toList.count false=fuel:=by
     have:=ZrD listedX (i:=i) (by omega) hifX
     omega
   rw [ih (t / (Region.ready .any opsX listedX).length) (listed.setIfInBounds i true) (listedX.setIfInBounds i true) (by simp [hs]) (by simp [hsX]) g1 g2 g3 g4]
   simp
theorem ZCO {ops:Array Oper}:∀ (fuel t:Nat) (listed:Array Bool) (i:Nat),i∈Region.linearise.go .any ops fuel t listed []->i<ops.size:=by
 intro fuel
 induction fuel with
 | zero=>intro t listed i h;simp [Region.linearise.go] at h
 | succ fuel ih =>
   intro t listed i h
   simp only [Region.linearise.go] at h
   change i∈(match (Region.ready .any ops listed)[t % (Region.ready .any ops listed).length]? with
     | some i=>Region.linearise.go .any ops fuel (t / (Region.ready .any ops listed).length) (listed.setIfInBounds i true) [i]
     | none=>[].reverse) at h
   split at h
   . rename_i j hj
     rw [linearise_go_acc] at h
     rcases List.mem_append.1 h with h | h
     . have hr:=List.mem_of_getElem? hj
       unfold Region.ready at hr
       have:=(List.mem_filter.1 hr).1
       simp only [List.reverse_singleton,List.mem_singleton] at h
       subst h
       simpa using this
     . exact ih _ _ _ h
   . simp at h
theorem Ends.region_drawn {V:Env} {ρ:Type} {inl:Inl ρ} {k:St->Option ρ} {r:ρ} {J:Cx->Prop} {w0 w:World} {ok:Nat->Prop} {nt fid id:Nat} {σ:St} {a:Act} {opsX ops:Array Oper} {m:Nat} {Q:Exit->Act->World->Prop}
   (hG:Zai V) (hI:Zgb V inl) (hJ:Stays J) (hsz:ops.size=m+1) (hXs:opsX.size=m) (hX:∀ i,i<m->opsX[i]?=ops[i]?) (hgd:(opsX.all fun o=>o.guard.isNone)=true) (hback:Zev 0 ops.toList=true)
   (hwait:Zep (beforeL ops.toList 0 []) m=true) (hh:Holds J w0 ok nt [] σ a w) (h:regK V inl fid nt opsX true σ k=some r)
   (hn:∀ σ' a' w',Holds J w0 ok nt [] σ' a' w'->k σ'=some r->∀ (b:Frame) (k:List Item) (cs:List Frame),b.kind=.normal->∃ e a2 w2,Q e a2 w2/\Arrives V.P (lone (b.at a' (.inRegion ops [m]::k)) cs w') b k cs e a2 w2) :
   Ends V.P (.region id ops true) Q a w:=by
 have hbackX:Zev 0 opsX.toList=true:=by
   have:∀ (l l':List Oper) (n:Nat),Zev n (l++l')=true->Zev n l=true:=by
     intro l
     induction l with
     | nil=>intro l' n _;rfl
     | cons o l ihl =>
       intro l' n h
       rw [List.cons_append] at h
       unfold Zev at h ⊢
       cases hb:(o.after.toList.all fun e=>!(Region.binds .any e) || Nat.blt e.on n) with
       | false=>rw [hb] at h;cases h
       | true=>rw [hb] at h;simp only [cond_true] at h ⊢;exact ihl l' _ h
   refine this opsX.toList [ops[m]] 0 ?_
   have:opsX.toList++[ops[m]]=ops.toList:=by
     apply List.ext_getElem?
     intro i
     by_cases hi:i<m
     . rw [List.getElem?_append_left (by simpa [hXs] using hi)]
       have:=hX i hi
       simpa using this
     . rw [List.getElem?_append_right (by simp [hXs];omega)]
       by_cases e:i=m
       . subst e
         simp [hXs,Array.getElem?_eq_getElem (show i<ops.size by omega)]
       . have h1:1<=i-opsX.toList.length:=by simp [hXs];omega
         rw [List.getElem?_eq_none (by simpa using h1),List.getElem?_eq_none (by simp;omega)]
   rw [this]
   exact hback
 unfold regK at h
 simp only [cond_true] at h
 rw [Zou,CheckFast.force_eq,hbackX] at h
 simp only [cond_true] at h
 have hns:ZeR (beforeL opsX.toList 0 []) opsX.toList.length<=opsX.size:=by
   have:=ZlQ (beforeL opsX.toList 0 []) opsX.toList.length
   simpa using this
 have hwaitX:∀ m,ZeR (beforeL opsX.toList 0 []) opsX.toList.length<=m->m<opsX.size->Zep (beforeL opsX.toList 0 []) m=true :=
   fun m h1 h2=>Zj4 _ _ m h1 (by simpa using h2)
 obtain ⟨txs,σn,hrun,hk,hln⟩:=Zuq hns h
 have hnone:∀ (n j:Nat),Za1 (Array.replicate n false) j=false:=by
   intro n j
   unfold Za1
   rw [Array.getD_eq_getD_getElem?,Array.getElem?_replicate]
   split <;> rfl
 have hany:∀ (d:Nat),wpAnyIn (Za4 none) 0 V.P .any opsX (Zqn fun a' w'=>∃ σ',Holds J w0 ok nt [] σ' a' w'/\k σ'=some r) opsX.size (Array.replicate opsX.size false) a { w with drawn:=d }:=by
   intro d
   refine Zsu (w0:=w0) (ok:=ok) (ds:=[]) (Q:=Zqn fun a' w'=>∃ σ',Holds J w0 ok nt [] σ' a' w'/\k σ'=some r) hG hI hJ hbackX hwaitX hns hrun hln hk (fun σ1 a' w' hh' h'=>?_) opsX.size _ a _ (by simp) (fun j oj hj=>by rw [hnone] at hj;cases hj)
     (fun j hj=>by rw [hnone] at hj;cases hj) (by simp) ?_
   . exact ⟨σ1,hh',h'⟩
   . have:txs.filter (fun p=>Za1 (Array.replicate opsX.size false) p.1)=[]:=by
       rw [List.filter_eq_nil_iff]
       intro p _
       rw [hnone];simp
     unfold canon
     rw [this]
     exact hh.drawn hJ _
 intro b k2 cs hb
 have hs0:=step_region_draw (P:=V.P) (b:=b) (a:=a) (k:=k2) (cs:=cs) (w:=w) (id:=id) (ops:=ops)
 have hsched:∀ t,Region.schedule (V.P.follows .mixedOrders) ops t=Region.linearise.go .any opsX m t (Array.replicate m false) []++[m]:=by
   intro t
   have hm:V.P.follows .mixedOrders=true:=hG.2.1
   simp only [Region.schedule,hm,Bool.true_or,if_true]
   show Region.linearise.go .any ops ops.size t (Array.replicate ops.size false) []=_
   rw [hsz]
   exact ZCQ hsz hXs hX hback hwait m t _ _ (by simp) (by simp) (fun j _=>by rw [hnone,hnone]) (hnone _ _) (fun j oj hj=>by rw [hnone] at hj;cases hj) (by simp)
 rw [hsched] at hs0
 obtain ⟨a',w',hq,hsteps⟩:=Zsn (P:=V.P) (opsX:=opsX) (ops:=ops) (K:=fun a' w'=>∃ σ',Holds J w0 ok nt [] σ' a' w'/\k σ'=some r) [m] _ a { w with drawn:=w.drawn+1 } (fun i hi=>by
   have hi:=ZCO _ _ _ _ hi
   have him:i<m:=by omega
   have ho:opsX[i]?=some opsX[i]:=Array.getElem?_eq_getElem hi
   refine ⟨opsX[i],ho,(hX i him).symm.trans ho,?_⟩
   have:=Array.all_eq_true.1 hgd i hi
   simpa using this) (wpAnyIn_sound (F:=Za4 none) (n:=0) m _ _ a _ (by have:=hany (w.drawn+1);rw [hXs] at this;exact this)) b k2 cs
 obtain ⟨σ',hh',hk'⟩:=hq
 obtain ⟨e,a2,w2,hq2,harr⟩:=hn σ' a' w' hh' hk' b k2 cs hb
 exact ⟨e,a2,w2,hq2,.of_steps (.head hs0 hsteps) harr⟩
end Go.Proofs.Mill
namespace Go.Proofs.Mill
open Go.RowKit
theorem Zw7 {w0 w:World} {ob ob':List (Nat×AV)} {mu:Nat->Option Nat} {ok:Nat->Prop} (hm:Mem w0 (cx w ob mu ok)) (hev:Ev ob ob') :
   ∃ ob1 mu1, Mem w0 (cx w ob1 mu1 ok) /\ Mono (cx w ob mu ok) (cx w ob1 mu1 ok) /\ (∀ i, look ob' i ≠ .dead -> look ob1 i = look ob' i) /\ (∀ i, look ob' i = .dead -> look ob1 i = look ob i) /\
     ∀ i,look ob' i=.dead->mu1 i=mu i:=by
 let ws:Wr:=ob'.filterMap fun p=>match look ob p.1,look ob' p.1 with | .row _ _ _,.frz τ xs=>some (p.1,.frz τ xs) | _,_=>none
 have hmem:∀ p∈ws,∃ e τ,∃ xs:List τ.den,look ob p.1=.row e τ xs/\look ob' p.1=.frz τ xs/\p.2=.frz τ xs:=by
   intro p hp
   obtain ⟨q,hq,hqp⟩:=List.mem_filterMap.1 hp
   rcases hev q.1 with h1 | ⟨_,h2⟩ | ⟨e,τ,xs,h1,h2⟩
   . rw [h1] at hqp
     cases hl:look ob q.1 <;> rw [hl] at hqp <;> cases hqp
   . rw [h2] at hqp
     cases hl:look ob q.1 <;> rw [hl] at hqp <;> cases hqp
   . rw [h1,h2] at hqp
     simp only [Option.some.injEq] at hqp
     subst hqp
     exact ⟨e,τ,xs,h1,h2,rfl⟩
 have hfz:Fz ob ws:=fun p hp=>by
   obtain ⟨e,τ,xs,h1,_,h3⟩:=hmem p hp
   exact ⟨e,τ,xs,h1,h3⟩
 obtain ⟨mu1,hm1,hmono,hws,hothers⟩:=Zgy hfz hm
 refine ⟨Zay ws ob,mu1,hm1,hmono,fun i hnd=>?_,fun i hi=>?_,fun i hi=>?_⟩
 . rcases hev i with h1 | ⟨_,h2⟩ | ⟨e,σ,ys,h1,h2⟩
   . by_cases hin:∃ p∈ws,p.1=i
     . obtain ⟨p,hp,rfl⟩:=hin
       obtain ⟨e,σ,ys,k1,k2,k3⟩:=hmem p hp
       rw [h1,k1] at k2
       cases k2
     . rw [(hothers i fun p hp e=>hin ⟨p,hp,e⟩).1,<- h1]
   . exact (hnd h2).elim
   . obtain ⟨p,hp,he⟩:=Zgr ob' i (by rw [h2];intro h;cases h)
     have:(i,AV.frz σ ys)∈ws:=by
       refine List.mem_filterMap.2 ⟨p,hp,?_⟩
       rw [he,h1,h2]
     rw [h2]
     exact hws _ this
 . refine (hothers i fun p hp e=>?_).1
   obtain ⟨_,_,_,_,k2,_⟩:=hmem p hp
   rw [e,hi] at k2
   cases k2
 . refine (hothers i fun p hp e=>?_).2
   obtain ⟨_,_,_,_,k2,_⟩:=hmem p hp
   rw [e,hi] at k2
   cases k2
def Zkh (ob ob':List (Nat×AV)) (j:Nat):Prop:=Zic (look ob j)/\look ob' j=.dead
theorem ZhV {w0 w:World} {ob ob' ob2:List (Nat×AV)} {mu:Nat->Option Nat} {ok:Nat->Prop} {cs ys:List AV} {ws:Wr} {os:List (Option Nat)}
   (hm:Mem w0 (cx w ob mu ok)) (h:Moves cs ys ob ob' ws os) (hn:(ws.map (·.1)).Nodup) (h2:∀ p∈ws,look ob2 p.1=p.2) (h3:∀ i,(∀ p∈ws,p.1≠i)->look ob2 i=.undef) :
   ∃ ob1 mu1 mu2 okF, Mem w0 (cx w ob1 mu1 ok) /\ Mono (cx w ob mu ok) (cx w ob1 mu1 ok) /\ (∀ i, look ob' i ≠ .dead -> look ob1 i = look ob' i) /\ (∀ i, look ob' i = .dead -> look ob1 i = look ob i) /\
     (∀ b,okF b↔ok b/\∀ j,¬Zkh ob ob' j->mu1 j≠some b)/\(∀ i b,mu2 i=some b->∃ j,Zkh ob ob' j/\mu1 j=some b) /\
     Mem w0 (cx w ob2 mu2 okF)/\(∀ us,VL (cx w ob mu ok) cs us->VL (cx w ob2 mu2 okF) ys us):=by
 obtain ⟨ob1,mu1,hm1,hmono,hlive,hdead,_⟩:=Zw7 hm h.ev
 let mu2:Nat->Option Nat:=fun i=>match (ws.zip os).find? (fun x=>x.1.1 == i) with | some q=>q.2.bind mu1 | none=>none
 let okF:Nat->Prop:=fun b=>ok b/\∀ j,¬Zkh ob ob' j->mu1 j≠some b
 have hin:∀ q∈ws.zip os,mu2 q.1.1=q.2.bind mu1:=by
   intro q hq
   show (match (ws.zip os).find? (fun x=>x.1.1 == q.1.1) with | some q=>q.2.bind mu1 | none=>none)=_
   rw [Zul hn h.len q hq]
 have hof:∀ i b,mu2 i=some b->∃ q∈ws.zip os,q.1.1=i/\∃ j,q.2=some j/\mu1 j=some b:=by
   intro i b hb
   have hb:(match (ws.zip os).find? (fun x=>x.1.1 == i) with | some q=>q.2.bind mu1 | none=>none)=some b:=hb
   cases hf:(ws.zip os).find? (fun x=>x.1.1 == i) with
   | none=>rw [hf] at hb;cases hb
   | some q =>
     rw [hf] at hb
     have hq:=List.mem_of_find?_eq_some hf
     have he:=List.find?_some hf
     cases hq2:q.2 with
     | none=>simp only [hq2,Option.bind_none] at hb;cases hb
     | some j =>
       simp only [hq2,Option.bind_some] at hb
       exact ⟨q,hq,by simpa using he,j,hq2,hb⟩
 have hmv:∀ q∈ws.zip os,∀ j,q.2=some j->Zkh ob ob' j:=fun q hq j hj=>by
   have:=(List.of_mem_zip hq).2
   rw [hj] at this
   exact h.alive j this
 have hnone:∀ i,(∀ p∈ws,p.1≠i)->mu2 i=none:=by
   intro i hi
   cases hb:mu2 i with
   | none=>rfl
   | some b =>
     obtain ⟨q,hq,he,_⟩:=hof i b hb
     exact (hi q.1 (List.of_mem_zip hq).1 he).elim
 have hokb:∀ b,(cx w ob1 mu1 ok).okb b->(cx w ob2 mu2 okF).okb b:=by
   intro b hb
   refine ⟨⟨hb.1,fun j _=>hb.2.2 j⟩,hb.2.1,fun i e=>?_⟩
   obtain ⟨_,_,_,j,_,hj⟩:=hof i b e
   exact hb.2.2 j hj
 have hc:Cond ob ob' ws os (cx w ob1 mu1 ok) (cx w ob2 mu2 okF):=by
   refine ⟨fun d v hd=>DV.mono hokb (fun _ _=>rfl) hd,hokb,rfl,fun i τ xs hi=>?_,fun i hd _=>hdead i hd,fun q hq=>⟨h2 q.1 (List.of_mem_zip hq).1,hin q hq⟩⟩
   show look ob1 i=_
   rw [hlive i (by rw [hi];intro h;cases h)]
   exact hi
 obtain ⟨s1,s2⟩:=h.sends _ _ hc
 refine ⟨ob1,mu1,mu2,okF,hm1,hmono,hlive,hdead,fun b=>Iff.rfl,fun i b hb=>?_,⟨fun i=>?_,fun i j b hi hj=>?_,fun i b hi=>?_,hm1.ext,fun b hb=>?_⟩,fun us hu=>s1 us (hmono.vl _ _ hu)⟩
 . obtain ⟨q,hq,_,j,hj,hmj⟩:=hof i b hb
   exact ⟨j,hmv q hq j hj,hmj⟩
 . by_cases hi:∃ p∈ws,p.1=i
   . obtain ⟨p,hp,rfl⟩:=hi
     exact s2 hm1.obj p hp
   . have hi':∀ p∈ws,p.1≠i:=fun p hp e=>hi ⟨p,hp,e⟩
     unfold ObjOK
     rw [show (cx w ob2 mu2 okF).ob i=.undef from h3 i hi']
     exact hnone i hi'
 . obtain ⟨q,hq,rfl,a,ha,hma⟩:=hof i b hi
   obtain ⟨q',hq',rfl,a',ha',hma'⟩:=hof j b hj
   have haa:a=a':=hm1.inj a a' b hma hma'
   subst haa
   have key:∀ {ws:Wr} {os:List (Option Nat)},(os.filterMap id).Nodup->∀ {q q':(Nat×AV)×Option Nat},q∈ws.zip os->q'∈ws.zip os->q.2=some a->q'.2=some a->q.1.1=q'.1.1:=by
     intro ws
     induction ws with
     | nil=>intro os _ q q' hq;simp at hq
     | cons p ws ih =>
       intro os hnd q q' hq hq' h1 h2
       cases os with
       | nil=>simp at hq
       | cons o os =>
         rw [List.zip_cons_cons] at hq hq'
         have tail:(os.filterMap id).Nodup:=by
           cases o with
           | none=>simpa using hnd
           | some o=>simp only [List.filterMap_cons,id_eq,List.nodup_cons] at hnd;exact hnd.2
         have no:o=some a->∀ {x:(Nat×AV)×Option Nat},x∈ws.zip os->x.2=some a->False:=by
           intro ho x hx hxa
           subst ho
           simp only [List.filterMap_cons,id_eq,List.nodup_cons] at hnd
           apply hnd.1
           have:=(List.of_mem_zip hx).2
           rw [hxa] at this
           simpa using this
         rcases List.mem_cons.1 hq with rfl | hq
         . rcases List.mem_cons.1 hq' with rfl | hq'
           . rfl
           . exact (no h1 hq' h2).elim
         . rcases List.mem_cons.1 hq' with rfl | hq'
           . exact (no h2 hq h1).elim
           . exact ih tail hq hq' h1 h2
   exact key h.nodup hq hq' ha ha'
 . obtain ⟨_,_,_,j,_,hj⟩:=hof i b hi
   exact hm1.base j b hj
 . rcases hm1.okn b hb with h1 | ⟨h1,h2⟩
   . by_cases hs:∃ j,¬Zkh ob ob' j/\mu1 j=some b
     . obtain ⟨j,hj,hjb⟩:=hs
       refine .inr ⟨hm1.lt (id:=j) hjb,fun i e=>?_⟩
       obtain ⟨q,hq,_,j',hj',hmj'⟩:=hof i b e
       have:=hm1.inj j j' b hjb hmj'
       subst this
       exact hj (hmv q hq j hj')
     . exact .inl ⟨h1,fun j hj e=>hs ⟨j,hj,e⟩⟩
   . refine .inr ⟨h1,fun i e=>?_⟩
     obtain ⟨_,_,_,j,_,hj⟩:=hof i b e
     exact h2 j hj
theorem Zsj {w0 w w':World} {ob1 ob2 ob3 obR:List (Nat×AV)} {mu1 mu2 mu3:Nat->Option Nat} {ok okF:Nat->Prop} {M:Nat->Prop} {id pb:Nat} {cs cs':List AV}
   (hm1:Mem w0 (cx w ob1 mu1 ok)) (hok:∀ b,okF b↔ok b/\∀ j,¬M j->mu1 j≠some b) (hmu2:∀ i b,mu2 i=some b->∃ j,M j/\mu1 j=some b) (hm3:Mem w0 (cx w' ob3 mu3 okF))
   (hblk:∀ b,(cx w ob2 mu2 okF).okb b->(cx w' ob3 mu3 okF).okb b/\w'.heap[b]?=w.heap[b]?)
   (hoff:∀ b,b<w.heap.size->(∀ i,mu2 i≠some b)->(∀ i,mu3 i≠some b)/\w'.heap[b]?=w.heap[b]?)
   (hM:M id) (hid1:look ob1 id=.box cs) (hid3:look ob3 id=.box cs') (hp1:mu1 id=some pb) (hp3:mu3 id=some pb)
   (hnew:∀ i,look ob3 i≠.undef->i=id\/look ob1 i=.undef)
   (hR1:∀ i,look ob3 i≠.undef->look obR i=look ob3 i) (hR2:∀ i,look ob3 i=.undef->M i->look obR i=.dead) (hR3:∀ i,look ob3 i=.undef->¬M i->look obR i=look ob1 i) :
   ∃ mu',mu' id=some pb/\Mem w0 (cx w' obR mu' ok)/\Mono (cx w ob1 mu1 ok) (cx w' obR mu' ok)/\MonoB (cx w' ob3 mu3 okF) (cx w' obR mu' ok):=by
 classical
 let mu':Nat->Option Nat:=fun i=>if look ob3 i=.undef then (if M i then none else mu1 i) else mu3 i
 have e1:∀ i,look ob3 i≠.undef->mu' i=mu3 i:=fun i h=>if_neg h
 have e2:∀ i,look ob3 i=.undef->M i->mu' i=none:=fun i h hM=>by show (if _ then _ else _)=_;rw [if_pos h,if_pos hM]
 have e3:∀ i,look ob3 i=.undef->¬M i->mu' i=mu1 i:=fun i h hM=>by show (if _ then _ else _)=_;rw [if_pos h,if_neg hM]
 have hund:∀ i,look ob3 i=.undef->mu3 i=none:=fun i h=>by
   have:=hm3.obj i
   unfold ObjOK at this
   rw [show (cx w' ob3 mu3 okF).ob i=.undef from h] at this
   exact this
 have hund1:∀ i,look ob1 i=.undef->mu1 i=none:=fun i h=>by
   have:=hm1.obj i
   unfold ObjOK at this
   rw [show (cx w ob1 mu1 ok).ob i=.undef from h] at this
   exact this
 have stay:∀ i b,¬M i->mu1 i=some b->(∀ j,mu3 j≠some b)/\w'.heap[b]?=w.heap[b]?:=fun i b hi hb=>by
   refine hoff b (hm1.lt (id:=i) hb) fun j e=>?_
   obtain ⟨k,hk,hkb⟩:=hmu2 j b e
   have:=hm1.inj i k b hb hkb
   subst this
   exact hi hk
 have notM:∀ i,look ob3 i≠.undef->i≠id->mu1 i=none:=fun i h hne=>(hnew i h).elim (fun e=>(hne e).elim) (hund1 i)
 have hokb:∀ b,(cx w' ob3 mu3 okF).okb b->(cx w' obR mu' ok).okb b:=by
   intro b hb
   obtain ⟨k1,k2⟩:=(hok b).1 hb.1
   refine ⟨k1,hb.2.1,fun i e=>?_⟩
   have e:mu' i=some b:=e
   by_cases h:look ob3 i=.undef
   . by_cases hi:M i
     . rw [e2 i h hi] at e;cases e
     . rw [e3 i h hi] at e;exact k2 i hi e
   . rw [e1 i h] at e;exact hb.2.2 i e
 have mono3:MonoB (cx w' ob3 mu3 okF) (cx w' obR mu' ok):=Zfr (fun b hb=>⟨hokb b hb,rfl⟩) fun i=>by
   by_cases h:look ob3 i=.undef
   . exact .inl h
   . exact .inr (.inr (.inl ⟨hR1 i h,e1 i h,fun _ _=>rfl⟩))
 have mono1:Mono (cx w ob1 mu1 ok) (cx w' obR mu' ok):=Zdf (fun b hb=>by
     have hs:(cx w ob2 mu2 okF).okb b:=⟨(hok b).2 ⟨hb.1,fun j _=>hb.2.2 j⟩,hb.2.1,fun i e=>by
       obtain ⟨j,_,hj⟩:=hmu2 i b e
       exact hb.2.2 j hj⟩
     obtain ⟨k1,k2⟩:=hblk b hs
     exact ⟨hokb b k1,k2⟩) (fun i=>by
     by_cases h:look ob3 i=.undef
     . by_cases hi:M i
       . exact .inr (.inl (hR2 i h hi))
       . exact .inr (.inr (.inl ⟨hR3 i h hi,e3 i h hi,fun b hb=>(stay i b hi hb).2⟩))
     . rcases hnew i h with rfl | hu
       . refine .inr (.inr (.inr (.inl ⟨cs,cs',hid1,(hR1 i h).trans hid3,?_⟩)))
         show mu' i=mu1 i
         rw [e1 i h,hp1,hp3]
       . exact .inl hu) (fun b h1 h2=>by
     have h2':∀ i,mu2 i≠some b:=fun i e=>by
       obtain ⟨j,_,hj⟩:=hmu2 i b e
       exact h2 j hj
     obtain ⟨k1,k2⟩:=hoff b h1 h2'
     refine ⟨fun i e=>?_,k2⟩
     have e:mu' i=some b:=e
     by_cases h:look ob3 i=.undef
     . by_cases hi:M i
       . rw [e2 i h hi] at e;cases e
       . rw [e3 i h hi] at e;exact h2 i e
     . rw [e1 i h] at e;exact k1 i e)
 refine ⟨mu',by rw [e1 id (by rw [hid3];intro h;cases h)];exact hp3,⟨fun i=>?_,fun i j b hi hj=>?_,fun i b hi=>?_,hm3.ext,fun b hb=>?_⟩,mono1,mono3⟩
 . by_cases h:look ob3 i=.undef
   . by_cases hi:M i
     . unfold ObjOK
       rw [show (cx w' obR mu' ok).ob i=.dead from hR2 i h hi]
       exact e2 i h hi
     . exact (hm1.obj i).keep mono1 (hR3 i h hi) (e3 i h hi) fun b hb=>(stay i b hi hb).2
   . exact (hm3.obj i).keepB mono3 (hR1 i h) (e1 i h) fun _ _=>rfl
 . have hi:mu' i=some b:=hi
   have hj:mu' j=some b:=hj
   by_cases h:look ob3 i=.undef
   . by_cases hMi:M i
     . rw [e2 i h hMi] at hi;cases hi
     . rw [e3 i h hMi] at hi
       by_cases h':look ob3 j=.undef
       . by_cases hMj:M j
         . rw [e2 j h' hMj] at hj;cases hj
         . rw [e3 j h' hMj] at hj;exact hm1.inj i j b hi hj
       . rw [e1 j h'] at hj;exact ((stay i b hMi hi).1 j hj).elim
   . rw [e1 i h] at hi
     by_cases h':look ob3 j=.undef
     . by_cases hMj:M j
       . rw [e2 j h' hMj] at hj;cases hj
       . rw [e3 j h' hMj] at hj;exact ((stay j b hMj hj).1 i hi).elim
     . rw [e1 j h'] at hj;exact hm3.inj i j b hi hj
 . have hi:mu' i=some b:=hi
   by_cases h:look ob3 i=.undef
   . by_cases hMi:M i
     . rw [e2 i h hMi] at hi;cases hi
     . rw [e3 i h hMi] at hi;exact hm1.base i b hi
   . rw [e1 i h] at hi;exact hm3.base i b hi
 . rcases hm3.okn b hb with h1 | ⟨h1,h2⟩
   . exact .inl ((hok b).1 h1).1
   . by_cases hs:∃ j,¬M j/\mu1 j=some b
     . obtain ⟨j,_,hjb⟩:=hs
       exact .inl (hm1.own_ok (id:=j) hjb)
     . refine .inr ⟨h1,fun i e=>?_⟩
       have e:mu' i=some b:=e
       by_cases h:look ob3 i=.undef
       . by_cases hMi:M i
         . rw [e2 i h hMi] at e;cases e
         . rw [e3 i h hMi] at e;exact hs ⟨i,hMi,e⟩
       . rw [e1 i h] at e;exact h2 i e
theorem Zxx {w0 w:World} {ob ob' ob2:List (Nat×AV)} {mu:Nat->Option Nat} {ok:Nat->Prop} {cs ys:List AV} {ws:Wr} {os:List (Option Nat)}
   (hm:Mem w0 (cx w ob mu ok)) (h:Moves cs ys ob ob' ws os) (hn:(ws.map (·.1)).Nodup) (h2:∀ p∈ws,look ob2 p.1=p.2) (h3:∀ i,(∀ p∈ws,p.1≠i)->look ob2 i=.undef) :
   ∃ mu2, Mem w0 (cx w ob2 mu2 ok) /\ (∀ us, VL (cx w ob mu ok) cs us -> VL (cx w ob2 mu2 ok) ys us) /\ (∀ b, (cx w ob mu ok).okb b -> (cx w ob2 mu2 ok).okb b) /\
     ∀ b,b<w.heap.size->(∀ i,mu i≠some b)->∀ i,mu2 i≠some b:=by
 obtain ⟨ob1,mu1,mu2,okF,hm1,hmono,_,_,hok,hof,hm2,hv⟩:=ZhV hm h hn h2 h3
 have hF:∀ b,okF b->ok b:=fun b hb=>((hok b).1 hb).1
 have hmonoW:MonoB (cx w ob2 mu2 okF) (cx w ob2 mu2 ok):=Zfr (fun b hb=>⟨⟨hF b hb.1,hb.2.1,hb.2.2⟩,rfl⟩) (fun i=>.inr (.inr (.inl ⟨rfl,rfl,fun _ _=>rfl⟩)))
 refine ⟨mu2,⟨fun i=>(hm2.obj i).keepB hmonoW rfl rfl (fun _ _=>rfl),hm2.inj,hm2.base,hm2.ext,fun b hb=>(hm2.okn b hb).elim (fun x=>.inl (hF b x)) .inr⟩,fun us hu=>hmonoW.vl _ _ (hv us hu),fun b hb=>?_,fun b hb hu i e=>?_⟩
 . have k:=(hmono.blk b hb).1
   exact ⟨k.1,k.2.1,fun i e=>by
     obtain ⟨j,_,hj⟩:=hof i b e
     exact k.2.2 j hj⟩
 . obtain ⟨j,_,hj⟩:=hof i b e
   exact (hmono.off b hb hu).1 j hj
end Go.Proofs.Mill
namespace Go.Proofs.Mill
open Go.RowKit
structure Frm (c c':Cx) (p:Value):Prop where
  blk:∀ b,c.okb b->c'.okb b/\c'.w.heap[b]?=c.w.heap[b]?
  off:∀ b,b<c.w.heap.size->(∀ id,c.mu id≠some b)->(∀ id,c'.mu id≠some b)/\c'.w.heap[b]?=c.w.heap[b]?
  ptr:PtrV c' 65536 0 p
theorem Frm.stays (c:Cx) (p:Value):Stays (fun c'=>Frm c c' p):=fun c1 c2 h hm =>
 ⟨fun b hb=>⟨(hm.blk b (h.blk b hb).1).1,((hm.blk b (h.blk b hb).1).2).trans (h.blk b hb).2⟩,fun b hb hn=>by
   obtain ⟨h1,h2⟩:=h.off b hb hn
   have hlt:b<c1.w.heap.size:=by
     rw [Array.getElem?_eq_getElem hb] at h2
     exact (Array.getElem?_eq_some_iff.1 h2).1
   obtain ⟨k1,k2⟩:=hm.off b hlt h1
   exact ⟨k1,k2.trans h2⟩,hm.ptr _ _ _ h.ptr⟩
theorem Frm.refl {c:Cx} {p:Value} (h:PtrV c 65536 0 p):Frm c c p:=⟨fun _ h=>⟨h,rfl⟩,fun _ _ h=>⟨h,rfl⟩,h⟩
def Zbh (c:Cel) (x:c.α):List (Nat×AV):=(Zfe 65536 (.box (c.enc x))).2
def ZA3 (P:Program) (f:FuncId) (c:Cel) (fn:c.α×Int->Option c.α):Prop :=
 ∀ (w0 : World) (ok : Nat -> Prop) (w : World) (mu : Nat -> Option Nat) (p : Value) (vals : Array Value) (x : c.α) (t : Int) (y : c.α), fn (x, t) = some y -> Mem w0 (cx w (Zbh c x) mu ok) -> VL (cx w (Zbh c x) mu ok) [.ptr 65536 0, .i t] vals.toList ->
   PtrV (cx w (Zbh c x) mu ok) 65536 0 p->vals.toList=[p,.int .i64 t] ->
   Calls P f vals w fun e w'=>∃ u ob' mu',e=.returned u/\Mem w0 (cx w' ob' mu' ok)/\Frm (cx w (Zbh c x) mu ok) (cx w' ob' mu' ok) p/\Mill.V (cx w' ob' mu' ok) (.tup []) u /\
     ∃ cs ob3,look ob' 65536=.box cs/\Zcb c.kds cs ((65536,.dead)::ob')=some (c.enc y,ob3)
def ZoQ (ob:List (Nat×AV)) (b:Nat):Nat->Bool
 | 0=>true
 | n+1=>(match look ob (b+n) with | .undef=>ZoQ ob b n | _=>false)
theorem ZtO {ob:List (Nat×AV)} {b:Nat}:∀ {n:Nat},ZoQ ob b n=true->∀ i,b<=i->i<b+n->look ob i=.undef
 | 0,_,i,h1,h2=>by omega
 | n + 1, h, i, h1, h2 => by
   unfold ZoQ at h
   split at h
   . rename_i hu
     by_cases e:i=b+n
     . rw [e];exact hu
     . exact ZtO h i h1 (by omega)
   . cases h
def Zm7 (ob:List (Nat×AV)) (n:Nat):Nat->Nat->Option Nat
 | 0,_=>none
 | k+1,b=>bif ZoQ ob b n then some b else Zm7 ob n k (b+n)
theorem Zpu {ob:List (Nat×AV)} {n:Nat}:∀ {k b B:Nat},Zm7 ob n k b=some B->ZoQ ob B n=true
 | 0,_,_,h=>by cases h
 | k + 1, b, B, h => by
   unfold Zm7 at h
   cases hf:ZoQ ob b n with
   | true=>rw [hf] at h;cases h;exact hf
   | false=>rw [hf] at h;exact Zpu h
def varX (c:Cel) (n:Nat) (fn:c.α×Int->Option c.α):XSpec where
 β:=c.α
 pre fid args ob:=match args with
   | [.ptr id 0, .int .i64 t] => (match look ob id with
     | .box cs => (match Zcb c.kds cs ((id, .dead) :: ob) with
       | some (xs, ob1) => (match c.dec xs with
         | some x => (match Zm7 ob n 20 (fid * 64) with
           | some B=>some (fn (x,t),fun y=>(.tup [],(id,.box (Zbj B (c.enc y)).1)::((Zbj B (c.enc y)).2.1++ob1)))
           | none=>none)
         | none=>none)
       | none=>none)
     | _=>none)
   | _=>none
theorem ZlH:∀ (ws ob:List (Nat×AV)) (p:Nat×AV),(ws.map (·.1)).Nodup->p∈ws->look (ws++ob) p.1=p.2
 | [],_,_,_,h=>by cases h
 | q :: ws, ob, p, hn, h => by
   simp only [List.map_cons,List.nodup_cons] at hn
   rcases List.mem_cons.1 h with rfl | h'
   . exact look_eq _ _ _
   . show look (q::(ws++ob)) p.1=_
     have hne:q.1≠p.1:=fun e=>hn.1 (by rw [e];exact List.mem_map.2 ⟨p,h',rfl⟩)
     have e2:look (q::(ws++ob)) p.1=look (ws++ob) p.1:=ZaQ (id:=q.1) q.2 _ hne
     rw [e2]
     exact ZlH ws ob p hn.2 h'
theorem Zgh:∀ (ws ob:List (Nat×AV)) (i:Nat),(∀ p∈ws,p.1≠i)->look (ws++ob) i=look ob i
 | [],_,_,_=>rfl
 | (a, b) :: ws, ob, i, h => by
   show look ((a,b)::(ws++ob)) i=_
   rw [ZaQ _ _ (h (a,b) (by simp))]
   exact Zgh ws ob i fun p hp=>h p (by simp [hp])
theorem ZBN {P:Program} {f:FuncId} {c:Cel} {n:Nat} {fn:c.α×Int->Option c.α} (hn:∀ b y,(Zbj b (c.enc y)).2.2=b+n) (h:ZA3 P f c fn) :
   ∀ fid args ob y post, (varX c n fn).pre fid args ob = some (some y, post) -> ∀ (w0 : World) (ok : Nat -> Prop) (w : World) (mu : Nat -> Option Nat) (vals : Array Value), Mem w0 (cx w ob mu ok) -> VL (cx w ob mu ok) args vals.toList ->
     Calls P f vals w fun e w'=>∃ u mu',e=.returned u/\Mem w0 (cx w' (post y).2 mu' ok)/\Mono (cx w ob mu ok) (cx w' (post y).2 mu' ok)/\Mill.V (cx w' (post y).2 mu' ok) (post y).1 u:=by
 intro fid args ob (y:c.α) post hpre w0 ok w mu vals hm hv
 unfold varX at hpre
 simp only at hpre
 split at hpre
 case h_2=>cases hpre
 rename_i id t
 split at hpre
 case h_2=>cases hpre
 rename_i cs hl
 split at hpre
 case h_2=>cases hpre
 rename_i xs ob1 hx
 split at hpre
 case h_2=>cases hpre
 rename_i x hdec
 split at hpre
 case h_2=>cases hpre
 rename_i B hB
 have hfree:=Zpu hB
 have hpre:=Option.some.inj hpre
 have hfn:fn (x,t)=some y:=congrArg Prod.fst hpre
 have hpost:=congrArg Prod.snd hpre
 simp only at hpost
 subst hpost
 clear hpre
 have hxs:=c.law _ _ hdec
 subst hxs
 obtain ⟨os,m⟩:=ZcF hx 65537
 have mb:Moves [.ptr id 0] [.ptr 65536 0] ob ob1 (Zbh c x) (some id::os):=m.box (n:=65536) hl
 have hnd:((Zbh c x).map (·.1)).Nodup:=by
   obtain ⟨f1,f2,f3,f4⟩:=Zeh 65537 (c.enc x)
   show ((65536::(Zbj 65537 (c.enc x)).2.1.map (·.1))).Nodup
   rw [List.nodup_cons]
   refine ⟨fun hm=>?_,f4⟩
   obtain ⟨p,hp,he⟩:=List.mem_map.1 hm
   have:=(f2 p hp).1
   omega
 obtain ⟨obf,mu1,mu2,okF,hm1,hmono1,hlive,hdead,hok,hof,hm2,hv2⟩:=ZhV hm mb hnd (ob2:=Zbh c x) (fun p hp=>Zcr _ hnd p hp) (fun i hi=>ZcV _ i hi)
 obtain ⟨p,us,hus,hp,h3⟩:=Za6 hv
 obtain ⟨v2,us2,rfl,ht,h4⟩:=Za6 h3
 have h4:=Zbo h4
 subst h4
 have ht:v2=.int .i64 t:=ht
 subst ht
 have hp2:PtrV (cx w (Zbh c x) mu2 okF) 65536 0 p:=(hv2 [p] ⟨hp,trivial⟩).1
 have hp1:PtrV (cx w obf mu1 ok) id 0 p:=hmono1.ptr _ _ _ hp
 have hdead1:look ob1 id=.dead:=(mb.alive id (by simp)).2
 have hidf:look obf id=.box cs:=(hdead id hdead1).trans hl
 have hMid:Zkh ob ob1 id:=mb.alive id (by simp)
 unfold PtrV at hp1
 rw [show (cx w obf mu1 ok).ob id=.box cs from hidf] at hp1
 obtain ⟨pb,hpb1,hpe⟩:=hp1
 have hpb1:mu1 id=some pb:=hpb1
 refine (h w0 okF w mu2 p vals x t y hfn hm2 (by rw [hus];exact ⟨hp2,rfl,trivial⟩) hp2 (by rw [hus])).mono fun e w' he=>?_
 obtain ⟨u,ob',mu',rfl,hm',hF,hu,cs',ob3,hl3,hx3⟩:=he
 obtain ⟨os3,m3⟩:=ZcF hx3 B
 have mb3:Moves [.ptr 65536 0] [.ptr id 0] ob' ob3 ((id,.box (Zbj B (c.enc y)).1)::(Zbj B (c.enc y)).2.1) (some 65536::os3):=m3.box (n:=id) hl3
 obtain ⟨f1,f2,f3,f4⟩:=Zeh B (c.enc y)
 rw [hn] at f1 f2
 have hfr:∀ i,B<=i->i<B+n->look ob i=.undef:=fun i h1 h2=>ZtO hfree i h1 h2
 have hidn:∀ p∈(Zbj B (c.enc y)).2.1,p.1≠id:=fun q hq e=>by
   have:=hfr q.1 (f2 q hq).1 (f2 q hq).2
   rw [e,hl] at this
   cases this
 generalize hys:(Zbj B (c.enc y)).1=ys at *
 generalize hws:(Zbj B (c.enc y)).2.1=ws at *
 have hnd3:(((id,AV.box ys)::ws).map (·.1)).Nodup:=by
   rw [List.map_cons,List.nodup_cons]
   refine ⟨fun hm=>?_,f4⟩
   obtain ⟨q,hq,he⟩:=List.mem_map.1 hm
   exact hidn q hq he
 obtain ⟨obg,mug,mu3,okG,hmg,hmonog,_,_,hokG,hof3,hm3,hv3⟩:=ZhV hm' mb3 hnd3 (ob2:=(id,.box ys)::ws) (fun p hp=>Zcr _ hnd3 p hp) (fun i hi=>ZcV _ i hi)
 have hGF:∀ b,okG b->okF b:=fun b hb=>((hokG b).1 hb).1
 have hmonoW:MonoB (cx w' ((id,.box ys)::ws) mu3 okG) (cx w' ((id,.box ys)::ws) mu3 okF):=Zfr (fun b hb=>⟨⟨hGF b hb.1,hb.2.1,hb.2.2⟩,rfl⟩) (fun i=>.inr (.inr (.inl ⟨rfl,rfl,fun _ _=>rfl⟩)))
 have hm3F:Mem w0 (cx w' ((id,.box ys)::ws) mu3 okF):=⟨fun i=>(hm3.obj i).keepB hmonoW rfl rfl (fun _ _=>rfl),hm3.inj,hm3.base,hm3.ext,fun b hb=>(hm3.okn b hb).elim (fun x=>.inl (hGF b x)) .inr⟩
 have hp3:PtrV (cx w' ((id,.box ys)::ws) mu3 okG) id 0 p:=(hv3 [p] ⟨hF.ptr,trivial⟩).1
 unfold PtrV at hp3
 rw [show (cx w' ((id,.box ys)::ws) mu3 okG).ob id=.box ys from look_eq _ _ _] at hp3
 obtain ⟨pb3,hpb3,hpe3⟩:=hp3
 have hpb3:mu3 id=some pb3:=hpb3
 have:pb3=pb:=by
   rw [hpe] at hpe3
   simpa using hpe3.symm
 subst this
 have un3:∀ b,b<w'.heap.size->(∀ i,mu' i≠some b)->∀ i,mu3 i≠some b:=fun b hb hu i e=>by
   obtain ⟨j,_,hj⟩:=hof3 i b e
   exact (hmonog.off b hb hu).1 j hj
 have hin3:∀ i,look ((id,AV.box ys)::ws) i≠.undef->i=id\/∃ q∈ws,q.1=i:=fun i hi=>by
   obtain ⟨q,hq,he⟩:=Zgr _ i hi
   rcases List.mem_cons.1 hq with rfl | hq
   . exact .inl he.symm
   . exact .inr ⟨q,hq,he⟩
 have hout3:∀ i,look ((id,AV.box ys)::ws) i=.undef->∀ q∈(id,AV.box ys)::ws,q.1≠i:=fun i hi q hq e=>by
   have:=Zcr _ hnd3 q hq
   rw [e,hi] at this
   rcases mb3.rows q hq with ⟨_,_,_,h⟩ | ⟨_,h⟩ <;> rw [h] at this <;> cases this
 obtain ⟨muR,_,hmR,hmonoR,_⟩:=Zsj (id:=id) (pb:=pb3) (cs:=cs) (cs':=ys) (ob2:=Zbh c x) (obR:=(id,.box ys)::(ws++ob1)) (M:=Zkh ob ob1) hm1 hok hof hm3F (fun b hb=>by
     obtain ⟨k1,k2⟩:=hF.blk b hb
     exact ⟨⟨k1.1,k1.2.1,un3 b k1.2.1 k1.2.2⟩,k2⟩) (fun b hb hu=>by
     obtain ⟨k1,k2⟩:=hF.off b hb hu
     refine ⟨un3 b ?_ k1,k2⟩
     rw [Array.getElem?_eq_getElem hb] at k2
     exact (Array.getElem?_eq_some_iff.1 k2).1) hMid hidf (look_eq _ _ _) hpb1 hpb3
   (fun i hi=>by
     rcases hin3 i hi with rfl | ⟨q,hq,rfl⟩
     . exact .inl rfl
     . right
       have hu:=hfr q.1 (f2 q hq).1 (f2 q hq).2
       have h1:look ob1 q.1=.undef:=by
         rcases mb.ev q.1 with h | ⟨h,_⟩ | ⟨_,_,_,h,_⟩
         . rw [h];exact hu
         . rw [hu] at h;rcases h with ⟨_,_,_,h⟩ | ⟨_,h⟩ <;> cases h
         . rw [hu] at h;cases h
       rw [hlive q.1 (by rw [h1];intro h;cases h)]
       exact h1)
   (fun i hi=>by
     obtain ⟨q,hq,he⟩:=Zgr _ i hi
     subst he
     rw [Zcr _ hnd3 q hq]
     exact ZlH ((id,.box ys)::ws) ob1 q hnd3 hq)
   (fun i hi hM=>by
     show look (((id,.box ys)::ws)++ob1) i=_
     rw [Zgh _ _ i (hout3 i hi)]
     exact hM.2)
   (fun i hi hM=>by
     show look (((id,.box ys)::ws)++ob1) i=_
     rw [Zgh _ _ i (hout3 i hi)]
     by_cases hd:look ob1 i=.dead
     . rw [hdead i hd]
       rcases mb.ev i with h | ⟨h,_⟩ | ⟨_,_,_,h,h'⟩
       . exact h
       . exact (hM ⟨h,hd⟩).elim
       . rw [hd] at h';cases h'
     . exact (hlive i hd).symm)
 refine ⟨u,muR,rfl,by simp only [hys,hws];exact hmR,by simp only [hys,hws];exact hmono1.trans hmonoR,?_⟩
 obtain ⟨vs,hvs,hvn⟩:=hu
 exact ⟨vs,hvs,by rw [Zbo hvn];trivial⟩
def pinned (σ:St):Bool:=(match look σ.tm 0 with | .ptr id o=>Nat.beq id 65536 && Nat.beq o 0 | _=>false) && ZoD (look σ.ob 65536)
theorem Zzi {σ:St} (h:pinned σ=true):look σ.tm 0=.ptr 65536 0/\∃ cs,look σ.ob 65536=.box cs:=by
 unfold pinned at h
 rw [Bool.and_eq_true] at h
 refine ⟨?_,ZkJ h.2⟩
 have h1:=h.1
 split at h1
 . rename_i id o he
   rw [Bool.and_eq_true] at h1
   have e1:=Nat.eq_of_beq_eq_true h1.1
   have e2:=Nat.eq_of_beq_eq_true h1.2
   subst e1 e2
   exact he
 . cases h1
theorem Zp4 {w0 w:World} {ok:Nat->Prop} {nt:Nat} {σ:St} {a:Act} {ks:List (Nat×Kd)} {hd:List AV} {c1:Cx} {p:Value} (hh:Holds (fun c=>Frm c1 c p) w0 ok nt [] σ a w) (hp:pinned σ=true) (h:ZgO ks σ=some hd)
   (h0:look (build ks hd).tm 0=.ptr 65536 0):Holds (fun c=>Frm c1 c p) w0 ok nt [] (build ks hd) a w:=by
 obtain ⟨mu,hr,hj⟩:=hh
 obtain ⟨p1,bcs,p2⟩:=Zzi hp
 unfold ZgO at h
 split at h
 case h_2=>cases h
 rename_i xs ob' hx
 cases hn:Zgm (build ks xs).ob with
 | false=>rw [hn] at h;cases h
 | true =>
   rw [hn] at h
   obtain rfl:=Option.some.inj h
   obtain ⟨os,m,hk,hu⟩:=Zif hx
   have hnd:=Zh0 _ hn
   obtain ⟨mu2,hm2,hv,hokb,hunl⟩:=Zxx hr.mem m hnd (Zcr _ hnd) (fun i hi=>ZcV _ i hi)
   have hv':=hv (ks.map fun p=>a.tmps.getD p.1 undef) (by
     have:∀ (l:List (Nat×Kd)),VL (cx w σ.ob mu ok) (l.map fun p=>look σ.tm p.1) (l.map fun p=>a.tmps.getD p.1 undef):=by
       intro l
       induction l with
       | nil=>trivial
       | cons p l ih=>exact ⟨ZaJ hr (.tmp p.1),ih⟩
     exact this ks)
   have hsl:=ZpE (fun t=>a.tmps.getD t undef) (build ks xs).tm (by rw [hk,List.map_map];exact hv')
   refine ⟨mu2,⟨hm2,fun t _=>hsl t,fun t ht=>?_,hr.size,hr.defers,⟨hr.marks.1,fun d hd=>by obtain ⟨D,e,h0,h1,h2⟩:=hr.marks.2 d hd;exact ⟨D,e,h0,hokb D h1,h2⟩⟩⟩,fun b hb=>?_,fun b hb hn=>?_,?_⟩
   . refine ZcV _ t fun p hp e=>?_
     have hp1:p.1∈ks.map (·.1):=by rw [<- hk];exact List.mem_map.2 ⟨p,hp,rfl⟩
     obtain ⟨q,hq,he⟩:=List.mem_map.1 hp1
     apply hu q hq
     rw [he,e]
     exact hr.far t ht
   . obtain ⟨k1,k2⟩:=hj.blk b hb
     exact ⟨hokb b k1,k2⟩
   . obtain ⟨k1,k2⟩:=hj.off b hb hn
     refine ⟨hunl b ?_ k1,k2⟩
     have k2:w.heap[b]?=c1.w.heap[b]?:=k2
     rw [Array.getElem?_eq_getElem hb] at k2
     exact (Array.getElem?_eq_some_iff.1 k2).1
   . have v1:=ZaJ hr (.tmp 0)
     rw [show valOf σ (.tmp 0)=look σ.tm 0 from rfl,p1] at v1
     have v1:PtrV (cx w σ.ob mu ok) 65536 0 (a.eval (.tmp 0)):=v1
     have v2:=hj.ptr
     unfold PtrV at v1 v2
     rw [show (cx w σ.ob mu ok).ob 65536=.box bcs from p2] at v1 v2
     obtain ⟨b1,q1,q2⟩:=v1
     obtain ⟨b2,q3,q4⟩:=v2
     rw [q1] at q3
     obtain rfl:=Option.some.inj q3
     have hep:p=a.eval (.tmp 0):=q4.trans q2.symm
     have v3:=hsl 0
     rw [h0] at v3
     rw [hep]
     exact v3
end Go.Proofs.Mill
