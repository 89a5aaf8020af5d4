/- Parts of the proof: MillComm, MillRange, MillOnly, MillPriv, MillCells. -/
import Derived.Test.YtaopdopnecognaaGreatMillAll2
import Derived.Conc.LoneCalls
import Derived.Conc.LoneSelect
import Derived.Conc.LoneSelectN
import Derived.Test.YtaopdopnecognaaGreatMillAll4
import Derived.RangeFuncSeq
set_option linter.all false
namespace Go.Proofs.Mill
open Go.RowKit Go.Conc
def Ends (P:Program) (c:Code) (Q:Exit->Act->World->Prop) (a:Act) (w:World):Prop :=
 ∀ (b:Frame) (k:List Item) (cs:List Frame),b.kind=.normal->∃ e a' w',Q e a' w'/\Arrives P (lone (b.at a (.code c::k)) cs w) b k cs e a' w'
section
variable {P:Program} {Q:Exit->Act->World->Prop} {a:Act} {w:World}
theorem Ends.of_wp {c:Code} (h:c.wp P Q a w):Ends P c Q a w:=fun b k cs _=>h b k cs
theorem Ends.seq {x y:Code} (h:Ends P x (fun e a' w'=>match e with | .normal=>Ends P y Q a' w' | e=>Q e a' w') a w):Ends P (.seq x y) Q a w:=by
 intro b k cs hb
 obtain ⟨e,a₁,w₁,hq,ha⟩:=h b (.code y::k) cs hb
 by_cases he:e=.normal
 . subst he
   obtain ⟨e2,a2,w2,q2,r2⟩:=hq b k cs hb
   exact ⟨e2,a2,w2,q2,.of_steps (.head step_seq ha) r2⟩
 . have hq':Q e a₁ w₁:=by cases e <;> first | exact hq | exact (he rfl).elim
   exact ⟨e,a₁,w₁,hq',.of_steps (.one step_seq) (.pass (x:=.code y) rfl (fun _ _=>.inl he) ha)⟩
theorem Ends.cond {c:Operand} {x y:Code} {t:Bool} (hc:a.eval c=.bool t) (h:Ends P (if t then x else y) Q a w):Ends P (.cond c x y) Q a w:=by
 intro b k cs hb
 obtain ⟨e,a',w',hq,ha⟩:=h b k cs hb
 exact ⟨e,a',w',hq,.of_steps (.one (step_cond hc)) ha⟩
theorem Ends.region {id:Nat} {ops:Array Oper} {l:List Nat} {a':Act} {w':World}
   (h:∀ (b:Frame) (k:List Item) (cs:List Frame),b.kind=.normal->Steps P (lone (b.at a (.inRegion ops (List.range ops.size)::k)) cs w) (lone (b.at a' (.inRegion ops l::k)) cs w'))
   (hq:wpOps P ops Q l a' w'):Ends P (.region id ops false) Q a w:=by
 intro b k cs hb
 obtain ⟨e,a2,w2,q,r⟩:=wp_ops l a' w' hq b k cs
 exact ⟨e,a2,w2,q,.of_steps (.head step_region (h b k cs hb)) r⟩
theorem Zhn {f:FuncId} {fn:Func} {c:Code} {args:Array Value} {R:Ending->World->Prop} (hf:P.funcs[f]?=some fn) (hb:fn.body=some c)
   (h:Ends P c (bodyPost P fn R) { tmps:=args++Array.replicate (fn.ntmps-args.size) undef,defers:=[] } w) (hno:∀ w',¬R .outgrown w'):Calls P f args w R:=by
 refine calls_of_loneTo (fun cs=>?_) hno
 obtain ⟨e,a',w',hq,ha⟩:=h (base f) [] cs rfl
 rw [<- enter_at args hf hb] at ha
 cases e with
 | normal =>
   obtain ⟨hd,v,hr,hR⟩:=hq
   exact ⟨_,w',Steps.trans ha (.one step_end),.returned v,_,rfl,hR,rfl,rfl,hd,rfl,fn,hf,hr⟩
 | ret =>
   obtain ⟨hd,v,hr,hR⟩:=hq
   obtain ⟨todo,hs⟩:=ha
   exact ⟨_,w',hs,.returned v,_,rfl,hR,rfl,rfl,hd,rfl,fn,hf,hr⟩
 | panic chain =>
   obtain ⟨hd,hR⟩:=hq
   obtain ⟨todo,hs⟩:=ha
   exact ⟨_,w',hs,.panicked chain,_,rfl,hR,rfl,rfl,hd,fn,hf⟩
 | exit id=>exact hq.elim
 | goto l=>exact hq.elim
 | outgrown=>exact (hno _ hq).elim
section
variable {b:Frame} {k:List Item} {cs:List Frame} {ops:Array Oper} {i:Nat} {rest:List Nat} {o:Oper}
theorem Zed {v:Value} {w':World} (ho:ops[i]?=some o) (hg:o.guard=none) (hr:(execOp a.eval o).run P w=.ok (.value v) w') :
   step P (lone (b.at a (.inRegion ops (i::rest)::k)) cs w)=.next (lone (b.at (a.put o.dst v) (.inRegion ops rest::k)) cs w'):=by
 have hw:Region.wanted o (yielded ops a.tmps)=true:=by simp [Region.wanted,hg]
 have hf:=Frame.finish_at b a ops i rest k v
 rw [ho] at hf
 refine step_lone_go ?_
 rw [stepG_op ho hw]
 simp [stepG.apply,hr,hf]
theorem ZsE {x y:Operand} {c cap s r:Nat} {buf:Array Value} {tm:Bool} (hb:b.kind=.normal) (ho:ops[i]?=some o) (hg:o.guard=none) (hop:o.op=.send x y)
   (hx:a.eval x=.chan (some c)) (hc:w.heap[c]?=some (.chan cap buf false s r tm)) (hroom:buf.size<cap) :
   step P (lone (b.at a (.inRegion ops (i::rest)::k)) cs w)=.next (lone (b.at (a.put o.dst undef) (.inRegion ops rest::k)) cs (w.setChan c cap (buf.push (a.eval y)) false (s+1) r tm)):=by
 have hw:Region.wanted o (yielded ops a.tmps)=true:=by simp [Region.wanted,hg]
 have hf:=Frame.finish_at b a ops i rest k undef
 rw [ho] at hf
 have hrun:(execOp a.eval o).run P w=.ok (.comm #[scase c (a.eval y) (.tuple #[])] true .send) w:=by simp [execOp,hop,scase,hx]
 rw [lone_eq_solo,step_lone_send_room (stepG_comm ho hw (by rw [hb];decide) hrun) hc hroom,hf]
 rfl
theorem Zlq {x:Operand} {e:TypeId} {c cap s r:Nat} {buf:Array Value} {closed tm:Bool} {z:Value} (hb:b.kind=.normal) (ho:ops[i]?=some o) (hg:o.guard=none)
   (hop:o.op=.select #[{ chan:=x,send:=none,elem:=e }] false) (hx:a.eval x=.chan (some c)) (hz:(zeroValue e).run P w=.ok z w) (hc:w.heap[c]?=some (.chan cap buf closed s r tm)) (hsome:0<buf.size) :
   step P (lone (b.at a (.inRegion ops (i::rest)::k)) cs w) =
     .next (lone (b.at (a.put o.dst (.tuple #[goInt 0,.bool true,buf.getD 0 undef])) (.inRegion ops rest::k)) cs (w.setChan c cap (buf.extract 1 buf.size) closed s (r+1) tm)):=by
 have hw:Region.wanted o (yielded ops a.tmps)=true:=by simp [Region.wanted,hg]
 have hf:=Frame.finish_at b a ops i rest k (.tuple #[goInt 0,.bool true,buf.getD 0 undef])
 rw [ho] at hf
 have hrun:(execOp a.eval o).run P w=.ok (.comm #[rcase c z] false .select) w:=by simp [execOp,hop,rcase,hx,hz]
 rw [lone_eq_solo,step_lone_select_recv_buf (stepG_comm ho hw (by rw [hb];decide) hrun) hc hsome,hf]
 rfl
theorem Ziu {x:Operand} {e:TypeId} {c cap s r:Nat} {tm:Bool} {z:Value} (hb:b.kind=.normal) (ho:ops[i]?=some o) (hg:o.guard=none)
   (hop:o.op=.select #[{ chan:=x,send:=none,elem:=e }] false) (hx:a.eval x=.chan (some c)) (hz:(zeroValue e).run P w=.ok z w) (hc:w.heap[c]?=some (.chan cap #[] false s r tm)) :
   step P (lone (b.at a (.inRegion ops (i::rest)::k)) cs w) =
     .next (lone (b.at (a.put o.dst (.tuple #[goInt (-1),.bool false,z])) (.inRegion ops rest::k)) cs w):=by
 have hw:Region.wanted o (yielded ops a.tmps)=true:=by simp [Region.wanted,hg]
 have hf:=Frame.finish_at b a ops i rest k (.tuple #[goInt (-1),.bool false,z])
 rw [ho] at hf
 have hrun:(execOp a.eval o).run P w=.ok (.comm #[rcase c z] false .select) w:=by simp [execOp,hop,rcase,hx,hz]
 rw [lone_eq_solo,step_lone_select_default (stepG_comm ho hw (by rw [hb];decide) hrun) hc,hf]
 rfl
end
end
def ZoY (o:Oper):Bool:=match o.op with | .call _=>false | _=>true
theorem ZxC {ds:List Deferred} {V:Env} {w0 w:World} {ok:Nat->Prop} {nt fid:Nat} {σ:St} {a:Act} {mu:Nat->Option Nat} {o:Oper} {v:AV} {ws:Wr} (hc:ZoY o=true)
   (h:(ZaM V fid o).val σ=some (v,ws)) (hr:R w0 ok nt ds σ a w mu):Does V.P w0 ok o a w σ.ob mu v ws:=by
 cases ho:o.op with
 | move x=>exact Zlk (.inl ho) h hr
 | assign x=>exact Zlk (.inr ho) h hr
 | pick c x y=>exact ZsA ho h hr
 | alloc e=>exact Zq9 ho h hr
 | box e x=>exact ZuX ho h hr
 | build t ps=>exact Zqz ho h hr
 | buildSlice t n ps=>exact Zln ho h hr
 | load t x=>exact ZsB ho h hr
 | store t x y=>exact Zqd ho h hr
 | binOp op t x y s=>exact Zqe ho h hr
 | nilCheck x=>exact Zns ho h hr
 | typeAssert x s t b=>exact Zlx ho h hr
 | unOp op t x=>exact Zst ho h hr
 | convert s t x=>exact ZnY ho h hr
 | fieldAddr s x f=>exact Zmr ho h hr
 | field s x f=>exact ZqT ho h hr
 | indexAddr t x y=>exact Zl1 ho h hr
 | index t x y=>exact Zra ho h hr
 | slice t x lo hi mx =>
   cases mx with
   | none=>exact Zq7 ho h hr
   | some _=>simp [ZaM,ho,Rd.val] at h
 | extract x i=>exact ZnW ho h hr
 | makeFunc fn first caps=>exact Zm9 ho h hr
 | makeInterface t x=>exact Zjn ho h hr
 | makeSlice t x y=>exact Zmo ho h hr
 | call c=>simp [ZoY,ho] at hc
 | _=>simp [ZaM,ho,Rd.val] at h
theorem ZyM {P:Program} {w0 w:World} {ok:Nat->Prop} {o:Oper} {a:Act} {ob:List (Nat×AV)} {mu:Nat->Option Nat} {v:AV} {ws:Wr} {ops:Array Oper} {i:Nat}
   (h:Does P w0 ok o a w ob mu v ws) (ho:ops[i]?=some o) (hg:o.guard=none) :
   ∃ u w', Post w0 ok w ob mu v ws u w' /\ ∀ (b : Frame) (k : List Item) (cs : List Frame) (rest : List Nat),
     step P (lone (b.at a (.inRegion ops (i::rest)::k)) cs w)=.next (lone (b.at (a.put o.dst u) (.inRegion ops rest::k)) cs w'):=by
 obtain ⟨u,w',h,hp⟩:=h
 rcases h with h | ⟨h,rfl⟩
 . exact ⟨u,w',hp,fun b k cs rest=>Zed ho hg h⟩
 . refine ⟨undef,w',hp,fun b k cs rest=>?_⟩
   have hw:Region.wanted o (yielded ops a.tmps)=true:=by simp [Region.wanted,hg]
   have hf:=Frame.finish_at b a ops i rest k undef
   rw [ho] at hf
   refine step_lone_go ?_
   rw [stepG_op ho hw]
   simp [stepG.apply,h,hf]
def Zfx (V:Env) (fid nt:Nat) (ops:Array Oper):List Nat->St->Option St
 | [],σ=>some σ
 | i :: r, σ => match ops[i]? with
  | some o=>bif o.guard.isNone && ZoY o && Zcv nt o.dst then (match (ZaM V fid o).val σ with
   | some p=>Zfx V fid nt ops r (σ.put o.dst p.1 p.2)
   | none=>none) else none
  | none=>none
theorem Zgt {ds:List Deferred} {V:Env} {J:Cx->Prop} {w0:World} {ok:Nat->Prop} {nt fid:Nat} {ops:Array Oper} (hJ:Stays J):∀ {l:List Nat} {σ σ':St} {a:Act} {w:World},
   Holds J w0 ok nt ds σ a w->Zfx V fid nt ops l σ=some σ'->∃ a' w',Holds J w0 ok nt ds σ' a' w'/\∀ (b:Frame) (k:List Item) (cs:List Frame) (rest:List Nat),
     Steps V.P (lone (b.at a (.inRegion ops (l++rest)::k)) cs w) (lone (b.at a' (.inRegion ops rest::k)) cs w')
 | [], σ, σ', a, w, hh, h => by
   cases h
   exact ⟨a,w,hh,fun b k cs rest=>Steps.refl _ _⟩
 | i :: r, σ, σ', a, w, hh, h => by
   unfold Zfx at h
   split at h
   case h_2=>cases h
   rename_i o ho
   cases hc:(o.guard.isNone && ZoY o && Zcv nt o.dst) with
   | false=>rw [hc] at h;cases h
   | true =>
     rw [hc] at h
     simp only [cond_true] at h
     simp only [Bool.and_eq_true] at hc
     split at h
     case h_2=>cases h
     rename_i p hp
     obtain ⟨mu,hr,hj⟩:=hh
     have hg:o.guard=none:=by simpa using hc.1.1
     obtain ⟨u,w',hpost,hstep⟩:=ZyM (ZxC hc.1.2 (show (ZaM V fid o).val σ=some (p.1,p.2) from hp) hr) ho hg
     obtain ⟨a',w2,hh',hsteps⟩:=Zgt hJ (Holds.put hJ hr hj hc.2 hpost) h
     exact ⟨a',w2,hh',fun b k cs rest=>.head (hstep b k cs (r++rest)) (hsteps b k cs rest)⟩
end Go.Proofs.Mill
namespace Go.Proofs.Mill
open Go.RowKit
abbrev Grown (w w':World):Prop:=Turned w w' fun _=>False
def ZoN (S:Nat->Prop) (w w':World):Prop:=∀ b,S b->w'.heap[b]?=w.heap[b]?
def ZvS (P:Program) (f:FuncId) (lb:Array Value) (ys:List (Array Value)) (S:Nat->Prop) (w:World):Prop :=
 ∀ (l : Nat) (J : Nat -> (Nat -> Prop) -> World -> Prop) (Jx : World -> Prop) (W : World), Grown w W -> (∀ k T A B, J k T A -> Grown A B -> J k (fun b => T b \/ A.heap.size <= b /\ b < B.heap.size) B) -> (∀ A B, Jx A -> Grown A B -> Jx B) ->
   (∀ k x T A,ys[k]?=some x->J k T A->YieldAt Fence.wide 0 P l x A fun e B=>((e=.returned (.bool true)/\J (k+1) T B)\/(e=.returned (.bool false)/\Jx B))/\ZoN (fun b=>S b\/T b) A B) ->
   J 0 (fun _=>False) W->Calls P f (#[.func (.yield l) #[] #[]]++lb) W fun e B=>(∃ v,e=.returned v)/\((∃ T,J ys.length T B)\/Jx B)
structure ItV where
  κ:Type
  okB:κ->Bool
  val:κ->AV
  decG:AV->Option κ
  lawG:∀ v a,decG v=some a->v=val a
  α:Type
  els:κ->List α
  par:α->List AV
  enc:α->Array Value
  law:∀ c x,VL c (par x) (enc x).toList
def Zl8 (P:Program) (it:ItV):Prop :=
 ∀ q,it.okB q=true->∃ f caps,it.val q=.fn f caps/\Zd9 P f/\∀ (c:Cx) (lb:Array Value),VL c caps lb.toList->ZvS P f lb ((it.els q).map it.enc) c.okb c.w
def ZAV (it:ItV):Val:=⟨it.κ,.still,it.val,it.decG,it.lawG⟩
def Zcq {σ ρ α:Type} (step:σ->α->Option (σ⊕ρ)):List α->σ->Option (σ⊕ρ)
 | [],st=>some (.inl st)
 | x :: xs, st => match step st x with
  | some (.inl st')=>Zcq step xs st'
  | some (.inr y)=>some (.inr y)
  | none=>none
def Zf6:List (Nat×AV)->St->St
 | [],σ=>σ
 | (t,v)::r,σ=>Zf6 r ⟨(t,v)::σ.tm,σ.ob⟩
def evR {ρ:Type} (V:Env) (inl:Inl ρ) (nt rounds:Nat) (x y:Code) (σ:St) (k:Ex->St->Option ρ):Option ρ :=
 evK V (fun _=>none) inl 1 nt rounds x σ fun e σ=>match e with
   | .normal=>evK V (fun _=>none) inl 1 nt rounds y σ k
   | _=>none
def ZnL:Ex->Code
 | .normal=>.skip
 | .exit id=>.exit id
 | .goto l=>.goto l
 | .ret=>.ret
section
variable {V:Env} {w0 w:World} {ok:Nat->Prop} {nt:Nat} {σ:St} {a:Act} {mu:Nat->Option Nat} {ds:List Deferred}
theorem Zrg:∀ (ks:List (Nat×Kd)) (vs:List AV) (p:Nat×AV),p∈(build ks vs).tm->∃ q∈ks,q.1=p.1
 | [],vs,p,h=>by simp [build] at h
 | _::_,[],p,h=>by simp [build] at h
 | (t, κ) :: ks, v :: vs, p, h => by
   have h:p∈(t,(Zfe ((1024+t)*64) v).1)::(build ks vs).tm:=h
   rcases List.mem_cons.1 h with rfl | h
   . exact ⟨(t,κ),by simp,rfl⟩
   . obtain ⟨q,hq,e⟩:=Zrg ks vs p h
     exact ⟨q,List.mem_cons_of_mem _ hq,e⟩
theorem Zm3:∀ (l:List (Nat×AV)) (us:List Value) (σ:St) (t0:Array Value),R w0 ok nt [] σ { tmps:=t0,defers:=[] } w mu->(∀ p∈l,p.1<nt) ->
   VL ⟨w,look σ.ob,mu,ok⟩ (l.map (·.2)) us ->
   R w0 ok nt [] (Zf6 l σ) { tmps:=((l.map (·.1)).zip us).foldl (fun t p=>t.setIfInBounds p.1 p.2) t0,defers:=[] } w mu
 | [],us,σ,t0,hr,_,_=>by simpa [Zf6] using hr
 | (t,v)::l,[],σ,t0,hr,_,hv=>hv.elim
 | (t, v) :: l, u :: us, σ, t0, hr, ht, hv => by
   have hd:Zcv nt (some t)=true:=by simpa [Zcv] using ht (t,v) (by simp)
   have hr1:=hr.set (dst:=some t) hd hv.1
   exact Zm3 l us ⟨(t,v)::σ.tm,σ.ob⟩ (t0.setIfInBounds t u) hr1 (fun p hp=>ht p (List.mem_cons_of_mem _ hp)) hv.2
theorem ZmC {n0:Nat} {c:Cx} (m:Marks n0 c ds) {l:Nat} {rec:Loop} (h:c.w.heap[l]?=some (.loop rec)):∀ d∈ds,d≠{ target:=.collected l,args:=#[] }:=by
 intro d hd e
 obtain ⟨D,e',_,_,h2⟩:=m.2 d hd
 rw [e] at e'
 injection e' with e1 _
 injection e1 with e1
 subst e1
 rw [h] at h2
 cases h2
structure JR (tm0:List (Nat×AV)) (a:Act) (c1:Cx) (l:Nat) (o:Obj) (c:Cx):Prop where
  val:∀ t,t<a.tmps.size->Mill.V c (look tm0 t) (a.tmps.getD t undef)
  okb:∀ b,c1.okb b->c.okb b
  heap:∀ b,c1.okb b->b≠l->c.w.heap[b]?=c1.w.heap[b]?
  rcd:c.w.heap[l]?=some o
theorem JR.stays {tm0:List (Nat×AV)} {c1:Cx} {l:Nat} {o:Obj} (hl:c1.okb l):Stays (JR tm0 a c1 l o):=by
 intro c c' h m
 exact ⟨fun t ht=>m.v _ _ (h.val t ht),fun b hb=>(m.blk b (h.okb b hb)).1,fun b hb hne=>((m.blk b (h.okb b hb)).2).trans (h.heap b hb hne),((m.blk l (h.okb l hl)).2).trans h.rcd⟩
theorem JR.turn {tm0:List (Nat×AV)} {c1:Cx} {l:Nat} {o o':Obj} {ob:List (Nat×AV)} (h:JR tm0 a c1 l o (cx w ob mu ok)) (hc:o.isCells=false):JR tm0 a c1 l o' (cx (w.putObj l o') ob mu ok):=by
 have hlt:l<w.heap.size:=(Array.getElem?_eq_some_iff.1 h.rcd).1
 have ht:=ZcT w l o'
 exact ⟨fun t hl=>(ZhI (ob:=ob) (mu:=mu) (ok:=ok) ht h.rcd hc).v _ _ (h.val t hl),fun b hb=>by have:=h.okb b hb;exact ⟨this.1,Nat.lt_of_lt_of_le this.2.1 ht.size,this.2.2⟩,
   fun b hb hne=>(ht.block b (h.okb b hb).2.1 hne).trans (h.heap b hb hne),World.putObj_heap_same hlt⟩
theorem Zuk {rounds depth:Nat} {gt:Nat} {ps:Array Tmp} {x y:Code} {s:LSpec} {it:ItV} {kds:List (Nat×Kd)} {σ ρ:Type} {enc:σ->List AV} {step:σ->it.α->Option (σ⊕ρ)}
    {out:ρ->Ex×List AV} {keepX:Ex->List (Nat×Kd)} {dec:List AV->Option σ} {dex:Ex->List AV->Option ρ}
    (hG:Zai V) (hit:Zl8 V.P it) (hkeep:s.keep=(gt,.still)::kds) (hgt:∀ p∈kds,p.1≠gt) (hps:∀ p∈ps.toList,p<nt) (hpl:∀ e,(it.par e).length=ps.size)
    (hdec:∀ hd z r,s.dec hd=some z->s.run z=some r->∃ q st y,it.okB q=true/\hd=it.val q::enc st/\Zcq step (it.els q) st=some y/\s.enc r=(match y with | .inl st=>(.normal,enc st) | .inr y=>out y))
    (hkx:s.keepX .normal=kds) (hkx':∀ y,s.keepX (out y).1=keepX (out y).1)
    (hdecS:∀ hd st,dec hd=some st->hd=enc st) (hdex:∀ e hd y,dex e hd=some y->out y=(e,hd)/\e≠.normal)
    (hstep:∀ st e,evR V (inlK V rounds depth) nt rounds x y (Zf6 (ps.toList.zip (it.par e)) (build kds (enc st))) (fun e τ=>Zdn kds keepX dec dex e ⟨(build kds (enc st)).tm,τ.ob⟩)=step st e) :
    Zl4 V nt s (.rangeFunc (.tmp gt) ps x y):=by
  intro w0 ok hd z r a w hd1 hrun hh
  obtain ⟨q,st0,yy,hqb,rfl,hfold,henc⟩:=hdec hd z r hd1 hrun
  obtain ⟨f,caps,hgv,hent,hiter⟩:=hit q hqb
  obtain ⟨xs,hxs⟩:∃ xs,xs=it.els q:=⟨_,rfl⟩
  rw [<- hxs] at hfold hiter
  obtain ⟨ds,_,mu,hr,_⟩:=hh
  rw [hkeep,hgv] at hr
  have hst:build ((gt,Kd.still)::kds) (.fn f caps::enc st0)=⟨(gt,.fn f caps)::(build kds (enc st0)).tm,(build kds (enc st0)).ob⟩:=rfl
  rw [hst] at hr
  have hgn:gt<nt:=by
    apply Classical.byContradiction
    intro hn
    have:=hr.far gt (by omega)
    rw [show look ((gt,AV.fn f caps)::(build kds (enc st0)).tm) gt=.fn f caps from look_eq _ _ _] at this
    cases this
  have hv:=hr.tm gt hgn
  rw [show look ((gt,AV.fn f caps)::(build kds (enc st0)).tm) gt=.fn f caps from look_eq _ _ _] at hv
  obtain ⟨lb,hge,hcaps⟩:=hv
  have hlk:∀ st t,t≠gt\/look (build kds (enc st)).tm t=.undef:=by
    intro st t
    by_cases e:t=gt
    . refine .inr (ZcV _ t fun p hp e2=>?_)
      obtain ⟨q,hq,e3⟩:=Zrg _ _ p hp
      exact hgt q hq (by rw [e3,e2,e])
    . exact .inl e
  have hr0:R w0 ok nt ds (build kds (enc st0)) a w mu:=by
    refine ⟨hr.mem,fun t ht=>?_,fun t ht=>?_,hr.size,hr.defers,hr.marks⟩
    . rcases hlk st0 t with h | h
      . have:=hr.tm t ht
        rw [show look ((gt,AV.fn f caps)::(build kds (enc st0)).tm) t=look (build kds (enc st0)).tm t from ZaQ _ _ (Ne.symm h)] at this
        exact this
      . rw [h];trivial
    . rcases hlk st0 t with h | h
      . have:=hr.far t ht
        rw [show look ((gt,AV.fn f caps)::(build kds (enc st0)).tm) t=look (build kds (enc st0)).tm t from ZaQ _ _ (Ne.symm h)] at this
        exact this
      . exact h
  clear hst
  have hitr:=hiter (cx w (build kds (enc st0)).ob mu ok) lb hcaps
  refine wpIn_rangeFunc ?_
  intro fn _
  show ∃ (l:Nat) (mark:List Deferred) (w₁:World) (d:Deferred) (w₁':World) (f:FuncId) (args:Array Value) (w₂:World),
      (Instr.enterLoop fn a.tmps ps x y none).run V.P w=.ok (l,mark) w₁/\_
  obtain ⟨rec,hrec⟩:∃ rec:LoopState->Option Code->Loop,rec=fun st pe=>{ state:=st,pending:=pe,fn,tmps:=a.tmps,params:=ps,assign:=x,body:=y,defers:=w.heap.size }:=⟨_,rfl⟩
  obtain ⟨W1,hW1⟩:∃ W1,(w.alloc (.deferred (some []))).alloc (.loop (rec .ready none))=W1:=⟨_,rfl⟩
  have hs1:W1.heap.size=w.heap.size+2:=by rw [<- hW1];simp
  have hL1:W1.heap[w.heap.size+1]?=some (.loop (rec .ready none)):=by
    rw [<- hW1];have:=World.alloc_heap_new (w.alloc (.deferred (some []))) (.loop (rec .ready none));rwa [World.size_alloc] at this
  have hK1:W1.heap[w.heap.size]?=some (.deferred (some [])):=by
    rw [<- hW1];exact (Below.heap_alloc _ _ _ (by simp)).trans (World.alloc_heap_new w _)
  have hgr:Grown w W1:=by
    refine ⟨by rw [<- hW1];rfl,by rw [<- hW1];rfl,by rw [<- hW1];rfl,by omega,fun k hk _=>?_⟩
    rw [<- hW1]
    exact (Below.heap_alloc _ _ k (by simp;omega)).trans (Below.heap_alloc _ _ k hk)
  have hw0:w0.heap.size<=w.heap.size:=hr0.mem.ext.size
  refine ⟨w.heap.size+1,[{ target:=.collected w.heap.size,args:=#[] }],W1,{ target:=.fn (.func f) lb,args:=#[.func (.yield (w.heap.size+1)) #[] #[]] },W1,f,
    #[.func (.yield (w.heap.size+1)) #[] #[]]++lb,W1,?_,?_,fun _ _=>trivial,?_,fun hd=>(by cases hd),ZjO ?_⟩
  . rw [<- hW1,hrec];exact run_enterLoop_outer _ _ _ _ _
  . have hge':a.eval (.tmp gt)=.func (.func f) #[] lb:=hge
    simp [resolve,rangeCall,hge',Deferred.ofValue]
    rfl
  . simp [invoke,Zh4 hent]
  obtain ⟨l,hl⟩:∃ l,l=w.heap.size+1:=⟨_,rfl⟩
  obtain ⟨D,hD⟩:∃ D,D=w.heap.size:=⟨_,rfl⟩
  obtain ⟨S,hS⟩:∃ S,S=(cx w (build kds (enc st0)).ob mu ok).okb:=⟨_,rfl⟩
  rw [<- hl,<- hD]
  rw [<- hl] at hL1
  rw [<- hD] at hK1
  rw [<- hS] at hitr
  have hSl:∀ b,S b->b≠l:=by
    intro b hb e
    rw [hS] at hb
    have:b<w.heap.size:=hb.2.1
    omega
  let J:Nat->(Nat->Prop)->World->Prop:=fun k T W=>∃ st mu',Zcq step (xs.drop k) st=some yy/\R w0 ok nt ds (build kds (enc st)) a W mu' /\
    ((∀ b,S b\/T b->b≠l/\(cx W (build kds (enc st)).ob mu' ok).okb b)/\(cx W (build kds (enc st)).ob mu' ok).okb l/\(cx W (build kds (enc st)).ob mu' ok).okb D)/\W.heap[l]?=some (.loop (rec .ready none))/\W.heap[D]?=some (.deferred (some []))
  let Jx:World->Prop:=fun W=>∃ yx mu',yy=.inr yx/\(out yx).1≠.normal/\R w0 ok nt ds (build (keepX (out yx).1) (out yx).2) a W mu' /\
    ((cx W (build (keepX (out yx).1) (out yx).2).ob mu' ok).okb l/\(cx W (build (keepX (out yx).1) (out yx).2).ob mu' ok).okb D)/\W.heap[l]?=some (.loop (rec .done (some (ZnL (out yx).1))))/\W.heap[D]?=some (.deferred (some []))
  have gok:∀ {A B:World} {ob:List (Nat×AV)} {mu:Nat->Option Nat} {b:Nat},Grown A B->(cx A ob mu ok).okb b->(cx B ob mu ok).okb b:=fun hg hb=>⟨hb.1,Nat.lt_of_lt_of_le hb.2.1 hg.size,hb.2.2⟩
  have hJ:∀ k T A B,J k T A->Grown A B->J k (fun b=>T b\/A.heap.size<=b/\b<B.heap.size) B:=by
    rintro k T A B ⟨st,mu',h1,h2,⟨h3,h4,h5⟩,h6,h7⟩ hg
    have old:∀ b,S b\/T b->b≠l/\(cx B (build kds (enc st)).ob mu' ok).okb b:=fun b hb=>⟨(h3 b hb).1,gok hg (h3 b hb).2⟩
    refine ⟨st,mu',h1,h2.grow hg,⟨fun b hb=>?_,gok hg h4,gok hg h5⟩,(hg.block l h4.2.1 (fun x=>x)).trans h6,(hg.block D h5.2.1 (fun x=>x)).trans h7⟩
    rcases hb with hb | hb | ⟨hb1,hb2⟩
    . exact old b (.inl hb)
    . exact old b (.inr hb)
    . have hl':l<A.heap.size:=h4.2.1
      refine ⟨by omega,h2.mem.new_ok hb1,hb2,fun id e=>?_⟩
      have:b<A.heap.size:=h2.mem.lt e
      omega
  have hJx:∀ A B,Jx A->Grown A B->Jx B:=by
    rintro A B ⟨yx,mu',h1,h0,h2,⟨h4,h5⟩,h6,h7⟩ hg
    exact ⟨yx,mu',h1,h0,h2.grow hg,⟨gok hg h4,gok hg h5⟩,(hg.block l h4.2.1 (fun x=>x)).trans h6,(hg.block D h5.2.1 (fun x=>x)).trans h7⟩
  have hJ0:J 0 (fun _=>False) W1:=by
    have fresh:∀ b,w.heap.size<=b->b<W1.heap.size->(cx W1 (build kds (enc st0)).ob mu ok).okb b:=by
      intro b h1 h2
      refine ⟨hr0.mem.new_ok h1,h2,fun id e=>?_⟩
      have:=hr0.mem.lt e
      have:b<w.heap.size:=this
      omega
    refine ⟨st0,mu,hfold,hr0.grow hgr,⟨fun b hb=>?_,fresh l (by omega) (by omega),fresh D (by omega) (by omega)⟩,hL1,hK1⟩
    rcases hb with hb | hb
    . refine ⟨hSl b hb,?_⟩
      rw [hS] at hb
      exact gok hgr hb
    . exact hb.elim
  refine (hitr l J Jx W1 hgr hJ hJx ?_ hJ0).mono ?_
  ·
    rintro k ex T A hk ⟨st,mu1,hf,hr1,⟨hB,hol,hoD⟩,hlA,hDA⟩
    rw [List.getElem?_map] at hk
    obtain ⟨e,he,rfl⟩:∃ e,xs[k]?=some e/\it.enc e=ex:=by
      cases h:xs[k]? with
      | none=>rw [h] at hk;cases hk
      | some e=>rw [h] at hk;exact ⟨e,rfl,Option.some.inj hk⟩
    have hdrop:xs.drop k=e::xs.drop (k+1):=by
      obtain ⟨hlt,hge⟩:=List.getElem?_eq_some_iff.1 he
      rw [List.drop_eq_getElem_cons hlt,hge]
    rw [hdrop] at hf
    have hlen:(it.enc e).size=ps.size:=by
      have:=(it.law ⟨A,look (build kds (enc st)).ob,mu1,ok⟩ e).length
      rw [hpl] at this
      simpa using this.symm
    have hy:=run_yield (P:=V.P) (args:=it.enc e) hlA (by rw [hrec];exact hlen)
    rw [hrec] at hy
    refine ⟨fn,_,x,y,hy,roundIn_of_wpIn trivial ?_⟩
    obtain ⟨c1,hc1⟩:∃ c1,c1=cx A (build kds (enc st)).ob mu1 ok:=⟨_,rfl⟩
    have hres:∃ res,step st e=some res/\(match res with | .inl st'=>Zcq step (xs.drop (k+1)) st'=some yy | .inr yx=>yy=.inr yx):=by
      simp only [Zcq] at hf
      cases hs:step st e with
      | none=>rw [hs] at hf;cases hf
      | some res =>
        rw [hs] at hf
        cases res with
        | inl st'=>exact ⟨_,rfl,hf⟩
        | inr yx=>exact ⟨_,rfl,(Option.some.inj hf).symm⟩
    obtain ⟨res,hs,hres⟩:=hres
    rw [<- hstep st e] at hs
    unfold evR at hs
    have hstart:R w0 ok nt [] (Zf6 (ps.toList.zip (it.par e)) (build kds (enc st))) { tmps:=(ps.zip (it.enc e)).foldl (fun t (p:Nat×Value)=>t.setIfInBounds p.1 p.2) a.tmps,defers:=[] } A mu1:=by
      have hz:(ps.toList.zip (it.par e)).map (·.1)=ps.toList:=List.map_fst_zip (by rw [hpl];simp)
      have hz2:(ps.toList.zip (it.par e)).map (·.2)=it.par e:=List.map_snd_zip (by rw [hpl];simp)
      have:=Zm3 (w0:=w0) (w:=A) (ok:=ok) (nt:=nt) (mu:=mu1) (ps.toList.zip (it.par e)) (it.enc e).toList (build kds (enc st)) a.tmps ⟨hr1.mem,hr1.tm,hr1.far,hr1.size,rfl,Marks.nil _ _⟩
        (fun p hp=>hps p.1 (List.of_mem_zip hp).1) (by rw [hz2];exact it.law _ e)
      rw [hz] at this
      have e2:(ps.toList.zip (it.enc e).toList).foldl (fun t (p:Nat×Value)=>t.setIfInBounds p.1 p.2) a.tmps=(ps.zip (it.enc e)).foldl (fun t (p:Nat×Value)=>t.setIfInBounds p.1 p.2) a.tmps:=by
        rw [<- Array.foldl_toList,Array.toList_zip]
      rw [e2] at this
      exact this
    have hob0:∀ (l:List (Nat×AV)) (σ:St),(Zf6 l σ).ob=σ.ob:=by
      intro l
      induction l with
      | nil=>intro σ;rfl
      | cons p l ih=>intro σ;exact ih _
    have hj1:JR (build kds (enc st)).tm a c1 l (.loop (rec .ready none)) (cx A (Zf6 (ps.toList.zip (it.par e)) (build kds (enc st))).ob mu1 ok):=by
      rw [hob0,<- hc1]
      refine ⟨fun t ht=>?_,fun b hb=>hb,fun b _ _=>rfl,by rw [hc1];exact hlA⟩
      rw [hc1]
      exact hr1.tm t (by rw [<- hr1.size];exact ht)
    have hol':c1.okb l:=by rw [hc1];exact hol
    have hll:w0.heap.size<=l:=by omega
    have fin:∀ (jump:Option Code) (τ:St) (a3:Act) (w3:World) (ks:List (Nat×Kd)) (hd':List AV),Zdc anyD (JR (build kds (enc st)).tm a c1 l (.loop { rec .ready none with state:=.busy })) w0 ok nt τ a3 w3 ->
        norm ks ⟨(build kds (enc st)).tm,τ.ob⟩=some hd'->∃ W' mu',(Instr.endRound l jump).run V.P w3=.ok (.bool jump.isNone) W'/\R w0 ok nt ds (build ks hd') a W' mu' /\
          ((∀ b,S b\/T b->b≠l/\(cx W' (build ks hd').ob mu' ok).okb b)/\(cx W' (build ks hd').ob mu' ok).okb l/\(cx W' (build ks hd').ob mu' ok).okb D) /\
          W'.heap[l]?=some (.loop (rec (if jump.isNone then .ready else .done) jump))/\W'.heap[D]?=some (.deferred (some []))/\ZoN (fun b=>S b\/T b) A W':=by
      rintro jump τ a3 w3 ks hd' ⟨ds3,_,mu3,hr3,hj3⟩ hn
      have hne:D≠l:=by omega
      have hmk:Marks w0.heap.size (cx w3 τ.ob mu3 ok) ds:=by
        refine ⟨hr1.marks.1,fun d hd=>?_⟩
        obtain ⟨D',e1,h0,h1,h2⟩:=hr1.marks.2 d hd
        have h1':c1.okb D':=by rw [hc1];exact h1
        have hne':D'≠l:=by
          rintro rfl
          have h2:A.heap[D']?=_:=h2
          rw [hlA] at h2
          cases h2
        refine ⟨D',e1,h0,hj3.okb D' h1',(hj3.heap D' h1' hne').trans ?_⟩
        rw [hc1]
        exact h2
      have hR:R w0 ok nt ds ⟨(build kds (enc st)).tm,τ.ob⟩ a w3 mu3:=⟨hr3.mem,fun t ht=>hj3.val t (by rw [hr1.size];exact ht),hr1.far,hr1.size,hr1.defers,hmk⟩
      obtain ⟨mu4,hR4,hok4,hw4⟩:=ZmM (J:=fun c=>(∀ b,c1.okb b->c.okb b)/\c.w=w3) (fun c c' h1 h2 h3=>⟨fun b hb=>h1 b (h3.1 b hb),h2.trans h3.2⟩) ⟨mu3,hR,hj3.okb,rfl⟩ hn
      have hl3:w3.heap[l]?=some (.loop { rec .ready none with state:=.busy }):=hj3.rcd
      have hend:=run_endRound (P:=V.P) jump hl3
      refine ⟨_,mu4,hend,hR4.turn (ZcT w3 l _) hl3 rfl hll (ZmC hR4.marks hl3),?_,?_,?_,?_⟩
      . have up:∀ b,c1.okb b->(cx (w3.putObj l (.loop { { rec .ready none with state:=.busy } with state:=if jump.isNone then .ready else .done,pending:=jump })) (build ks hd').ob mu4 ok).okb b:=by
          intro b hb
          have:=hok4 b hb
          exact ⟨this.1,by simpa using this.2.1,this.2.2⟩
        exact ⟨fun b hb=>⟨(hB b hb).1,up b (by rw [hc1];exact (hB b hb).2)⟩,up l hol',up D (by rw [hc1];exact hoD)⟩
      . rw [World.putObj_heap_same (Array.getElem?_eq_some_iff.1 hl3).1,hrec]
      . rw [World.putObj_heap_other hne]
        refine (hj3.heap D (by rw [hc1];exact hoD) hne).trans ?_
        rw [hc1]
        exact hDA
      . intro b hb
        rw [World.putObj_heap_other (hB b hb).1]
        refine (hj3.heap b (by rw [hc1];exact (hB b hb).2) (hB b hb).1).trans ?_
        rw [hc1]
    refine ZfF (J:=JR (build kds (enc st)).tm a c1 l (.loop (rec .ready none))) (Δ:=anyD) (ro:=some l) hG (Zba hG depth) (JR.stays hol') (fun _ _ h=>by cases h) (fun _ _ h=>by cases h) x (fun _ _ _ h=>by cases h)
      ⟨[],trivial,mu1,hstart,hj1⟩ hs fun ex σ' a' w' hh' h'=>?_
    cases ex with
    | exit id=>cases h'
    | goto t=>cases h'
    | ret=>cases h'
    | normal =>
    simp only at h'
    obtain ⟨ds2,_,mu2,hr2,hj2⟩:=hh'
    have hl2:w'.heap[l]?=some (.loop (rec .ready none)):=hj2.rcd
    refine ⟨_,run_beginRound hl2 (by rw [hrec]),?_⟩
    have hr2':=hr2.turn (ZcT w' l (.loop { rec .ready none with state:=.busy })) hl2 rfl hll (ZmC hr2.marks hl2)
    have hj2':=hj2.turn (o':=.loop { rec .ready none with state:=.busy }) rfl
    refine ZfF (J:=JR (build kds (enc st)).tm a c1 l (.loop { rec .ready none with state:=.busy })) (Δ:=anyD) (ro:=some l) hG (Zba hG depth) (JR.stays hol') (fun _ _ h=>by cases h) (fun _ _ h=>by cases h) y (fun _ _ _ h=>by cases h)
      ⟨ds2,trivial,mu2,hr2',hj2'⟩ h' fun ex τ a3 w3 hh3 h3=>?_
    have leave:∀ (ex:Ex),ex≠.normal->(match norm (keepX ex) ⟨(build kds (enc st)).tm,τ.ob⟩ with | none=>none | some hd=>match dex ex hd with | some y=>some (.inr y) | none=>none:Option (σ⊕ρ))=some res ->
        ∃ v W',(Instr.endRound l (some (ZnL ex))).run V.P w3=.ok v W'/\((Ending.returned v=.returned (.bool true)/\J (k+1) T W')\/(Ending.returned v=.returned (.bool false)/\Jx W'))/\ZoN (fun b=>S b\/T b) A W':=by
      intro ex hex h3
      split at h3
      . cases h3
      rename_i hd' hn
      split at h3
      case h_2=>cases h3
      rename_i yx hyx
      obtain rfl:=Option.some.inj h3
      obtain ⟨ho,hne⟩:=hdex _ _ _ hyx
      obtain ⟨W',mu',k1,k2,⟨_,k4,k5⟩,k6,k7,k8⟩:=fin (some (ZnL ex)) τ a3 w3 _ hd' hh3 hn
      refine ⟨_,W',k1,.inr ⟨rfl,yx,mu',hres,by rw [ho];exact hex,?_,?_,?_,k7⟩,k8⟩
      . rw [ho];exact k2
      . rw [ho];exact ⟨k4,k5⟩
      . rw [ho];exact k6
    unfold Zdn at h3
    cases ex with
    | normal =>
      simp only at h3
      split at h3
      . cases h3
      rename_i hd' hn
      split at h3
      case h_2=>cases h3
      rename_i st' hst'
      obtain rfl:=Option.some.inj h3
      obtain rfl:=hdecS _ _ hst'
      obtain ⟨W',mu',k1,k2,k3,k6,k7,k8⟩:=fin none τ a3 w3 _ _ hh3 hn
      exact ⟨_,W',k1,.inl ⟨rfl,st',mu',hres,k2,k3,k6,k7⟩,k8⟩
    | exit id=>exact leave (.exit id) (fun h=>by cases h) h3
    | goto t=>exact leave (.goto t) (fun h=>by cases h) h3
    | ret=>exact leave .ret (fun h=>by cases h) h3
  ·
    have hD0:∀ d∈ds,d≠{ target:=.collected D,args:=#[] }:=by
      intro d hd e
      obtain ⟨D',e1,_,h1,_⟩:=hr0.marks.2 d hd
      rw [e] at e1
      injection e1 with e1 _
      injection e1 with e1
      have:D'<w.heap.size:=h1.2.1
      omega
    have done:∀ {ks:List (Nat×Kd)} {hd':List AV} {mu':Nat->Option Nat} {B:World} {rc rc':Loop},R w0 ok nt ds (build ks hd') a B mu'->(cx B (build ks hd').ob mu' ok).okb D->B.heap[l]?=some (.loop rc)->B.heap[D]?=some (.deferred (some [])) ->
        Zdc anyD T w0 ok nt (build ks hd') { a with defers:=[{ target:=.collected D,args:=#[] }]++a.defers } (B.putObj l (.loop rc')):=by
      intro ks hd' mu' B rc rc' hR hoD hl hD
      have hne:D≠l:=by omega
      have hR':=hR.turn (ZcT B l (.loop rc')) hl rfl (by omega) (ZmC hR.marks hl)
      refine ⟨{ target:=.collected D,args:=#[] }::ds,trivial,mu',⟨hR'.mem,hR'.tm,hR'.far,hR'.size,by rw [<- hR'.defers];rfl,List.nodup_cons.2 ⟨fun h=>hD0 _ h rfl,hR'.marks.1⟩,fun d hd=>?_⟩,trivial⟩
      rcases List.mem_cons.1 hd with rfl | hd
      . exact ⟨D,rfl,by omega,⟨hoD.1,by simpa using hoD.2.1,hoD.2.2⟩,(World.putObj_heap_other hne).trans hD⟩
      . exact hR'.marks.2 d hd
    rintro e B ⟨⟨v,rfl⟩,⟨T,st,mu',hf,hR,⟨_,_,hoD⟩,hl',hD'⟩ | ⟨yx,mu',hyx,hnn,hR,⟨_,hoD⟩,hl',hD'⟩⟩
    . rw [List.length_map,List.drop_length] at hf
      simp only [Zcq,Option.some.injEq] at hf
      subst hf
      refine ⟨none,_,by have:=run_endLoop (P:=V.P) hl' (by rw [hrec];simp);rw [hrec] at this;exact this,?_⟩
      simp only at henc
      rw [henc]
      refine ⟨rfl,?_⟩
      rw [hkx]
      exact done hR hoD hl' hD'
    . subst hyx
      simp only at henc
      refine ⟨some (ZnL (out yx).1),_,by have:=run_endLoop (P:=V.P) hl' (by rw [hrec];simp);rw [hrec] at this;exact this,?_⟩
      have hfin:=done (rc':={ rec .done (some (ZnL (out yx).1)) with state:=.exhausted }) hR hoD hl' hD'
      rw [hrec] at hfin
      rw [henc]
      have hq:∀ (E:Exit),E=(out yx).1.to->(E=(out yx).1.to/\Zdc anyD T w0 ok nt (build (s.keepX (out yx).1) (out yx).2) { a with defers:=[{ target:=.collected D,args:=#[] }]++a.defers } _):=fun E hE=>⟨hE,by rw [hkx'];exact hfin⟩
      cases ho:(out yx).1 with
      | normal=>exact (hnn ho).elim
      | ret=>exact wpIn_ret (by have:=hq .ret (by rw [ho];rfl);rw [ho] at this;exact this)
      | exit id=>exact wpIn_exit (by have:=hq (.exit id) (by rw [ho];rfl);rw [ho] at this;exact this)
      | goto t=>exact wpIn_goto (by have:=hq (.goto t) (by rw [ho];rfl);rw [ho] at this;exact this)
end
def ZnV (gt:Nat) (it:ItV) (ts:List Nat) (v:Vals) (run:it.κ×v.α->Option v.α):LSpec where
 keep:=(gt,.still)::ts.zip v.kds
 σ:=it.κ×v.α
 ρ:=v.α
 dec
   | g::hd=>(match it.decG g with | some q=>(match v.dec hd with | some x=>some (q,x) | none=>none) | none=>none)
   | _=>none
 run:=run
 enc y:=(.normal,v.enc y)
 keepX _:=ts.zip v.kds
 out _ y k:=k .normal (v.enc y)
 law _ _ _:=rfl
def Zt5 (gt:Nat) (it:ItV) (ts:List Nat) (v:Vals) (b:Way) (run:it.κ×v.α->Option (v.α⊕b.v.α)):LSpec where
 keep:=(gt,.still)::ts.zip v.kds
 σ:=it.κ×v.α
 ρ:=v.α⊕b.v.α
 dec
   | g::hd=>(match it.decG g with | some q=>(match v.dec hd with | some x=>some (q,x) | none=>none) | none=>none)
   | _=>none
 run:=run
 enc
   | .inl y=>(.normal,v.enc y)
   | .inr y=>(b.e,b.v.enc y)
 keepX e:=match e with | .normal=>ts.zip v.kds | _=>b.ts.zip b.v.kds
 out _ y k:=match y with
   | .inl y=>k .normal (v.enc y)
   | .inr y=>k b.e (b.v.enc y)
 law _ y _:=by cases y <;> rfl
def Zi8 {σ:Type} (it:ItV) (step:σ->it.α->Option (σ⊕Empty)) (z:it.κ×σ):Option σ:=bif it.okB z.1 then (match Zcq step (it.els z.1) z.2 with | some (.inl y)=>some y | _=>none) else none
def ZoP {σ ρ:Type} (it:ItV) (step:σ->it.α->Option (σ⊕ρ)) (z:it.κ×σ):Option (σ⊕ρ):=bif it.okB z.1 then Zcq step (it.els z.1) z.2 else none
def Zce (c:Code):Operand×Array Tmp×Code×Code:=match c with
 | .rangeFunc g ps x y=>(g,ps,x,y)
 | _=>(.func 0,#[],.skip,.skip)
def ZmG (c:Code) (gt nt n:Nat) (ks:List (Nat×Kd)):Bool :=
 Zdu c && (match (Zce c).1 with | .tmp t=>Nat.beq t gt | _=>false) && (Zce c).2.1.toList.all (fun p=>Nat.blt p nt) && Nat.beq (Zce c).2.1.size n && ks.all (fun p=>!(Nat.beq p.1 gt))
theorem Zpq {c:Code} {gt nt n:Nat} {ks:List (Nat×Kd)} (h:ZmG c gt nt n ks=true) :
   c=.rangeFunc (.tmp gt) (Zce c).2.1 (Zce c).2.2.1 (Zce c).2.2.2/\(∀ p∈(Zce c).2.1.toList,p<nt)/\(Zce c).2.1.size=n/\∀ p∈ks,p.1≠gt:=by
 unfold ZmG at h
 simp only [Bool.and_eq_true,List.all_eq_true] at h
 obtain ⟨⟨⟨⟨h1,h2⟩,h3⟩,h4⟩,h5⟩:=h
 refine ⟨?_,fun p hp=>by have:=h3 p hp;simpa using this,Nat.eq_of_beq_eq_true h4,fun p hp e=>by have:=h5 p hp;rw [e] at this;simp at this⟩
 cases c <;> try (cases h1;done)
 rename_i g ps x y
 cases g <;> try (cases h2;done)
 rename_i t
 have:=Nat.eq_of_beq_eq_true h2
 subst this
 rfl
section
variable {V:Env}
theorem Zol {nt n rounds depth gt:Nat} {it:ItV} {ts:List Nat} {v:Vals} {step:v.α->it.α->Option (v.α⊕Empty)} {c:Code} (hG:Zai V) (hit:Zl8 V.P it) (hn:∀ e,(it.par e).length=n)
   (hfit:ZmG c gt nt n (ts.zip v.kds)=true)
   (hstep:∀ st e,evR V (inlK V rounds depth) nt rounds (Zce c).2.2.1 (Zce c).2.2.2 (Zf6 ((Zce c).2.1.toList.zip (it.par e)) (build (ts.zip v.kds) (v.enc st)))
     (fun e τ=>Zdn (ts.zip v.kds) (fun _=>[]) v.dec (fun _ _=>none) e ⟨(build (ts.zip v.kds) (v.enc st)).tm,τ.ob⟩)=step st e) :
   LoopOK V nt (ZnV gt it ts v (Zi8 it step)) c:=by
 obtain ⟨hc,h1,h2,h3⟩:=Zpq hfit
 rw [hc]
 show Zl4 V nt _ _
 refine Zuk (ρ:=Empty) (it:=it) (kds:=ts.zip v.kds) (enc:=v.enc) (step:=step) (out:=fun e=>nomatch e) (keepX:=fun _=>[]) (dec:=v.dec) (dex:=fun _ _=>none) (rounds:=rounds) (depth:=depth) hG hit rfl h3 h1 (fun e=>by rw [hn,h2]) ?_ rfl
   (fun y=>nomatch y) v.law (fun _ _ _ h=>by cases h) hstep
 intro hd z r hd1 hrun
 cases hd with
 | nil=>cases hd1
 | cons g hd =>
   simp only [ZnV] at hd1 hrun
   split at hd1
   case h_2=>cases hd1
   rename_i q hq
   split at hd1
   case h_2=>cases hd1
   rename_i x hx
   obtain rfl:=Option.some.inj hd1
   unfold Zi8 at hrun
   cases hqb:it.okB q with
   | false=>simp only [hqb,cond_false] at hrun;cases hrun
   | true =>
   simp only [hqb,cond_true] at hrun
   split at hrun
   case h_2=>cases hrun
   rename_i y hy
   obtain rfl:=Option.some.inj hrun
   exact ⟨q,x,.inl y,hqb,by rw [it.lawG _ _ hq,v.law _ _ hx],hy,rfl⟩
theorem Zy7 {nt n rounds depth gt:Nat} {it:ItV} {ts:List Nat} {v:Vals} {b:Way} {step:v.α->it.α->Option (v.α⊕b.v.α)} {c:Code} (hG:Zai V) (hit:Zl8 V.P it) (hn:∀ e,(it.par e).length=n)
   (hb:Zti b.e=true) (hfit:ZmG c gt nt n (ts.zip v.kds)=true)
   (hstep:∀ st e,evR V (inlK V rounds depth) nt rounds (Zce c).2.2.1 (Zce c).2.2.2 (Zf6 ((Zce c).2.1.toList.zip (it.par e)) (build (ts.zip v.kds) (v.enc st)))
     (fun e τ=>Zdn (ts.zip v.kds) (fun _=>b.ts.zip b.v.kds) v.dec (dex1 b) e ⟨(build (ts.zip v.kds) (v.enc st)).tm,τ.ob⟩)=step st e) :
   LoopOK V nt (Zt5 gt it ts v b (ZoP it step)) c:=by
 obtain ⟨hc,h1,h2,h3⟩:=Zpq hfit
 rw [hc]
 show Zl4 V nt _ _
 refine Zuk (ρ:=b.v.α) (it:=it) (kds:=ts.zip v.kds) (enc:=v.enc) (step:=step) (out:=fun y=>(b.e,b.v.enc y)) (keepX:=fun _=>b.ts.zip b.v.kds) (dec:=v.dec) (dex:=dex1 b) (rounds:=rounds) (depth:=depth) hG hit rfl h3 h1 (fun e=>by rw [hn,h2]) ?_ rfl
   (fun y=>?_) v.law (fun e hd y h=>?_) hstep
 . intro hd z r hd1 hrun
   cases hd with
   | nil=>cases hd1
   | cons g hd =>
     simp only [Zt5] at hd1 hrun
     split at hd1
     case h_2=>cases hd1
     rename_i q hq
     split at hd1
     case h_2=>cases hd1
     rename_i x hx
     obtain rfl:=Option.some.inj hd1
     unfold ZoP at hrun
     cases hqb:it.okB q with
     | false=>simp only [hqb,cond_false] at hrun;cases hrun
     | true =>
     simp only [hqb,cond_true] at hrun
     refine ⟨q,x,r,hqb,by rw [it.lawG _ _ hq,v.law _ _ hx],hrun,?_⟩
     cases r <;> rfl
 . show (match b.e with | .normal=>_ | _=>_)=_
   cases hbe:b.e <;> first | rfl | (rw [hbe] at hb;cases hb)
 . unfold dex1 at h
   cases he:e.same b.e with
   | false=>rw [he] at h;cases h
   | true =>
     rw [he] at h
     have h:b.v.dec hd=some y:=h
     have he:=Ex.same_eq he
     subst he
     exact ⟨by rw [<- b.v.law _ _ h],fun hn=>by rw [hn] at hb;cases hb⟩
end
end Go.Proofs.Mill
namespace Go.Proofs.Mill
open Go.RowKit
section
variable {V:Env} {J:Cx->Prop} {w0 w:World} {ok:Nat->Prop} {nt fid:Nat} {σ:St} {a:Act} {ds:List Deferred} {ro:Option Nat}
theorem Zfm {ρ:Type} {inl:Inl ρ} {r:ρ} {Q:Exit->Act->World->Prop} {ops:Array Oper} {tail:List Oper} (hG:Zai V) (hI:Zgb V inl) (hJ:Stays J) :
   ∀ (l : List Oper) {σ : St} {a : Act} {w : World} {k : St -> Option ρ}, Holds J w0 ok nt ds σ a w -> opsK V inl fid nt ops l σ k = some r ->
     (∀ σ' a' w',Holds J w0 ok nt ds σ' a' w'->k σ'=some r->wpListIn (Za4 ro) 0 V.P ops Q tail a' w')->wpListIn (Za4 ro) 0 V.P ops Q (l++tail) a w
 | [],_,_,_,_,hh,h,hn=>hn _ _ _ hh h
 | o :: l, _, _, _, _, hh, h, hn => by
   rw [List.cons_append,Zha]
   exact ZuZ hG hI hJ hh h fun σ' a' w' hh' h'=>Zfm hG hI hJ l hh' h' hn
theorem ZAv {P:Program} {o:Oper} {c:Go.Call} {f x:Operand} {l:Nat} {K:Act->World->Prop} {Q:Exit->Act->World->Prop} (ho:o.op=.call c) (hf:c.callee=.value f) (hx:c.args=#[x])
   (hv:a.eval f=.func (.yield l) #[] #[]) (h:YieldAt Fence.wide 0 P l #[a.eval x] w fun e B=>∃ v,e=.returned v/\K (a.put o.dst v) B):o.wpIn (Za4 none) 0 P a w K Q:=by
 obtain ⟨fn,tmps,assign,body,hr,hround⟩:=h
 refine ⟨fun _ _=>trivial,?_⟩
 have hrun:(execOp a.eval o).run P w=.ok (.round l fn tmps assign body) w:=by
   simp [execOp,ho,resolve,hf,hv,Deferred.ofValue,invoke,hx,hr]
 show o.uponIn (Za4 none) 0 P a K Q ((Oper.semAt none a.eval o).run P w)
 rw [Oper.semAt_none,hrun]
 refine ⟨fun h=>(by cases h),hround.mono fun e B he=>?_⟩
 obtain ⟨v,rfl,hk⟩:=he
 exact hk
theorem ZgG:∀ (ob:List (Nat×AV)) (i:Nat),look ob i=.undef\/∃ p∈ob,p.1=i/\look ob i=p.2
 | [],_=>.inl rfl
 | (j, o) :: ob, i => by
   by_cases e:j=i
   . subst e;exact .inr ⟨(j,o),by simp,rfl,look_eq _ _ _⟩
   . rw [ZaQ _ _ e]
     rcases ZgG ob i with h | ⟨p,hp,h1,h2⟩
     . exact .inl h
     . exact .inr ⟨p,List.mem_cons_of_mem _ hp,h1,h2⟩
abbrev bx (S:Nat->Prop) (B:World):Cx:=cx B [] (fun _=>none) fun b=>S b\/B.heap.size<=b
structure Bare (S:Nat->Prop) (nt:Nat) (tm:List (Nat×AV)) (a:Act) (B:World):Prop where
  defers:a.defers=[]
  size:a.tmps.size=nt
  val:∀ p∈tm,p.1<nt/\Mill.V (bx S B) p.2 (a.tmps.getD p.1 undef)
theorem Bare.holds {S:Nat->Prop} {tm:List (Nat×AV)} {B:World} (h:Bare S nt tm a B):Holds T B (fun b=>S b\/B.heap.size<=b) nt [] ⟨tm,[]⟩ a B:=by
 refine ⟨fun _=>none,⟨⟨fun _=>rfl,fun _ _ _ h=>(by cases h),fun _ _ h=>(by cases h),Below.refl _ _,fun b hb=>.inl (.inr hb)⟩,fun t _=>?_,fun t ht=>?_,h.size,h.defers,Marks.nil _ _⟩,trivial⟩
 . rcases ZgG tm t with h1 | ⟨p,hp,h1,h2⟩
   . show Mill.V _ (look tm t) _
     rw [h1];trivial
   . show Mill.V _ (look tm t) _
     rw [h2,<- h1]
     exact (h.val p hp).2
 . rcases ZgG tm t with h1 | ⟨p,hp,h1,h2⟩
   . exact h1
   . have:=(h.val p hp).1
     omega
theorem Bare.later {S:Nat->Prop} {A B:World} (hk:ZoN S A B) (hS:∀ b,S b->b<A.heap.size) {v:AV} {u:Value} (hf:v.frozen=true)
   (h:Mill.V (bx S A) v u):Mill.V (bx S B) v u:=by
 refine ZhE (fun b hb=>?_) v u hf h
 have hS':S b:=by
   rcases hb.1 with h | h
   . exact h
   . have:b<A.heap.size:=hb.2.1
     omega
 have e:=hk b hS'
 have hlt:b<B.heap.size:=by
   have:A.heap[b]?=some (A.heap[b]'(hS b hS')):=Array.getElem?_eq_getElem (hS b hS')
   rw [this] at e
   exact (Array.getElem?_eq_some_iff.1 e).1
 exact ⟨⟨Or.inl hS',hlt,fun _ h=>by cases h⟩,e⟩
theorem Zu1 {w w':World} (h:Below w.heap.size w w'):Grown w w':=⟨h.os,h.tape,h.output,h.size,fun k hk _=>h.block k hk⟩
theorem Zzj {U:Nat->Prop} {A B:World} {σ':St} {a':Act} {tm:List (Nat×AV)} (hh:Holds T A (fun b=>U b\/A.heap.size<=b) nt [] σ' a' B) (hl:∀ p∈tm,p.1<nt/\look σ'.tm p.1=p.2/\p.2.frozen=true) :
   Bare (fun b=>U b\/A.heap.size<=b/\b<B.heap.size) nt tm a' B:=by
 obtain ⟨mu,hr,_⟩:=hh
 refine ⟨hr.defers,hr.size,fun p hp=>?_⟩
 obtain ⟨h1,h2,h3⟩:=hl p hp
 refine ⟨h1,?_⟩
 have:=hr.tm p.1 h1
 rw [h2] at this
 refine ZhE (c:=cx B σ'.ob mu fun b=>U b\/A.heap.size<=b) (c':=bx (fun b=>U b\/A.heap.size<=b/\b<B.heap.size) B) (fun b hb=>?_) p.2 _ h3 this
 refine ⟨⟨Or.inl ?_,hb.2.1,fun _ h=>by cases h⟩,rfl⟩
 rcases hb.1 with h | h
 . exact .inl h
 . exact .inr ⟨h,hb.2.1⟩
theorem ZgK {ρ:Type} {rounds depth:Nat} (hG:Zai V) {c:Code} {r:ρ} {k:Ex->St->Option ρ} {Q:Exit->Act->World->Prop} (hh:Holds T w0 ok nt [] σ a w)
   (h:evK V (fun _=>none) (inlK V rounds depth) 1 nt rounds c σ k=some r) (hn:∀ e σ' a' w',Holds T w0 ok nt [] σ' a' w'->k e σ'=some r->Q e.to a' w'):c.wpIn (Za4 none) 0 V.P Q a w :=
 ZfF (J:=T) (Δ:=fun ds=>ds=[]) (ro:=none) hG (Zba hG depth) Stays.triv (fun _ _ h=>by cases h) (fun _ _ h=>by cases h) c (fun _ _ _ h=>by cases h) ⟨[],rfl,hh⟩ h
   fun e σ' a' w' hh' h'=>by obtain ⟨ds,rfl,hh'⟩:=hh';exact hn e σ' a' w' hh' h'
theorem ZfX {U:Nat->Prop} {A B:World} {σ:St} {a:Act} (hh:Holds T A (fun b=>U b\/A.heap.size<=b) nt [] σ a B):Grown A B:=by
 obtain ⟨mu,hr,_⟩:=hh
 exact Zu1 hr.mem.ext
theorem Zoe (hh:Holds T w0 ok nt [] σ a w):a.defers=[]:=by
 obtain ⟨mu,hr,_⟩:=hh
 exact hr.defers
end
def Zry (V:Env) (inl:Inl (Bool×List AV)) (nt rounds:Nat) (R1 K1 R2 K2 R4:Code) (ops:Array Oper) (σ:St):Option (Bool×List AV) :=
 evK V (fun _=>none) inl 1 nt rounds R1 σ fun e σ=>match e with
 | .normal => evK V (fun _ => none) inl 1 nt rounds K1 σ fun e σ => (match e with
   | .exit 0=>some (false,[])
   | .normal => evK V (fun _ => none) inl 1 nt rounds R2 σ fun e σ => (match e with
     | .normal => opsK V inl 1 nt ops (ops.toList.take 4) σ fun σ => (match look σ.tm 15 with
       | .bool b => bif b then opsK V inl 1 nt ops ((ops.toList.drop 4).take 2) ⟨(15, .bool true) :: σ.tm, σ.ob⟩ fun σ => some (true, [15, 0, 2, 6, 7, 8, 16, 17].map (look σ.tm))
         else opsK V inl 1 nt ops (ops.toList.drop 4) ⟨(15,.bool false)::σ.tm,σ.ob⟩ fun σ=>evK V (fun _=>none) inl 1 nt rounds K2 σ fun e σ=>(match e with
           | .normal => evK V (fun _ => none) inl 1 nt rounds R4 σ fun e σ => (match e with
             | .normal=>some (false,[0,2,6,7,8].map (look σ.tm))
             | _=>none)
           | _=>none)
       | _=>none)
     | _=>none)
   | _=>none)
 | _=>none
def ZpM (V:Env) (inl:Inl (Option (List AV))) (nt rounds:Nat) (K2 R4:Code) (ops:Array Oper) (σ:St):Option (Option (List AV)) :=
 opsK V inl 1 nt ops (ops.toList.drop 7) σ fun σ=>evK V (fun _=>none) inl 1 nt rounds K2 σ fun e σ=>match e with
   | .ret=>some none
   | .normal => evK V (fun _ => none) inl 1 nt rounds R4 σ fun e σ => (match e with
     | .normal=>some (some ([0,2,6,7,8].map (look σ.tm)))
     | _=>none)
   | _=>none
theorem Zxu {l:List Oper} (h:l.length=9):l.drop 4=(l.drop 4).take 2++l.getD 6 default::l.drop 7:=by
 have e1:l.drop 4=(l.drop 4).take 2++(l.drop 4).drop 2:=(List.take_append_drop 2 _).symm
 have e2:(l.drop 4).drop 2=l.getD 6 default::l.drop 7:=by
   rw [List.drop_drop,List.drop_eq_getElem_cons (show 4+2<l.length by omega),List.getD_eq_getElem?_getD,List.getElem?_eq_getElem (show 6<l.length by omega),Option.getD_some]
 rw [e2] at e1
 exact e1
theorem Zsa {α:Type} {p:α->Bool}:∀ {l:List α} {i:Nat} {x:α},l[i]?=some x->p x=true->(l.filter p)[((l.take i).filter p).length]?=some x
 | [],i,x,h,_=>by simp at h
 | y :: l, 0, x, h, hp => by
   simp only [List.getElem?_cons_zero,Option.some.injEq] at h
   subst h
   simp [hp]
 | y :: l, i + 1, x, h, hp => by
   simp only [List.getElem?_cons_succ] at h
   have:=Zsa h hp
   cases hy:p y with
   | true=>simp [List.filter_cons,hy,this]
   | false=>simp [List.filter_cons,hy,this]
theorem Zpt {α:Type} {p:α->Bool} {l:List α} {i:Nat} {x:α} (h:l[i]?=some x):((l.take (i+1)).filter p).length=((l.take i).filter p).length+(if p x=true then 1 else 0):=by
 rw [List.take_succ,h,List.filter_append,List.length_append]
 cases hp:p x <;> simp [List.filter_cons,hp]
section
variable {V:Env}
theorem Zov (hG:Zai V) {f:FuncId} {fn:Func} {nt rounds depth id0 id3:Nat} {ops0 ops3:Array Oper} {R1 K1 R2 K2 R4:Code} {α:Type} {enc:α->Array Value} {els:List α} {p:α->Bool} {argOf:α->AV}
    {caps:List AV} {q2 qL:AV} {cl:Go.Call}
    (hf:V.P.funcs[f]?=some fn) (hbody:fn.body=some (.seq (.region id0 ops0 false) (.block 0 (.loop (.seq R1 (.seq K1 (.seq (.block 1 (.seq R2 (.seq (.region id3 ops3 false) K2))) R4)))))))
    (hnt:fn.ntmps=nt) (hn22:22<=nt) (hcl:caps.length=2) (hres:fn.results=#[]) (hq2:q2.frozen=true) (hqL:qL.frozen=true)
    (h0:∀ yv,opsK V (inlK V rounds depth) 1 nt ops0 ops0.toList ⟨ZbU 0 (.cst yv::caps),[]⟩ (fun σ=>some ([0,2,6,7,8].map (look σ.tm)))=some [.cst yv,q2,qL,.i els.length,.i ((0:Nat):Int)])
    (hpre:∀ yv (i:Nat),Zry V (inlK V rounds depth) nt rounds R1 K1 R2 K2 R4 ops3 ⟨[(0,.cst yv),(2,q2),(6,qL),(7,.i els.length),(8,.i (i:Int))],[]⟩ =
      match els[i]? with
      | none=>some (false,[])
      | some x=>if p x=true then some (true,[.bool true,.cst yv,q2,qL,.i els.length,.i (i:Int),.cst yv,argOf x]) else some (false,[.cst yv,q2,qL,.i els.length,.i ((i+1:Nat):Int)]))
    (hpost:∀ yv (i:Nat) (b:Bool),i<els.length->ZpM V (inlK V rounds depth) nt rounds K2 R4 ops3 ⟨[(18,.bool b),(15,.bool true),(0,.cst yv),(2,q2),(6,qL),(7,.i els.length),(8,.i (i:Int))],[]⟩ =
      if b=true then some (some [.cst yv,q2,qL,.i els.length,.i ((i+1:Nat):Int)]) else some none)
    (hops:ops3.size=9) (h6:(ops3.toList.getD 6 default).op=.call cl) (h6c:cl.callee=.value (.tmp 16)) (h6a:cl.args=#[.tmp 17]) (h6d:(ops3.toList.getD 6 default).dst=some 18) (h6g:(ops3.toList.getD 6 default).guard=some (3,true))
    (h3d:(ops3[3]?).bind (·.dst)=some 15) (henc:∀ c x u,Mill.V c (argOf x) u->#[u]=enc x)
    {c:Cx} {lb:Array Value} (hv:VL c caps lb.toList) (hcf:AV.frozens caps=true):ZvS V.P f lb ((els.filter p).map enc) c.okb c.w:=by
  intro l J Jx W hg hJ hJx hY hJ0
  obtain ⟨S,hS⟩:∃ S,S=c.okb:=⟨_,rfl⟩
  rw [<- hS] at hY
  have hSW:∀ b,S b->b<W.heap.size:=fun b hb=>by rw [hS] at hb;exact Nat.lt_of_lt_of_le hb.2.1 hg.size
  obtain ⟨yv,hyv⟩:∃ yv,yv=Value.func (.yield l) #[] #[]:=⟨_,rfl⟩
  have hcW:VL (bx S W) caps lb.toList:=Zio (fun b hb=>⟨⟨Or.inl (by rw [hS];exact hb),hSW b (by rw [hS];exact hb),fun _ h=>by cases h⟩,hg.block b hb.2.1 (fun x=>x)⟩) caps _ hcf hv
  have hargs:VL (bx S W) (.cst yv::caps) (#[Value.func (.yield l) #[] #[]]++lb).toList:=by
    rw [Array.toList_append]
    exact ⟨hyv.symm,hcW⟩
  let tmI:Nat->List (Nat×AV):=fun i=>[(0,.cst yv),(2,q2),(6,qL),(7,.i els.length),(8,.i (i:Int))]
  let cnt:Nat->Nat:=fun i=>((els.take i).filter p).length
  have hcnt:cnt els.length=((els.filter p).map enc).length:=by simp [cnt]
  have headOf:∀ {U:Nat->Prop} {A B:World} {σ':St} {a':Act} {i:Nat},Holds T A (fun b=>U b\/A.heap.size<=b) nt [] σ' a' B->[0,2,6,7,8].map (look σ'.tm)=[.cst yv,q2,qL,.i els.length,.i (i:Int)] ->
      Bare (fun b=>U b\/A.heap.size<=b/\b<B.heap.size) nt (tmI i) a' B:=by
    intro U A B σ' a' i hh hl
    simp only [List.map_cons,List.map_nil,List.cons.injEq,and_true] at hl
    obtain ⟨e0,e2,e6,e7,e8⟩:=hl
    refine Zzj hh fun q hq=>?_
    simp only [tmI,List.mem_cons,List.not_mem_nil,or_false] at hq
    rcases hq with rfl | rfl | rfl | rfl | rfl
    . exact ⟨by simp only;omega,e0,rfl⟩
    . exact ⟨by simp only;omega,e2,hq2⟩
    . exact ⟨by simp only;omega,e6,hqL⟩
    . exact ⟨by simp only;omega,e7,rfl⟩
    . exact ⟨by simp only;omega,e8,rfl⟩
  have ext:∀ {T0:Nat->Prop} {A B:World} {tm:List (Nat×AV)} {a':Act},Bare (fun b=>(S b\/T0 b)\/A.heap.size<=b/\b<B.heap.size) nt tm a' B->Bare (fun b=>S b\/(T0 b\/A.heap.size<=b/\b<B.heap.size)) nt tm a' B:=by
    intro T0 A B tm a' h
    have e:(fun b=>(S b\/T0 b)\/A.heap.size<=b/\b<B.heap.size)=fun b=>S b\/(T0 b\/A.heap.size<=b/\b<B.heap.size):=by funext b;rw [or_assoc]
    rw [e] at h
    exact h
  have extlt:∀ {T0:Nat->Prop} {A B:World},(∀ b,S b\/T0 b->b<A.heap.size)->Grown A B->∀ b,S b\/(T0 b\/A.heap.size<=b/\b<B.heap.size)->b<B.heap.size:=by
    intro T0 A B h hg b hb
    have:=hg.size
    rcases hb with hb | hb | hb
    . have:=h b (.inl hb);omega
    . have:=h b (.inr hb);omega
    . exact hb.2
  let Rr:Ending->World->Prop:=fun e B=>(∃ v,e=.returned v)/\((∃ T,J ((els.filter p).map enc).length T B)\/Jx B)
  let Q0:=bodyPost V.P fn Rr
  have fin:∀ {a':Act} {B:World},a'.defers=[]->((∃ T,J ((els.filter p).map enc).length T B)\/Jx B)->Q0 .normal a' B:=by
    intro a' B hd hb
    exact ⟨hd,.tuple #[],by simp [results,hres],⟨_,rfl⟩,hb⟩
  have next5:∀ {U:Nat->Prop} {A B:World} {σ':St} {a':Act} {x15 x16 x17:AV} {i:Nat},Holds T A (fun b=>U b\/A.heap.size<=b) nt [] σ' a' B ->
      [15,0,2,6,7,8,16,17].map (look σ'.tm)=[x15,.cst yv,q2,qL,.i els.length,.i (i:Int),x16,x17]->x15.frozen=true->Bare (fun b=>U b\/A.heap.size<=b/\b<B.heap.size) nt ((15,x15)::tmI i) a' B:=by
    intro U A B σ' a' x15 x16 x17 i hh hl hx
    simp only [List.map_cons,List.map_nil,List.cons.injEq,and_true] at hl
    obtain ⟨e15,e0,e2,e6,e7,e8,_,_⟩:=hl
    refine Zzj hh fun q hq=>?_
    simp only [tmI,List.mem_cons,List.not_mem_nil,or_false] at hq
    rcases hq with rfl | rfl | rfl | rfl | rfl | rfl
    . exact ⟨by simp only;omega,e15,hx⟩
    . exact ⟨by simp only;omega,e0,rfl⟩
    . exact ⟨by simp only;omega,e2,hq2⟩
    . exact ⟨by simp only;omega,e6,hqL⟩
    . exact ⟨by simp only;omega,e7,rfl⟩
    . exact ⟨by simp only;omega,e8,rfl⟩
  let C:Code:=.seq R1 (.seq K1 (.seq (.block 1 (.seq R2 (.seq (.region id3 ops3 false) K2))) R4))
  have round:∀ (i:Nat) (T0:Nat->Prop) (a:Act) (B:World),i<=els.length->Bare (fun b=>S b\/T0 b) nt (tmI i) a B->J (cnt i) T0 B->(∀ b,S b\/T0 b->b<B.heap.size) ->
      (i<els.length->∀ (T1:Nat->Prop) (a1:Act) (B1:World),Bare (fun b=>S b\/T1 b) nt (tmI (i+1)) a1 B1->J (cnt (i+1)) T1 B1->(∀ b,S b\/T1 b->b<B1.heap.size)->Zd6 none V.P C (Exit.inBlock 0 Q0) a1 B1) ->
      Zd6 none V.P C (Exit.inBlock 0 Q0) a B:=by
    intro i T0 a B hin hbare hJi hlt hnext
    have hp:=hpre yv i
    obtain ⟨rr,hrr⟩:∃ rr,rr=(match els[i]? with
      | none=>(false,[])
      | some x=>if p x=true then (true,[.bool true,.cst yv,q2,qL,.i els.length,.i (i:Int),.cst yv,argOf x]) else (false,[.cst yv,q2,qL,.i els.length,.i ((i+1:Nat):Int)]):Bool×List AV):=⟨_,rfl⟩
    have hp:Zry V (inlK V rounds depth) nt rounds R1 K1 R2 K2 R4 ops3 ⟨tmI i,[]⟩=some rr:=by
      rw [hp,hrr]
      cases els[i]? with
      | none=>rfl
      | some x=>simp only;split <;> rfl
    unfold Zry at hp
    refine Zc6 (wpIn_seq (ZgK hG hbare.holds hp fun e1 σ1 a1 B1 hh1 h1=>?_))
    cases e1 with
    | exit id=>cases h1
    | goto id=>cases h1
    | ret=>cases h1
    | normal =>
    refine wpIn_seq (ZgK hG hh1 h1 fun e2 σ2 a2 B2 hh2 h2=>?_)
    cases e2 with
    | goto id=>cases h2
    | ret=>cases h2
    | exit id =>
      cases id with
      | succ id=>cases h2
      | zero =>
        have h2:some (false,[])=some rr:=h2
        have h2:=Option.some.inj h2
        have hnone:els[i]?=none:=by
          cases hx:els[i]? with
          | none=>rfl
          | some x =>
            rw [hx] at hrr
            simp only at hrr
            split at hrr <;> rw [hrr] at h2 <;> cases h2
        have hi:i=els.length:=by
          have:=List.getElem?_eq_none_iff.1 hnone
          omega
        have hJe:=hJ _ _ _ _ hJi (ZfX hh2)
        rw [show cnt i=((els.filter p).map enc).length by rw [hi];exact hcnt] at hJe
        show Exit.inBlock 0 Q0 (.exit 0) a2 B2
        exact fin (Zoe hh2) (.inl ⟨_,hJe⟩)
    | normal =>
    refine wpIn_seq (wpIn_block (wpIn_seq (ZgK hG hh2 h2 fun e3 σ3 a3 B3 hh3 h3=>?_)))
    cases e3 with
    | exit id=>cases h3
    | goto id=>cases h3
    | ret=>cases h3
    | normal =>
    refine wpIn_seq (wpIn_region_list ?_)
    rw [show ops3.toList=ops3.toList.take 4++ops3.toList.drop 4 from (List.take_append_drop 4 _).symm]
    refine Zfm hG (Zba hG depth) Stays.triv _ hh3 h3 fun σ4 a4 B4 hh4 h4=>?_
    split at h4
    case h_2=>cases h4
    rename_i b hb
    cases b with
    | false =>
      simp only [cond_false] at h4
      refine ZfU hG (Zba hG depth) Stays.triv _ (hh4.like (Zm2 hb)) h4 fun σ5 a5 B5 hh5 h5=>?_
      refine ZgK hG hh5 h5 fun e6 σ6 a6 B6 hh6 h6=>?_
      cases e6 with
      | exit id=>cases h6
      | goto id=>cases h6
      | ret=>cases h6
      | normal =>
      refine ZgK hG hh6 h6 fun e7 σ7 a7 B7 hh7 h7=>?_
      cases e7 with
      | exit id=>cases h7
      | goto id=>cases h7
      | ret=>cases h7
      | normal =>
      have h7:=Option.some.inj h7
      cases hx:els[i]? with
      | none=>rw [hx] at hrr;rw [hrr] at h7;cases h7
      | some x =>
        rw [hx] at hrr
        simp only at hrr
        split at hrr
        . rw [hrr] at h7;cases h7
        . rename_i hpx
          rw [hrr] at h7
          have hl : [0,2,6,7,8].map (look σ7.tm)=[.cst yv,q2,qL,.i els.length,.i ((i+1:Nat):Int)]:=congrArg Prod.snd h7
          have hg7:=ZfX hh7
          have hc1:cnt (i+1)=cnt i:=by
            have:=Zpt (p:=p) hx
            rw [if_neg hpx] at this
            exact this
          refine hnext (List.getElem?_eq_some_iff.1 hx).1 _ a7 B7 (ext (headOf hh7 hl)) ?_ (extlt hlt hg7)
          rw [hc1]
          exact hJ _ _ _ _ hJi hg7
    | true =>
      simp only [cond_true] at h4
      have hsz:ops3.toList.length=9:=by simpa using hops
      rw [Zxu hsz]
      refine Zfm hG (Zba hG depth) Stays.triv _ (hh4.like (Zm2 hb)) h4 fun σ5 a5 B5 hh5 h5=>?_
      have h5:=Option.some.inj h5
      cases hx:els[i]? with
      | none=>rw [hx] at hrr;rw [hrr] at h5;cases h5
      | some x =>
      rw [hx] at hrr
      simp only at hrr
      split at hrr
      case isFalse=>rw [hrr] at h5;cases h5
      rename_i hpx
      rw [hrr] at h5
      have hl : [15,0,2,6,7,8,16,17].map (look σ5.tm)=[.bool true,.cst yv,q2,qL,.i els.length,.i (i:Int),.cst yv,argOf x]:=congrArg Prod.snd h5
      have hilt:i<els.length:=(List.getElem?_eq_some_iff.1 hx).1
      have hg5:=ZfX hh5
      obtain ⟨T1,hT1⟩:∃ T1,T1=fun b=>T0 b\/B.heap.size<=b/\b<B5.heap.size:=⟨_,rfl⟩
      have hb5:Bare (fun b=>S b\/T1 b) nt ((15,.bool true)::tmI i) a5 B5:=by rw [hT1];exact ext (next5 hh5 hl rfl)
      have hlt5:∀ b,S b\/T1 b->b<B5.heap.size:=by rw [hT1];exact extlt hlt hg5
      have hJ5:J (cnt i) T1 B5:=by rw [hT1];exact hJ _ _ _ _ hJi hg5
      have hl2:=hl
      simp only [List.map_cons,List.map_nil,List.cons.injEq,and_true] at hl2
      obtain ⟨e15,_,_,_,_,_,e16,e17⟩:=hl2
      obtain ⟨mu5,hr5,_⟩:=hh5
      have hv16:a5.eval (.tmp 16)=.func (.yield l) #[] #[]:=by
        have:=hr5.tm 16 (by omega)
        rw [e16] at this
        have this:a5.tmps.getD 16 undef=yv:=this
        rw [<- hyv]
        exact this
      have hv17 : #[a5.eval (.tmp 17)]=enc x:=by
        have:=hr5.tm 17 (by omega)
        rw [e17] at this
        exact henc _ _ _ this
      have hyl:=Zmv hr5 h3d e15
      rw [Zha]
      refine Zgn (by unfold Region.wanted;rw [h6g];show (yielded ops3 a5.tmps 3 == some true)=true;rw [hyl];rfl) (ZAv h6 h6c h6a hv16 ?_)
      rw [hv17]
      obtain ⟨fy,ty,ay,by',hyr,hround⟩:=hY (cnt i) (enc x) T1 B5 (by rw [List.getElem?_map,Zsa hx hpx];rfl) hJ5
      refine ⟨fy,ty,ay,by',hyr,hround.mono fun e B6 he=>?_⟩
      obtain ⟨he,hkeep⟩:=he
      have hlt6:∀ b,S b\/T1 b->b<B6.heap.size:=by
        intro b hb
        have h1:=hlt5 b hb
        have e:=hkeep b hb
        have h2:B5.heap[b]?=some (B5.heap[b]'h1):=Array.getElem?_eq_getElem h1
        rw [h2] at e
        exact (Array.getElem?_eq_some_iff.1 e).1
      have hb6:∀ q:Bool,Bare (fun b=>S b\/T1 b) nt ((18,.bool q)::(15,.bool true)::tmI i) (a5.put (ops3.toList.getD 6 default).dst (.bool q)) B6:=by
        intro q
        rw [h6d]
        refine ⟨hb5.defers,by show (a5.tmps.setIfInBounds 18 (.bool q)).size=nt;simp [hb5.size],fun z hz=>?_⟩
        rcases List.mem_cons.1 hz with rfl | hz
        . refine ⟨by simp only;omega,?_⟩
          show (a5.tmps.setIfInBounds 18 (.bool q)).getD 18 undef=.bool q
          have hs:18<a5.tmps.size:=by rw [hb5.size];omega
          simp [Array.getD,hs]
        . obtain ⟨k1,k2⟩:=hb5.val z hz
          refine ⟨k1,?_⟩
          have hne:z.1≠18:=by
            simp only [tmI,List.mem_cons,List.not_mem_nil,or_false] at hz
            rcases hz with rfl | rfl | rfl | rfl | rfl | rfl <;> simp
          have hzf:z.2.frozen=true:=by
            simp only [tmI,List.mem_cons,List.not_mem_nil,or_false] at hz
            rcases hz with rfl | rfl | rfl | rfl | rfl | rfl <;> first | rfl | exact hq2 | exact hqL
          have e:(a5.put (some 18) (.bool q)).tmps.getD z.1 undef=a5.tmps.getD z.1 undef:=by
            show (a5.tmps.setIfInBounds 18 (.bool q)).getD z.1 undef=_
            simp [Array.getD_eq_getD_getElem?,Array.getElem?_setIfInBounds_ne (Ne.symm hne)]
          rw [e]
          exact Bare.later hkeep hlt5 hzf k2
      rcases he with ⟨rfl,hJ6⟩ | ⟨rfl,hJ6⟩
      . refine ⟨_,rfl,?_⟩
        have hq:=hpost yv i true hilt
        rw [if_pos rfl] at hq
        unfold ZpM at hq
        refine ZfU hG (Zba hG depth) Stays.triv _ (hb6 true).holds hq fun σ7 a7 B7 hh7 h7=>?_
        refine ZgK hG hh7 h7 fun e8 σ8 a8 B8 hh8 h8=>?_
        cases e8 with
        | exit id=>cases h8
        | goto id=>cases h8
        | ret=>cases h8
        | normal =>
        refine ZgK hG hh8 h8 fun e9 σ9 a9 B9 hh9 h9=>?_
        cases e9 with
        | exit id=>cases h9
        | goto id=>cases h9
        | ret=>cases h9
        | normal =>
        have h9:=Option.some.inj (Option.some.inj h9)
        have hg9:=ZfX hh9
        have hc1:cnt (i+1)=cnt i+1:=by
          have:=Zpt (p:=p) hx
          rw [if_pos hpx] at this
          exact this
        refine hnext hilt _ a9 B9 (ext (headOf hh9 h9)) ?_ (extlt hlt6 hg9)
        rw [hc1]
        exact hJ _ _ _ _ hJ6 hg9
      . refine ⟨_,rfl,?_⟩
        have hq:=hpost yv i false hilt
        rw [if_neg (by simp)] at hq
        unfold ZpM at hq
        refine ZfU hG (Zba hG depth) Stays.triv _ (hb6 false).holds hq fun σ7 a7 B7 hh7 h7=>?_
        refine ZgK hG hh7 h7 fun e8 σ8 a8 B8 hh8 h8=>?_
        cases e8 with
        | exit id=>cases h8
        | goto id=>cases h8
        | ret=>exact fin (Zoe hh8) (.inr (hJx _ _ hJ6 (ZfX hh8)))
        | normal =>
        refine ZgK hG hh8 h8 fun e9 σ9 a9 B9 hh9 h9=>?_
        cases e9 with
        | exit id=>cases h9
        | goto id=>cases h9
        | ret=>cases h9
        | normal=>cases h9
  have main:∀ (n i:Nat) (T0:Nat->Prop) (a:Act) (B:World),i+n=els.length->Bare (fun b=>S b\/T0 b) nt (tmI i) a B->J (cnt i) T0 B->(∀ b,S b\/T0 b->b<B.heap.size) ->
      Zd6 none V.P C (Exit.inBlock 0 Q0) a B:=by
    intro n
    induction n with
    | zero=>intro i T0 a B hin h1 h2 h3;exact round i T0 a B (by omega) h1 h2 h3 (fun h=>by omega)
    | succ n ih=>intro i T0 a B hin h1 h2 h3;exact round i T0 a B (by omega) h1 h2 h3 (fun _ T1 a1 B1 k1 k2 k3=>ih (i+1) T1 a1 B1 (by omega) k1 k2 k3)
  refine calls_of_wp hf hbody (wpIn_wide.1 (?_:Code.wpIn Fence.wide 0 V.P _ Q0 _ W))
  refine wpIn_seq (wpIn_region_list ?_)
  have hm0:Mem W (bx S W):=⟨fun _=>rfl,fun _ _ _ h=>(by cases h),fun _ _ h=>(by cases h),Below.refl _ _,fun b hb=>.inl (.inr hb)⟩
  rw [hnt]
  have hst:=Zfn (nt:=nt) (mu:=fun _=>none) hm0 hargs (by simp;omega)
  refine ZfU hG (Zba hG depth) Stays.triv _ (J:=T) ⟨_,hst,trivial⟩ (h0 yv) fun σ1 a1 B1 hh1 h1=>?_
  have h1:=Option.some.inj h1
  have hg1:=ZfX hh1
  refine wpIn_block (Zgv ?_)
  have hJ1:=hJ _ _ _ _ hJ0 hg1
  refine main els.length 0 (fun b=>False\/W.heap.size<=b/\b<B1.heap.size) a1 B1 (by omega) ?_ hJ1 (fun b hb=>?_)
  . have e:(fun b=>S b\/(False\/W.heap.size<=b/\b<B1.heap.size))=fun b=>S b\/W.heap.size<=b/\b<B1.heap.size:=by funext b;rw [false_or]
    rw [e]
    exact headOf hh1 h1
  . have:=hg1.size
    rcases hb with hb | hb | hb
    . have:=hSW b hb;omega
    . exact hb.elim
    . exact hb.2
end
def ZaW:Code->Code
 | .seq a _=>a
 | _=>.skip
def Zax:Code->Code
 | .seq _ b=>b
 | _=>.skip
def cBlk:Code->Code
 | .block _ c=>c
 | _=>.skip
def ZoC:Code->Code
 | .loop c=>c
 | _=>.skip
def cOps:Code->Array Oper
 | .region _ o _=>o
 | _=>#[]
def Ztm (o:Oper):Go.Call:=match o.op with
 | .call c=>c
 | _=>default
def Zg7 (P:Program) (f:FuncId):Code:=match (P.funcs[f]?).bind (·.body) with
 | some c=>c
 | none=>.skip
def AV.pln:AV->Bool
 | .int _ _ | .bool _ | .str _=>true
 | _=>false
def Zoz:AV->Value
 | .int k n=>.int k n
 | .bool b=>.bool b
 | .str s=>.string s
 | _=>undef
theorem ZDH {c:Cx} {v:AV} (h:v.pln=true):V c v (Zoz v):=by cases v <;> first | rfl | cases h
theorem ZDZ {c:Cx} {v:AV} {u:Value} (h:v.pln=true) (hv:V c v u):u=Zoz v:=by cases v <;> first | exact hv | cases h
theorem ZxW {c:Cx}:∀ {vs:List AV},vs.all AV.pln=true->VL c vs (vs.map Zoz)
 | [],_=>trivial
 | v :: vs, h => by
   simp only [List.all_cons,Bool.and_eq_true] at h
   exact ⟨ZDH h.1,ZxW h.2⟩
theorem ZxX {c:Cx}:∀ {vs:List AV} {us:List Value},vs.all AV.pln=true->VL c vs us->us=vs.map Zoz
 | [],us,_,h=>Zbo h
 | v :: vs, us, h, hv => by
   simp only [List.all_cons,Bool.and_eq_true] at h
   obtain ⟨u,us',rfl,h1,h2⟩:=Za6 hv
   rw [ZDZ h.1 h1,ZxX h.2 h2]
   rfl
def Zqy (cs:List AV):Array Value:=#[.agg (cs.map Zoz).toArray]
theorem ZwD {c:Cx} {cs:List AV} (h:cs.all AV.pln=true):VL c [.agg cs] (Zqy cs).toList:=⟨⟨_,rfl,ZxW h⟩,trivial⟩
theorem ZlG {c:Cx} {cs:List AV} {u:Value} (h:cs.all AV.pln=true) (hv:V c (.agg cs) u) : #[u]=Zqy cs:=by
 obtain ⟨vs,rfl,hv⟩:=hv
 have:=ZxX h hv
 unfold Zqy
 rw [<- this]
theorem ZkN {i:Nat} (h:i<=4294967296):Zac .i64 ((i:Int)+1)=((i+1:Nat):Int):=by
 rw [Zbv]
 simp [IntKind.wrap,IntKind.signed,IntKind.bits]
 omega
def ZuI (τ:Ty) (f g:FuncId) (p:Int->τ.den->Bool) (hp:∀ x,(τ.encA x).all AV.pln=true):ItV where
 κ:=List τ.den×Int
 okB q:=fewB q.1.length
 val q:=.fn f [.cptr [.lst τ q.1] 0,.cptr [.fn g [.cptr [.int .i64 q.2] 0]] 0]
 decG
   | .fn f' [.cptr [.lst σ l] 0,.cptr [.fn g' [.cptr [.int .i64 k] 0]] 0]=>bif Nat.beq f' f && Nat.beq g' g then (match Ty.eqTy σ τ with | some ⟨h⟩=>some (h ▸ l,k) | none=>none) else none
   | _=>none
 lawG:=by
   intro v a h
   split at h
   . rename_i f' σ l g' k
     cases hb:(Nat.beq f' f && Nat.beq g' g) with
     | false=>rw [hb] at h;cases h
     | true =>
       rw [hb] at h
       simp only [Bool.and_eq_true] at hb
       have h1:=Nat.eq_of_beq_eq_true hb.1
       have h2:=Nat.eq_of_beq_eq_true hb.2
       subst h1 h2
       simp only [cond_true] at h
       split at h
       . rename_i hh _
         subst hh
         obtain rfl:=Option.some.inj h
         rfl
       . cases h
   . cases h
 α:=τ.den
 els q:=q.1.filter (p q.2)
 par e:=[.agg (τ.encA e)]
 enc e:=Zqy (τ.encA e)
 law c x:=ZwD (hp x)
theorem ZrH (a b:Bool):(bif a then some b else some false)=some (a && b):=by cases a <;> rfl
theorem ZpD {α:Type} {L:List α} {d:α} {i:Nat} {p:α->Bool} {fn:α->Option Bool} (hfn:∀ x,fn x=some (p x)) (hL:L.length<=4294967296) {A B:α->Bool×List AV} {A' B':Bool×List AV}
   (h1:∀ x,L[i]?=some x->A (L.getD (i:Int).toNat d)=A x) (h2:∀ x,L[i]?=some x->Zac .i64 ((i:Int)+1)=((i+1:Nat):Int)->B (L.getD (i:Int).toNat d)=B') :
   (bif decide ((i:Int)<(L.length:Int)) then (bif decide ((i:Int)<(L.length:Int)) then
     (match fn (L.getD (i:Int).toNat d) with | some b=>bif b then some (A (L.getD (i:Int).toNat d)) else some (B (L.getD (i:Int).toNat d)) | none=>none) else none) else some A') =
   match L[i]? with
   | none=>some A'
   | some x=>if p x=true then some (A x) else some B':=by
 by_cases h:i<L.length
 . have hx:L[i]?=some (L[i]'h):=List.getElem?_eq_getElem h
   have hg:L.getD (i:Int).toNat d=L[i]'h:=by rw [Int.toNat_natCast,List.getD_eq_getElem?_getD,hx,Option.getD_some]
   have e1:decide ((i:Int)<(L.length:Int))=true:=decide_eq_true (by omega)
   have e3:=h2 _ hx (ZkN (by omega))
   rw [e1,hx]
   simp only [cond_true]
   rw [hfn,e3,h1 _ hx,hg]
   cases hp:p (L[i]'h) <;> simp
 . have hx:L[i]?=none:=List.getElem?_eq_none (by omega)
   have e1:decide ((i:Int)<(L.length:Int))=false:=decide_eq_false (by omega)
   rw [e1,hx]
   rfl
end Go.Proofs.Mill
namespace Go.Proofs.Mill
open Go.RowKit
section
variable {w0 w w':World} {ok ok':Nat->Prop} {nt:Nat} {σ:St} {a:Act} {mu mu':Nat->Option Nat} {ob:List (Nat×AV)} {ds:List Deferred} {bx:Nat}
theorem R.goK {ob':List (Nat×AV)} (hr:R w0 ok nt ds σ a w mu) (hm:Mem w0 (cx w' ob' mu' ok')) (hmono:MonoB (cx w σ.ob mu ok) (cx w' ob' mu' ok')):R w0 ok' nt ds ⟨σ.tm,ob'⟩ a w' mu' :=
 ⟨hm,fun t ht=>hmono.v _ _ (hr.tm t ht),hr.far,hr.size,hr.defers,hmono.marks hr.marks⟩
theorem R.wide (hr:R w0 ok' nt ds σ a w mu) (h:∀ b,ok' b->ok b):R w0 ok nt ds σ a w mu:=by
 have hmono:MonoB (cx w σ.ob mu ok') (cx w σ.ob mu ok):=Zfr (fun b hb=>⟨⟨h b hb.1,hb.2.1,hb.2.2⟩,rfl⟩) (fun id=>.inr (.inr (.inl ⟨rfl,rfl,fun _ _=>rfl⟩)))
 exact hr.goK ⟨fun id=>(hr.mem.obj id).keepB hmono rfl rfl (fun _ _=>rfl),hr.mem.inj,hr.mem.base,hr.mem.ext,fun b hb=>(hr.mem.okn b hb).elim (fun x=>.inl (h b x)) .inr⟩ hmono
theorem R.beyond (hr:R w0 (fun b=>ok b/\b≠bx) nt ds σ a w mu) (hb:w0.heap.size<=bx) (ht:Turned w w' fun k=>k=bx):R w0 (fun b=>ok b/\b≠bx) nt ds σ a w' mu:=by
 have hown:∀ id b,mu id=some b->b≠bx:=fun id b h=>(hr.mem.own_ok (id:=id) h).2
 have hmono:MonoB (cx w σ.ob mu fun b=>ok b/\b≠bx) (cx w' σ.ob mu fun b=>ok b/\b≠bx):=Zfr (fun b hb=>⟨⟨hb.1,Nat.lt_of_lt_of_le hb.2.1 ht.size,hb.2.2⟩,ht.block b hb.2.1 (fun e=>hb.1.2 e)⟩)
   (fun id=>.inr (.inr (.inl ⟨rfl,rfl,fun b hb=>ht.block b (hr.mem.lt hb) (hown id b hb)⟩)))
 exact hr.goK ⟨fun id=>(hr.mem.obj id).keepB hmono rfl rfl (fun b hb=>ht.block b (hr.mem.lt hb) (hown id b hb)),hr.mem.inj,hr.mem.base,ht.ext hr.mem.ext (fun k e=>by subst e;exact hb),hr.mem.okn_of rfl ht.size fun _ _ h2=>h2⟩ hmono
def AV.lone:AV->Bool
 | .undef | .int _ _ | .bool _ | .str _ | .own _ | .ptr _ _=>true
 | _=>false
def AV.loneOb:AV->Bool
 | .undef | .dead | .gone _=>true
 | .row _ τ _=>τ.flat
 | .box cs=>cs.all AV.lone
 | _=>false
def St.lone (σ:St):Bool:=σ.tm.all (fun p=>p.2.lone) && σ.ob.all fun p=>p.2.loneOb
theorem ZBg (hl:∀ id,(look ob id).loneOb=true) {v:AV} {u:Value} (hv:v.lone=true) (h:Mill.V (cx w ob mu ok) v u):Mill.V (cx w ob mu ok') v u:=by
 cases v <;> try (cases hv;done)
 case own id =>
   have h:OwnV (cx w ob mu ok) id u:=h
   show OwnV (cx w ob mu ok') id u
   have hi:=hl id
   unfold OwnV at h ⊢
   change (match look ob id with | .row e τ xs=>_ | .frz τ xs=>_ | .dead=>_ | .gone _=>_ | _=>_) at h
   show (match look ob id with | .row e τ xs=>_ | .frz τ xs=>_ | .dead=>_ | .gone _=>_ | _=>_)
   cases hob:look ob id <;> rw [hob] at h hi <;> first | exact h | cases hi
 all_goals exact h
theorem Zy4 (hl:∀ id,(look ob id).loneOb=true):∀ {vs:List AV} {us:List Value},vs.all AV.lone=true->VL (cx w ob mu ok) vs us->VL (cx w ob mu ok') vs us
 | [],[],_,_=>trivial
 | v :: vs, u :: us, hv, h => by
   simp only [List.all_cons,Bool.and_eq_true] at hv
   exact ⟨ZBg hl hv.1 h.1,Zy4 hl hv.2 h.2⟩
 | [],_::_,_,h=>h.elim
 | _::_,[],_,h=>h.elim
theorem ZsG {l:List (Nat×AV)} {p:AV->Bool} (hu:p .undef=true) (h:(l.all fun q=>p q.2)=true) (i:Nat):p (look l i)=true:=by
 rcases ZgG l i with h1 | ⟨q,hq,_,h2⟩
 . rw [h1];exact hu
 . rw [h2];exact List.all_eq_true.1 h q hq
theorem ZDQ (hr:R w0 ok nt [] σ a w mu) (hl:σ.lone=true) (hs:∀ b,w0.heap.size<=b->ok b->ok' b\/(b<w.heap.size/\∀ id,mu id≠some b)):R w0 ok' nt [] σ a w mu:=by
 unfold St.lone at hl
 rw [Bool.and_eq_true] at hl
 have ho:∀ id,(look σ.ob id).loneOb=true:=ZsG rfl hl.2
 refine ⟨⟨fun id=>?_,hr.mem.inj,hr.mem.base,hr.mem.ext,fun b hb=>(hr.mem.okn b hb).elim (hs b hb) .inr⟩,fun t ht=>ZBg ho (ZsG rfl hl.1 t) (hr.tm t ht),hr.far,hr.size,hr.defers,Marks.nil _ _⟩
 have h:=hr.mem.obj id
 have hi:=ho id
 unfold ObjOK at h ⊢
 change (match look σ.ob id with | .box cs=>_ | .row e τ xs=>_ | .undef=>_ | .dead=>_ | .gone _=>_ | .frz _ _=>_ | _=>_) at h
 show (match look σ.ob id with | .box cs=>_ | .row e τ xs=>_ | .undef=>_ | .dead=>_ | .gone _=>_ | .frz _ _=>_ | _=>_)
 cases hob:look σ.ob id <;> rw [hob] at h hi <;> try first | exact h | cases hi
 case box cs =>
   obtain ⟨b,cur,e,h1,h2,h3⟩:=h
   exact ⟨b,cur,e,h1,h2,Zy4 ho hi h3⟩
 case row e τ xs =>
   rcases h with h | ⟨b,cap,cur,h1,h2,h3,h4,h5⟩
   . exact .inl h
   . exact .inr ⟨b,cap,cur,h1,h2,h3,h4,ZnQ hi xs h5⟩
theorem R.give {id b:Nat} {cs:List AV} (hr:R w0 ok nt ds σ a w mu) (hid:look σ.ob id=.box cs) (hb:mu id=some b) (hd:ds=[]) :
   R w0 (fun k=>ok k/\k≠b) nt ds ⟨σ.tm,(id,.dead)::σ.ob⟩ a w (upd mu id none):=by
 have hmono:MonoB (cx w σ.ob mu ok) (cx w ((id,.dead)::σ.ob) (upd mu id none) fun k=>ok k/\k≠b):=by
   refine Zfr (fun k hk=>⟨⟨⟨hk.1,fun e=>hk.2.2 id (by rw [e];exact hb)⟩,hk.2.1,fun j=>?_⟩,rfl⟩) (fun j=>?_)
   . by_cases ej:j=id
     . show upd mu id none j≠some k
       subst ej;rw [Zbw];simp
     . show upd mu id none j≠some k
       rw [Zbp _ _ ej];exact hk.2.2 j
   . by_cases ej:j=id
     . subst ej;exact .inr (.inl (look_eq _ _ _))
     . exact .inr (.inr (.inl ⟨ZaQ _ _ (Ne.symm ej),Zbp _ _ ej,fun _ _=>rfl⟩))
 refine hr.goK ⟨fun j=>?_,fun i j k hi hj=>?_,fun j k hj=>?_,hr.mem.ext,fun k hk=>?_⟩ hmono
 . by_cases ej:j=id
   . subst ej
     unfold ObjOK
     show (match look ((j,AV.dead)::σ.ob) j with | .box cs=>_ | .row e τ xs=>_ | .undef=>_ | .dead=>_ | .gone _=>_ | .frz _ _=>_ | _=>_)
     rw [look_eq]
     exact Zbw _ _ _
   . exact (hr.mem.obj j).keepB hmono (ZaQ _ _ (Ne.symm ej)) (Zbp _ _ ej) fun _ _=>rfl
 . have hi':upd mu id none i=some k:=hi
   have hj':upd mu id none j=some k:=hj
   by_cases ei:i=id
   . rw [ei,Zbw] at hi';cases hi'
   . by_cases ej:j=id
     . rw [ej,Zbw] at hj';cases hj'
     . rw [Zbp _ _ ei] at hi';rw [Zbp _ _ ej] at hj';exact hr.mem.inj i j k hi' hj'
 . have hj':upd mu id none j=some k:=hj
   by_cases ej:j=id
   . rw [ej,Zbw] at hj';cases hj'
   . rw [Zbp _ _ ej] at hj';exact hr.mem.base j k hj'
 . have none_of:(∀ j,mu j≠some k)->∀ j,upd mu id none j≠some k:=fun h j=>by
     by_cases ej:j=id
     . subst ej;rw [Zbw];simp
     . rw [Zbp _ _ ej];exact h j
   by_cases ek:k=b
   . refine .inr ⟨?_,fun j=>?_⟩
     . rw [ek];exact hr.mem.lt hb
     . show upd mu id none j≠some k
       by_cases ej:j=id
       . subst ej;rw [Zbw];simp
       . rw [Zbp _ _ ej]
         intro e
         rw [ek] at e
         exact ej (hr.mem.inj j id b e hb)
   . rcases hr.mem.okn k hk with h | ⟨h1,h2⟩
     . exact .inl ⟨h,ek⟩
     . exact .inr ⟨h1,none_of h2⟩
end
def ZmP (P:Program) (f:FuncId) (lb:Array Value) (ys:List (Array Value)) (S:Nat->Prop) (bx:Nat) (w:World):Prop :=
 ∀ (l : Nat) (J : Nat -> (Nat -> Prop) -> World -> Prop) (W : World), Grown w W -> bx < l ->
   (∀ k T A B,J k T A->Turned A B (fun k=>k=bx)->J k (fun b=>T b\/A.heap.size<=b/\b<B.heap.size) B) ->
   (∀ k x T A,ys[k]?=some x->J k T A->YieldAt Fence.wide 0 P l x A fun e B=>(e=.returned (.bool true)/\J (k+1) T B)/\ZoN (fun b=>(S b\/T b)\/b=bx) A B) ->
   J 0 (fun _=>False) W->Calls P f (#[.func (.yield l) #[] #[]]++lb) W fun e B=>(∃ v,e=.returned v)/\∃ T,J ys.length T B
section
variable {V:Env} {w0 w:World} {ok:Nat->Prop} {nt:Nat} {a:Act} {mu:Nat->Option Nat}
theorem Zy2 {rounds depth:Nat} {gt bx:Nat} {ps:Array Tmp} {x y:Code} {kds:List (Nat×Kd)} {σ α:Type} {enc:σ->List AV} {par:α->List AV} {encE:α->Array Value} {dec:List AV->Option σ}
    {step:σ->α->Option (σ⊕Empty)} {f:FuncId} {lb:Array Value} {els:List α} {st0 stN:σ} {Q:Exit->Act->World->Prop}
    (hG:Zai V) (hlaw:∀ c x,VL c (par x) (encE x).toList) (hps:∀ p∈ps.toList,p<nt) (hpl:∀ e,(par e).length=ps.size)
    (hdecS:∀ hd st,dec hd=some st->hd=enc st) (hlone:∀ st,(build kds (enc st)).lone=true)
    (hstep:∀ st e,evR V (inlK V rounds depth) nt rounds x y (Zf6 (ps.toList.zip (par e)) (build kds (enc st))) (fun e τ=>Zdn kds (fun _=>[]) dec (fun _ _=>(none:Option Empty)) e ⟨(build kds (enc st)).tm,τ.ob⟩)=step st e)
    (hr0:R w0 (fun b=>ok b/\b≠bx) nt [] (build kds (enc st0)) a w mu) (hokx:ok bx) (hbx:w0.heap.size<=bx) (hbl:bx<w.heap.size)
    (hgv:a.eval (.tmp gt)=.func (.func f) #[] lb) (hent:Zd9 V.P f)
    (hiter:ZmP V.P f lb (els.map encE) (cx w (build kds (enc st0)).ob mu fun b=>ok b/\b≠bx).okb bx w) (hfold:Zcq step els st0=some (.inl stN))
    (hQ:∀ a' w',Zdc anyD T w0 ok nt (build kds (enc stN)) a' w'->Q .normal a' w') :
    (Code.rangeFunc (.tmp gt) ps x y).wpIn (Za4 none) 0 V.P Q a w:=by
  obtain ⟨okP,hokP⟩:∃ okP:Nat->Prop,okP=fun b=>ok b/\b≠bx:=⟨_,rfl⟩
  rw [<- hokP] at hr0 hiter
  have hnotx:¬okP bx:=by rw [hokP];exact fun h=>h.2 rfl
  have hsub:∀ b,okP b->ok b:=by rw [hokP];exact fun b h=>h.1
  refine wpIn_rangeFunc ?_
  intro fn _
  show ∃ (l:Nat) (mark:List Deferred) (w₁:World) (d:Deferred) (w₁':World) (f:FuncId) (args:Array Value) (w₂:World),
      (Instr.enterLoop fn a.tmps ps x y none).run V.P w=.ok (l,mark) w₁/\_
  obtain ⟨rec,hrec⟩:∃ rec:LoopState->Option Code->Loop,rec=fun st pe=>{ state:=st,pending:=pe,fn,tmps:=a.tmps,params:=ps,assign:=x,body:=y,defers:=w.heap.size }:=⟨_,rfl⟩
  obtain ⟨W1,hW1⟩:∃ W1,(w.alloc (.deferred (some []))).alloc (.loop (rec .ready none))=W1:=⟨_,rfl⟩
  have hs1:W1.heap.size=w.heap.size+2:=by rw [<- hW1];simp
  have hL1:W1.heap[w.heap.size+1]?=some (.loop (rec .ready none)):=by
    rw [<- hW1];have:=World.alloc_heap_new (w.alloc (.deferred (some []))) (.loop (rec .ready none));rwa [World.size_alloc] at this
  have hK1:W1.heap[w.heap.size]?=some (.deferred (some [])):=by
    rw [<- hW1];exact (Below.heap_alloc _ _ _ (by simp)).trans (World.alloc_heap_new w _)
  have hgr:Grown w W1:=by
    refine ⟨by rw [<- hW1];rfl,by rw [<- hW1];rfl,by rw [<- hW1];rfl,by omega,fun k hk _=>?_⟩
    rw [<- hW1]
    exact (Below.heap_alloc _ _ k (by simp;omega)).trans (Below.heap_alloc _ _ k hk)
  have hw0:w0.heap.size<=w.heap.size:=hr0.mem.ext.size
  refine ⟨w.heap.size+1,[{ target:=.collected w.heap.size,args:=#[] }],W1,{ target:=.fn (.func f) lb,args:=#[.func (.yield (w.heap.size+1)) #[] #[]] },W1,f,
    #[.func (.yield (w.heap.size+1)) #[] #[]]++lb,W1,?_,?_,fun _ _=>trivial,?_,fun hd=>(by cases hd),ZjO ?_⟩
  . rw [<- hW1,hrec];exact run_enterLoop_outer _ _ _ _ _
  . simp [resolve,rangeCall,hgv,Deferred.ofValue]
    rfl
  . simp [invoke,Zh4 hent]
  obtain ⟨l,hl⟩:∃ l,l=w.heap.size+1:=⟨_,rfl⟩
  obtain ⟨D,hD⟩:∃ D,D=w.heap.size:=⟨_,rfl⟩
  obtain ⟨S,hS⟩:∃ S,S=(cx w (build kds (enc st0)).ob mu okP).okb:=⟨_,rfl⟩
  rw [<- hl,<- hD]
  rw [<- hl] at hL1
  rw [<- hD] at hK1
  rw [<- hS] at hiter
  have hSl:∀ b,S b->b≠l:=by
    intro b hb e
    rw [hS] at hb
    have:b<w.heap.size:=hb.2.1
    omega
  have hll:w0.heap.size<=l:=by omega
  have hlx:bx≠l:=by omega
  have hDx:D≠bx:=by omega
  let J:Nat->(Nat->Prop)->World->Prop:=fun k T W=>∃ st mu',Zcq step (els.drop k) st=some (.inl stN)/\R w0 okP nt [] (build kds (enc st)) a W mu'/\bx<W.heap.size /\
    ((∀ b,S b\/T b->b≠l/\(cx W (build kds (enc st)).ob mu' okP).okb b)/\(cx W (build kds (enc st)).ob mu' okP).okb l/\(cx W (build kds (enc st)).ob mu' okP).okb D)/\W.heap[l]?=some (.loop (rec .ready none))/\W.heap[D]?=some (.deferred (some []))
  have gok:∀ {A B:World} {ob:List (Nat×AV)} {mu:Nat->Option Nat} {b:Nat},Turned A B (fun k=>k=bx)->(cx A ob mu okP).okb b->(cx B ob mu okP).okb b:=fun hg hb=>⟨hb.1,Nat.lt_of_lt_of_le hb.2.1 hg.size,hb.2.2⟩
  have hJ:∀ k T A B,J k T A->Turned A B (fun k=>k=bx)->J k (fun b=>T b\/A.heap.size<=b/\b<B.heap.size) B:=by
    rintro k T A B ⟨st,mu',h1,h2,h2x,⟨h3,h4,h5⟩,h6,h7⟩ hg
    have old:∀ b,S b\/T b->b≠l/\(cx B (build kds (enc st)).ob mu' okP).okb b:=fun b hb=>⟨(h3 b hb).1,gok hg (h3 b hb).2⟩
    have h2':R w0 okP nt [] (build kds (enc st)) a B mu':=by
      subst hokP
      exact h2.beyond hbx hg
    refine ⟨st,mu',h1,h2',Nat.lt_of_lt_of_le h2x hg.size,⟨fun b hb=>?_,gok hg h4,gok hg h5⟩,(hg.block l h4.2.1 (Ne.symm hlx)).trans h6,(hg.block D h5.2.1 hDx).trans h7⟩
    rcases hb with hb | hb | ⟨hb1,hb2⟩
    . exact old b (.inl hb)
    . exact old b (.inr hb)
    . have hl':l<A.heap.size:=h4.2.1
      refine ⟨by omega,h2.mem.new_ok hb1,hb2,fun id e=>?_⟩
      have:b<A.heap.size:=h2.mem.lt e
      omega
  have hJ0:J 0 (fun _=>False) W1:=by
    have fresh:∀ b,w.heap.size<=b->b<W1.heap.size->(cx W1 (build kds (enc st0)).ob mu okP).okb b:=by
      intro b h1 h2
      refine ⟨hr0.mem.new_ok h1,h2,fun id e=>?_⟩
      have:=hr0.mem.lt e
      have:b<w.heap.size:=this
      omega
    have hgr':Turned w W1 (fun k=>k=bx):=⟨hgr.os,hgr.tape,hgr.output,hgr.size,fun k hk _=>hgr.block k hk (fun x=>x)⟩
    refine ⟨st0,mu,hfold,hr0.grow hgr,by omega,⟨fun b hb=>?_,fresh l (by omega) (by omega),fresh D (by omega) (by omega)⟩,hL1,hK1⟩
    rcases hb with hb | hb
    . refine ⟨hSl b hb,?_⟩
      rw [hS] at hb
      exact gok hgr' hb
    . exact hb.elim
  refine (hiter l J W1 hgr (by omega) hJ ?_ hJ0).mono ?_
  ·
    rintro k ex T A hk ⟨st,mu1,hf,hr1',hxA,⟨hB,hol,hoD⟩,hlA,hDA⟩
    rw [List.getElem?_map] at hk
    obtain ⟨e,he,rfl⟩:∃ e,els[k]?=some e/\encE e=ex:=by
      cases h:els[k]? with
      | none=>rw [h] at hk;cases hk
      | some e=>rw [h] at hk;exact ⟨e,rfl,Option.some.inj hk⟩
    have hdrop:els.drop k=e::els.drop (k+1):=by
      obtain ⟨hlt,hge⟩:=List.getElem?_eq_some_iff.1 he
      rw [List.drop_eq_getElem_cons hlt,hge]
    rw [hdrop] at hf
    have hr1:R w0 ok nt [] (build kds (enc st)) a A mu1:=hr1'.wide hsub
    have hmx:∀ id,mu1 id≠some bx:=fun id e=>hnotx (hr1'.mem.own_ok (id:=id) e)
    have up1:∀ b,(cx A (build kds (enc st)).ob mu1 okP).okb b->(cx A (build kds (enc st)).ob mu1 ok).okb b:=fun b hb=>⟨hsub b hb.1,hb.2.1,hb.2.2⟩
    have hokx1:(cx A (build kds (enc st)).ob mu1 ok).okb bx:=⟨hokx,hxA,hmx⟩
    have hlen:(encE e).size=ps.size:=by
      have:=(hlaw ⟨A,look (build kds (enc st)).ob,mu1,ok⟩ e).length
      rw [hpl] at this
      simpa using this.symm
    have hy:=run_yield (P:=V.P) (args:=encE e) hlA (by rw [hrec];exact hlen)
    rw [hrec] at hy
    refine ⟨fn,_,x,y,hy,roundIn_of_wpIn trivial ?_⟩
    obtain ⟨c1,hc1⟩:∃ c1,c1=cx A (build kds (enc st)).ob mu1 ok:=⟨_,rfl⟩
    have hres:∃ st',step st e=some (.inl st')/\Zcq step (els.drop (k+1)) st'=some (.inl stN):=by
      simp only [Zcq] at hf
      cases hs:step st e with
      | none=>rw [hs] at hf;cases hf
      | some res =>
        rw [hs] at hf
        cases res with
        | inl st'=>exact ⟨_,rfl,hf⟩
        | inr yx=>cases yx
    obtain ⟨st2,hs,hres⟩:=hres
    rw [<- hstep st e] at hs
    unfold evR at hs
    have hstart:R w0 ok nt [] (Zf6 (ps.toList.zip (par e)) (build kds (enc st))) { tmps:=(ps.zip (encE e)).foldl (fun t (p:Nat×Value)=>t.setIfInBounds p.1 p.2) a.tmps,defers:=[] } A mu1:=by
      have hz:(ps.toList.zip (par e)).map (·.1)=ps.toList:=List.map_fst_zip (by rw [hpl];simp)
      have hz2:(ps.toList.zip (par e)).map (·.2)=par e:=List.map_snd_zip (by rw [hpl];simp)
      have:=Zm3 (w0:=w0) (w:=A) (ok:=ok) (nt:=nt) (mu:=mu1) (ps.toList.zip (par e)) (encE e).toList (build kds (enc st)) a.tmps ⟨hr1.mem,hr1.tm,hr1.far,hr1.size,rfl,Marks.nil _ _⟩
        (fun p hp=>hps p.1 (List.of_mem_zip hp).1) (by rw [hz2];exact hlaw _ e)
      rw [hz] at this
      have e2:(ps.toList.zip (encE e).toList).foldl (fun t (p:Nat×Value)=>t.setIfInBounds p.1 p.2) a.tmps=(ps.zip (encE e)).foldl (fun t (p:Nat×Value)=>t.setIfInBounds p.1 p.2) a.tmps:=by
        rw [<- Array.foldl_toList,Array.toList_zip]
      rw [e2] at this
      exact this
    have hob0:∀ (l:List (Nat×AV)) (σ:St),(Zf6 l σ).ob=σ.ob:=by
      intro l
      induction l with
      | nil=>intro σ;rfl
      | cons p l ih=>intro σ;exact ih _
    have hj1:JR (build kds (enc st)).tm a c1 l (.loop (rec .ready none)) (cx A (Zf6 (ps.toList.zip (par e)) (build kds (enc st))).ob mu1 ok):=by
      rw [hob0,<- hc1]
      refine ⟨fun t ht=>?_,fun b hb=>hb,fun b _ _=>rfl,by rw [hc1];exact hlA⟩
      rw [hc1]
      exact hr1.tm t (by rw [<- hr1.size];exact ht)
    have hol':c1.okb l:=by rw [hc1];exact up1 l hol
    have fin:∀ (τ:St) (a3:Act) (w3:World) (hd':List AV) (st':σ),Zdc anyD (JR (build kds (enc st)).tm a c1 l (.loop { rec .ready none with state:=.busy })) w0 ok nt τ a3 w3 ->
        norm kds ⟨(build kds (enc st)).tm,τ.ob⟩=some hd'->hd'=enc st'->∃ W' mu',(Instr.endRound l none).run V.P w3=.ok (.bool true) W'/\R w0 okP nt [] (build kds hd') a W' mu'/\bx<W'.heap.size /\
          ((∀ b,S b\/T b->b≠l/\(cx W' (build kds hd').ob mu' okP).okb b)/\(cx W' (build kds hd').ob mu' okP).okb l/\(cx W' (build kds hd').ob mu' okP).okb D) /\
          W'.heap[l]?=some (.loop (rec .ready none))/\W'.heap[D]?=some (.deferred (some []))/\ZoN (fun b=>(S b\/T b)\/b=bx) A W':=by
      rintro τ a3 w3 hd' st' ⟨ds3,_,mu3,hr3,hj3⟩ hn hst'
      have hne:D≠l:=by omega
      have hR:R w0 ok nt [] ⟨(build kds (enc st)).tm,τ.ob⟩ a w3 mu3:=⟨hr3.mem,fun t ht=>hj3.val t (by rw [hr1.size];exact ht),hr1.far,hr1.size,hr1.defers,Marks.nil _ _⟩
      obtain ⟨mu4,hR4,hok4,hw4⟩:=ZmM (J:=fun c=>(∀ b,c1.okb b->c.okb b)/\c.w=w3) (fun c c' h1 h2 h3=>⟨fun b hb=>h1 b (h3.1 b hb),h2.trans h3.2⟩) ⟨mu3,hR,hj3.okb,rfl⟩ hn
      have hl3:w3.heap[l]?=some (.loop { rec .ready none with state:=.busy }):=hj3.rcd
      have hend:=run_endRound (P:=V.P) none hl3
      have hx4:(cx w3 (build kds hd').ob mu4 ok).okb bx:=hok4 bx (by rw [hc1];exact hokx1)
      have hR5:=hR4.turn (ZcT w3 l (.loop { { rec .ready none with state:=.busy } with state:=.ready,pending:=none })) hl3 rfl hll (fun _ h=>by cases h)
      have hRP:R w0 okP nt [] (build kds hd') a (w3.putObj l (.loop { { rec .ready none with state:=.busy } with state:=.ready,pending:=none })) mu4:=by
        refine ZDQ hR5 (by rw [hst'];exact hlone st') fun b _ hb=>?_
        by_cases e:b=bx
        . refine .inr ⟨?_,?_⟩
          . rw [e];simpa using hx4.2.1
          . rw [e];exact hx4.2.2
        . refine .inl ?_
          rw [hokP]
          exact ⟨hb,e⟩
      refine ⟨_,mu4,hend,hRP,by simpa using hx4.2.1,?_,?_,?_,?_⟩
      . have up:∀ b,b≠bx->c1.okb b->(cx (w3.putObj l (.loop { { rec .ready none with state:=.busy } with state:=.ready,pending:=none })) (build kds hd').ob mu4 okP).okb b:=by
          intro b hbx hb
          have:=hok4 b hb
          refine ⟨?_,by simpa using this.2.1,this.2.2⟩
          rw [hokP]
          exact ⟨this.1,hbx⟩
        have nx:∀ b,(cx A (build kds (enc st)).ob mu1 okP).okb b->b≠bx:=fun b hb e=>hnotx (e ▸ hb.1)
        exact ⟨fun b hb=>⟨(hB b hb).1,up b (nx b (hB b hb).2) (by rw [hc1];exact up1 b (hB b hb).2)⟩,up l (Ne.symm hlx) hol',up D hDx (by rw [hc1];exact up1 D hoD)⟩
      . rw [World.putObj_heap_same (Array.getElem?_eq_some_iff.1 hl3).1,hrec]
        rfl
      . rw [World.putObj_heap_other hne]
        refine (hj3.heap D (by rw [hc1];exact up1 D hoD) hne).trans ?_
        rw [hc1]
        exact hDA
      . intro b hb
        have hbl:b≠l:=by
          rcases hb with hb | hb
          . exact (hB b hb).1
          . rw [hb];exact hlx
        have hb1:c1.okb b:=by
          rw [hc1]
          rcases hb with hb | hb
          . exact up1 b (hB b hb).2
          . rw [hb];exact hokx1
        rw [World.putObj_heap_other hbl]
        refine (hj3.heap b hb1 hbl).trans ?_
        rw [hc1]
    refine ZfF (J:=JR (build kds (enc st)).tm a c1 l (.loop (rec .ready none))) (Δ:=anyD) (ro:=some l) hG (Zba hG depth) (JR.stays hol') (fun _ _ h=>by cases h) (fun _ _ h=>by cases h) x (fun _ _ _ h=>by cases h)
      ⟨[],trivial,mu1,hstart,hj1⟩ hs fun ex σ' a' w' hh' h'=>?_
    cases ex with
    | exit id=>cases h'
    | goto t=>cases h'
    | ret=>cases h'
    | normal =>
    simp only at h'
    obtain ⟨ds2,_,mu2,hr2,hj2⟩:=hh'
    have hl2:w'.heap[l]?=some (.loop (rec .ready none)):=hj2.rcd
    refine ⟨_,run_beginRound hl2 (by rw [hrec]),?_⟩
    have hr2':=hr2.turn (ZcT w' l (.loop { rec .ready none with state:=.busy })) hl2 rfl hll (ZmC hr2.marks hl2)
    have hj2':=hj2.turn (o':=.loop { rec .ready none with state:=.busy }) rfl
    refine ZfF (J:=JR (build kds (enc st)).tm a c1 l (.loop { rec .ready none with state:=.busy })) (Δ:=anyD) (ro:=some l) hG (Zba hG depth) (JR.stays hol') (fun _ _ h=>by cases h) (fun _ _ h=>by cases h) y (fun _ _ _ h=>by cases h)
      ⟨ds2,trivial,mu2,hr2',hj2'⟩ h' fun ex τ a3 w3 hh3 h3=>?_
    unfold Zdn at h3
    cases ex with
    | normal =>
      simp only at h3
      split at h3
      . cases h3
      rename_i hd' hn
      split at h3
      case h_2=>cases h3
      rename_i st' hst'
      obtain rfl:=Sum.inl.inj (Option.some.inj h3)
      obtain rfl:=hdecS _ _ hst'
      obtain ⟨W',mu',k1,k2,k2x,k3,k6,k7,k8⟩:=fin τ a3 w3 _ _ hh3 hn rfl
      exact ⟨_,W',k1,⟨rfl,st',mu',hres,k2,k2x,k3,k6,k7⟩,k8⟩
    | exit id =>
      simp only at h3
      split at h3 <;> cases h3
    | goto t =>
      simp only at h3
      split at h3 <;> cases h3
    | ret =>
      simp only at h3
      split at h3 <;> cases h3
  ·
    rintro e B ⟨⟨v,rfl⟩,T,st,mu',hf,hRP,_,⟨_,hol,hoD⟩,hl',hD'⟩
    rw [List.length_map,List.drop_length] at hf
    simp only [Zcq,Option.some.injEq,Sum.inl.injEq] at hf
    subst hf
    have hR:=hRP.wide hsub
    have hoD':(cx B (build kds (enc st)).ob mu' ok).okb D:=⟨hsub D hoD.1,hoD.2.1,hoD.2.2⟩
    refine ⟨none,_,by have:=run_endLoop (P:=V.P) hl' (by rw [hrec];simp);rw [hrec] at this;exact this,?_⟩
    refine hQ _ _ ?_
    have hne:D≠l:=by omega
    have hR':=hR.turn (ZcT B l (.loop { rec .ready none with state:=.exhausted })) hl' rfl hll (fun _ h=>by cases h)
    rw [hrec] at hR'
    refine ⟨{ target:=.collected D,args:=#[] }::[],trivial,mu',⟨hR'.mem,hR'.tm,hR'.far,hR'.size,by show [_]++a.defers=[_];rw [hR'.defers];rfl,by simp,fun d hd=>?_⟩,trivial⟩
    rcases List.mem_cons.1 hd with rfl | hd
    . exact ⟨D,rfl,by omega,⟨hoD'.1,by simpa using hoD'.2.1,hoD'.2.2⟩,(World.putObj_heap_other hne).trans hD'⟩
    . cases hd
end
end Go.Proofs.Mill
namespace Go.Proofs.Mill
open Go.RowKit
def cutW (B:World) (n:Nat):World:={ B with heap:=B.heap.extract 0 n }
theorem Zyo {B:World} {n:Nat} (h:n<=B.heap.size):(cutW B n).heap.size=n:=by simp [cutW];omega
def KJ (A:World) (pb:Nat) (c:Cx):Prop :=
 (∀ b,b<A.heap.size->b≠pb->b<c.w.heap.size/\(∀ id,c.mu id≠some b)/\c.w.heap[b]?=A.heap[b]?)/\PtrV c 1 0 (.pointer (some ⟨pb,0,none⟩))
theorem KJ.stays (A:World) (pb:Nat):Stays (KJ A pb):=by
 intro c c' h m
 refine ⟨fun b h1 h2=>?_,m.ptr _ _ _ h.2⟩
 obtain ⟨k1,k2,k3⟩:=h.1 b h1 h2
 obtain ⟨m1,m2⟩:=m.off b k1 k2
 have hlt:b<c'.w.heap.size:=by
   have m3:=m2
   rw [Array.getElem?_eq_getElem k1] at m3
   exact (Array.getElem?_eq_some_iff.1 m3).1
 exact ⟨hlt,m1,m2.trans k3⟩
structure BareX (S:Nat->Prop) (pb nt:Nat) (tm:List (Nat×AV)) (x:Int) (a:Act) (B:World):Prop where
  defers:a.defers=[]
  size:a.tmps.size=nt
  two:2<nt
  val:∀ p∈tm,p.1<nt/\Mill.V (bx S B) p.2 (a.tmps.getD p.1 undef)
  ptr:a.tmps.getD 2 undef=.pointer (some ⟨pb,0,none⟩)
  cell:∃ e,B.heap[pb]?=some (.cells #[.int .i64 x] e (0,0))
def okX (S:Nat->Prop) (B:World) (pb:Nat):Nat->Prop:=fun b=>S b\/B.heap.size<=b\/b=pb
section
variable {S:Nat->Prop} {pb nt:Nat} {tm:List (Nat×AV)} {x:Int} {a:Act} {A B:World}
theorem BareX.holds (hS:∀ b,S b->b≠pb) (hf:∀ p∈tm,p.2.frozen=true) (h:BareX S pb nt tm x a B) :
   Holds (KJ B pb) (cutW B pb) (okX S B pb) nt [] ⟨(2,.ptr 1 0)::tm,[(1,.box [.i x])]⟩ a B:=by
 obtain ⟨e,hc⟩:=h.cell
 have hlt:pb<B.heap.size:=(Array.getElem?_eq_some_iff.1 hc).1
 have hsz:=Zyo (B:=B) (n:=pb) (by omega)
 obtain ⟨mu,hmu1,hmu⟩:∃ mu:Nat->Option Nat,mu 1=some pb/\∀ id,id≠1->mu id=none:=⟨fun id=>if id=1 then some pb else none,rfl,fun id hne=>if_neg hne⟩
 have hof:∀ id b,mu id=some b->id=1/\b=pb:=by
   intro id b hb
   by_cases e:id=1
   . subst e;rw [hmu1] at hb;exact ⟨rfl,(Option.some.inj hb).symm⟩
   . rw [hmu id e] at hb;cases hb
 have hlk1:look [(1,AV.box [.i x])] 1=.box [.i x]:=look_eq _ _ _
 have hlk:∀ id,id≠1->look [(1,AV.box [.i x])] id=.undef:=fun id hne=>by rw [ZaQ _ _ (Ne.symm hne)];rfl
 have hptr:PtrV (cx B [(1,.box [.i x])] mu (okX S B pb)) 1 0 (.pointer (some ⟨pb,0,none⟩)):=by
   unfold PtrV
   rw [show (cx B [(1,AV.box [.i x])] mu (okX S B pb)).ob 1=.box [.i x] from hlk1]
   exact ⟨pb,hmu1,rfl⟩
 have hV:∀ p∈tm,Mill.V (cx B [(1,.box [.i x])] mu (okX S B pb)) p.2 (a.tmps.getD p.1 undef):=fun p hp =>
   ZhE (fun b hb=>by
     refine ⟨⟨?_,hb.2.1,fun id e=>?_⟩,rfl⟩
     . rcases hb.1 with h | h
       . exact .inl h
       . exact .inr (.inl h)
     . obtain ⟨_,e⟩:=hof id b e
       rcases hb.1 with h | h
       . exact hS b h e
       . have:b<B.heap.size:=hb.2.1
         omega) p.2 _ (hf p hp) (h.val p hp).2
 refine ⟨mu,⟨⟨fun id=>?_,fun i j b hi hj=>?_,fun id b hb=>?_,⟨rfl,rfl,rfl,?_,fun k hk=>?_⟩,fun b hb=>?_⟩,fun t ht=>?_,fun t ht=>?_,h.size,h.defers,Marks.nil _ _⟩,fun b h1 h2=>⟨h1,fun id e=>h2 (hof id b e).2,rfl⟩,hptr⟩
 . unfold ObjOK
   by_cases e1:id=1
   . subst e1
     rw [show (cx B [(1,AV.box [.i x])] mu (okX S B pb)).ob 1=.box [.i x] from hlk1]
     exact ⟨pb,_,e,hmu1,hc,rfl,trivial⟩
   . rw [show (cx B [(1,AV.box [.i x])] mu (okX S B pb)).ob id=.undef from hlk id e1]
     exact hmu id e1
 . rw [(hof i b hi).1,(hof j b hj).1]
 . rw [hsz,(hof id b hb).2];exact Nat.le_refl _
 . rw [hsz];exact Nat.le_of_lt hlt
 . rw [hsz] at hk
   show B.heap[k]?=(B.heap.extract 0 pb)[k]?
   rw [Array.getElem?_extract]
   simp
   omega
 . by_cases e1:b=pb
   . exact .inl (.inr (.inr e1))
   . by_cases e2:b<B.heap.size
     . exact .inr ⟨e2,fun id e=>e1 (hof id b e).2⟩
     . exact .inl (.inr (.inl (by omega)))
 . by_cases e1:t=2
   . subst e1
     show Mill.V _ (look ((2,AV.ptr 1 0)::tm) 2) _
     rw [look_eq,h.ptr]
     exact hptr
   . show Mill.V _ (look ((2,AV.ptr 1 0)::tm) t) _
     rw [ZaQ _ _ (Ne.symm e1)]
     rcases ZgG tm t with h1 | ⟨p,hp,h1,h2⟩
     . rw [h1];trivial
     . rw [h2,<- h1];exact hV p hp
 . have h2:=h.two
   show look ((2,AV.ptr 1 0)::tm) t=.undef
   rw [ZaQ _ _ (by omega)]
   rcases ZgG tm t with h1 | ⟨p,hp,h1,h2⟩
   . exact h1
   . have:=(h.val p hp).1
     omega
theorem ZrP {σ':St} {a':Act} {x':Int} (hpb:pb<A.heap.size) (two:2<nt) (hh:Holds (KJ A pb) (cutW A pb) (okX S A pb) nt [] σ' a' B) (h2:look σ'.tm 2=.ptr 1 0) (ho:look σ'.ob 1=.box [.i x'])
   (hl:∀ p∈tm,p.1<nt/\look σ'.tm p.1=p.2/\p.2.frozen=true) :
   BareX (fun b=>S b\/A.heap.size<=b/\b<B.heap.size) pb nt tm x' a' B/\Turned A B (fun k=>k=pb):=by
 obtain ⟨mu,hr,hj1,hj2⟩:=hh
 have ho':(cx B σ'.ob mu (okX S A pb)).ob 1=.box [.i x']:=ho
 have hm1:mu 1=some pb:=by
   unfold PtrV at hj2
   rw [ho'] at hj2
   obtain ⟨b,h1,h2⟩:=hj2
   have:pb=b:=by simpa using h2
   rw [this];exact h1
 have hcell:∃ e,B.heap[pb]?=some (.cells #[.int .i64 x'] e (0,0)):=by
   have:=hr.mem.obj 1
   unfold ObjOK at this
   rw [ho'] at this
   obtain ⟨b,cur,e,h1,h2,h3⟩:=this
   have h1:mu 1=some b:=h1
   rw [hm1] at h1
   obtain rfl:=Option.some.inj h1
   obtain ⟨u,r,hc,hu,hr⟩:=Za6 h3
   have hr:=Zbo hr
   subst hr
   have hu:u=.int .i64 x':=hu
   subst hu
   have:cur=#[.int .i64 x']:=by
     obtain ⟨l⟩:=cur
     simp at hc
     simp [hc]
   rw [<- this]
   exact ⟨e,h2⟩
 have hlt:pb<B.heap.size:=by obtain ⟨e,h⟩:=hcell;exact (Array.getElem?_eq_some_iff.1 h).1
 refine ⟨⟨hr.defers,hr.size,two,fun p hp=>?_,?_,hcell⟩,⟨hr.mem.ext.os,hr.mem.ext.tape,hr.mem.ext.output,?_,fun k hk hne=>(hj1 k hk hne).2.2⟩⟩
 . obtain ⟨k1,k2,k3⟩:=hl p hp
   refine ⟨k1,?_⟩
   have:=hr.tm p.1 k1
   rw [k2] at this
   refine ZhE (c:=cx B σ'.ob mu (okX S A pb)) (c':=bx (fun b=>S b\/A.heap.size<=b/\b<B.heap.size) B) (fun b hb=>⟨⟨Or.inl ?_,hb.2.1,fun _ h=>by cases h⟩,rfl⟩) p.2 _ k3 this
   rcases hb.1 with h | h | h
   . exact .inl h
   . exact .inr ⟨h,hb.2.1⟩
   . exact (hb.2.2 1 (by rw [h];exact hm1)).elim
 . have:=hr.tm 2 two
   rw [h2] at this
   have this:PtrV (cx B σ'.ob mu (okX S A pb)) 1 0 (a'.tmps.getD 2 undef):=this
   unfold PtrV at this
   rw [ho'] at this
   obtain ⟨b,h1,h3⟩:=this
   have h1:mu 1=some b:=h1
   rw [hm1] at h1
   obtain rfl:=Option.some.inj h1
   exact h3
 . by_cases e:A.heap.size-1=pb
   . omega
   . have:=(hj1 (A.heap.size-1) (by omega) e).1
     have:A.heap.size-1<B.heap.size:=this
     omega
end
section
variable {V:Env} {J:Cx->Prop} {w0 w:World} {ok:Nat->Prop} {nt:Nat} {σ:St} {a:Act}
theorem ZbM {ρ:Type} {rounds depth:Nat} (hG:Zai V) (hJ:Stays J) {c:Code} {r:ρ} {k:Ex->St->Option ρ} {Q:Exit->Act->World->Prop} (hh:Holds J w0 ok nt [] σ a w)
   (h:evK V (fun _=>none) (inlK V rounds depth) 1 nt rounds c σ k=some r) (hn:∀ e σ' a' w',Holds J w0 ok nt [] σ' a' w'->k e σ'=some r->Q e.to a' w'):c.wpIn (Za4 none) 0 V.P Q a w :=
 ZfF (J:=J) (Δ:=fun ds=>ds=[]) (ro:=none) hG (Zba hG depth) hJ (fun _ _ h=>by cases h) (fun _ _ h=>by cases h) c (fun _ _ _ h=>by cases h) ⟨[],rfl,hh⟩ h
   fun e σ' a' w' hh' h'=>by obtain ⟨ds,rfl,hh'⟩:=hh';exact hn e σ' a' w' hh' h'
theorem Zyw {P:Program} {o:Oper} {c:Go.Call} {f x y:Operand} {l:Nat} {K:Act->World->Prop} {Q:Exit->Act->World->Prop} (ho:o.op=.call c) (hf:c.callee=.value f) (hx:c.args=#[x,y])
   (hv:a.eval f=.func (.yield l) #[] #[]) (h:YieldAt Fence.wide 0 P l #[a.eval x,a.eval y] w fun e B=>∃ v,e=.returned v/\K (a.put o.dst v) B):o.wpIn (Za4 none) 0 P a w K Q:=by
 obtain ⟨fn,tmps,assign,body,hr,hround⟩:=h
 refine ⟨fun _ _=>trivial,?_⟩
 have hrun:(execOp a.eval o).run P w=.ok (.round l fn tmps assign body) w:=by
   simp [execOp,ho,resolve,hf,hv,Deferred.ofValue,invoke,hx,hr]
 show o.uponIn (Za4 none) 0 P a K Q ((Oper.semAt none a.eval o).run P w)
 rw [Oper.semAt_none,hrun]
 refine ⟨fun h=>(by cases h),hround.mono fun e B he=>?_⟩
 obtain ⟨v,rfl,hk⟩:=he
 exact hk
end
def cellsOf (ap:Entry->Int->Option Int):List Entry->Int->Option (List (Int×Int))
 | [],_=>some []
 | e :: r, x => match ap e x with
  | some y=>(match cellsOf ap r y with | some l=>some ((x,y)::l) | none=>none)
  | none=>none
theorem ZiM {ap:Entry->Int->Option Int}:∀ {L:List Entry} {x:Int} {els:List (Int×Int)},cellsOf ap L x=some els->els.length=L.length
 | [],_,_,h=>by simp [cellsOf] at h;simp [<- h]
 | e :: L, x, els, h => by
   unfold cellsOf at h
   split at h
   case h_2=>cases h
   split at h
   case h_2=>cases h
   rename_i hl
   obtain rfl:=Option.some.inj h
   simp [ZiM hl]
def Zt8 (V:Env) (inl:Inl (Bool×List AV×AV)) (nt rounds:Nat) (R1 K1 R2 R3:Code) (ops:Array Oper) (σ:St):Option (Bool×List AV×AV) :=
 evK V (fun _=>none) inl 1 nt rounds R1 σ fun e σ=>match e with
 | .normal => evK V (fun _ => none) inl 1 nt rounds K1 σ fun e σ => (match e with
   | .exit 0=>some (false,[look σ.tm 2],look σ.ob 1)
   | .normal => evK V (fun _ => none) inl 1 nt rounds R2 σ fun e σ => (match e with
     | .normal => evK V (fun _ => none) inl 1 nt rounds R3 σ fun e σ => (match e with
       | .normal=>opsK V inl 1 nt ops (ops.toList.take 3) σ fun σ=>some (true,[25,26,27,8,2,0,3,4,10,11,12].map (look σ.tm),look σ.ob 1)
       | _=>none)
     | _=>none)
   | _=>none)
 | _=>none
def ZsC (V:Env) (inl:Inl (List AV×AV)) (nt rounds:Nat) (K2 R5 R6:Code) (ops:Array Oper) (σ:St):Option (List AV×AV) :=
 opsK V inl 1 nt ops (ops.toList.drop 4) σ fun σ=>evK V (fun _=>none) inl 1 nt rounds K2 σ fun e σ=>match e with
   | .normal => evK V (fun _ => none) inl 1 nt rounds R5 σ fun e σ => (match e with
     | .normal => evK V (fun _ => none) inl 1 nt rounds R6 σ fun e σ => (match e with
       | .normal=>some ([2,0,3,4,10,11,12].map (look σ.tm),look σ.ob 1)
       | _=>none)
     | _=>none)
   | _=>none
theorem Zxp {l:List Oper} (h:l.length=5):l=l.take 3++l.getD 3 default::l.drop 4:=by
 have e2:l.drop 3=l.getD 3 default::l.drop 4:=by
   rw [List.drop_eq_getElem_cons (show 3<l.length by omega),List.getD_eq_getElem?_getD,List.getElem?_eq_getElem (show 3<l.length by omega),Option.getD_some]
 rw [<- e2]
 exact (List.take_append_drop 3 _).symm
section
variable {V:Env}
theorem ZwO (hG:Zai V) {f:FuncId} {fn:Func} {nt rounds depth id0 id4:Nat} {ops0 ops4:Array Oper} {R1 K1 R2 R3 K2 R5 R6:Code} {ap:Entry->Int->Option Int} {L:List Entry} {x0 lo hi:Int} {els:List (Int×Int)} {cl:Go.Call}
   (hf:V.P.funcs[f]?=some fn) (hbody:fn.body=some (.seq (.region id0 ops0 false) (.block 0 (.loop (.seq R1 (.seq K1 (.seq (.block 1 (.seq R2 (.seq R3 (.seq (.seq (.region id4 ops4 false) K2) R5)))) R6)))))))
   (hnt:fn.ntmps=nt) (hn30:30<=nt) (hres:fn.results=#[]) (hels:cellsOf ap L x0=some els)
   (h0:∀ yv x,opsK V (inlK V rounds depth) 1 nt ops0 ops0.toList ⟨[(2,.ptr 1 0),(0,.cst yv),(1,.cptr [.lst .entry L] 0),(3,.cptr [.i lo] 0),(4,.cptr [.i hi] 0)],[(1,.box [.i x])]⟩ (fun σ=>some ([2,0,3,4,10,11,12].map (look σ.tm),look σ.ob 1)) =
     some ([.ptr 1 0,.cst yv,.cptr [.i lo] 0,.cptr [.i hi] 0,.lst .entry L,.i L.length,.i ((0:Nat):Int)],.box [.i x]))
   (hpre:∀ yv x (i:Nat),Zt8 V (inlK V rounds depth) nt rounds R1 K1 R2 R3 ops4 ⟨[(2,.ptr 1 0),(0,.cst yv),(3,.cptr [.i lo] 0),(4,.cptr [.i hi] 0),(10,.lst .entry L),(11,.i L.length),(12,.i (i:Int))],[(1,.box [.i x])]⟩ =
     match L[i]? with
     | none=>some (false,[.ptr 1 0],.box [.i x])
     | some e => match ap e x with
       | some y=>some (true,[.cst yv,.i x,.i y,.i y,.ptr 1 0,.cst yv,.cptr [.i lo] 0,.cptr [.i hi] 0,.lst .entry L,.i L.length,.i (i:Int)],.box [.i x])
       | none=>none)
   (hpost:∀ yv x y (i:Nat),i<L.length->ZsC V (inlK V rounds depth) nt rounds K2 R5 R6 ops4 ⟨[(2,.ptr 1 0),(28,.bool true),(8,.i y),(0,.cst yv),(3,.cptr [.i lo] 0),(4,.cptr [.i hi] 0),(10,.lst .entry L),(11,.i L.length),(12,.i (i:Int))],[(1,.box [.i x])]⟩ =
     some ([.ptr 1 0,.cst yv,.cptr [.i lo] 0,.cptr [.i hi] 0,.lst .entry L,.i L.length,.i ((i+1:Nat):Int)],.box [.i y]))
   (hops:ops4.size=5) (q3:(ops4.toList.getD 3 default).op=.call cl) (h3c:cl.callee=.value (.tmp 25)) (h3a:cl.args=#[.tmp 26,.tmp 27]) (h3d:(ops4.toList.getD 3 default).dst=some 28) (h3g:(ops4.toList.getD 3 default).guard=none)
   {c:Cx} {u1 u3 u4:Value} {pb:Nat} (hv1:Mill.V c (.cptr [.lst .entry L] 0) u1) (hv3:Mill.V c (.cptr [.i lo] 0) u3) (hv4:Mill.V c (.cptr [.i hi] 0) u4) (hcell:∃ e,c.w.heap[pb]?=some (.cells #[.int .i64 x0] e (0,0))) (hpS:¬c.okb pb) :
   ZmP V.P f #[u1,.pointer (some ⟨pb,0,none⟩),u3,u4] (els.map fun p=>#[.int .i64 p.1,.int .i64 p.2]) c.okb pb c.w:=by
 intro l J W hg hpl hJ hY hJ0
 obtain ⟨S,hS⟩:∃ S,S=c.okb:=⟨_,rfl⟩
 rw [<- hS] at hY hpS
 have hSx:∀ b,S b->b≠pb:=fun b hb e=>hpS (e ▸ hb)
 have hpw:pb<c.w.heap.size:=by obtain ⟨e,h⟩:=hcell;exact (Array.getElem?_eq_some_iff.1 h).1
 have hSW:∀ b,S b->b<W.heap.size:=fun b hb=>by rw [hS] at hb;exact Nat.lt_of_lt_of_le hb.2.1 hg.size
 have hcellW:∃ e,W.heap[pb]?=some (.cells #[.int .i64 x0] e (0,0)):=by
   obtain ⟨e,h⟩:=hcell
   exact ⟨e,(hg.block pb hpw (fun x=>x)).trans h⟩
 obtain ⟨yv,hyv⟩:∃ yv,yv=Value.func (.yield l) #[] #[]:=⟨_,rfl⟩
 have toW:∀ {v:AV} {u:Value},v.frozen=true->Mill.V c v u->Mill.V (bx S W) v u:=fun hf h =>
   ZhE (fun b hb=>⟨⟨Or.inl (by rw [hS];exact hb),hSW b (by rw [hS];exact hb),fun _ h=>by cases h⟩,hg.block b hb.2.1 (fun x=>x)⟩) _ _ hf h
 let tmI:Nat->List (Nat×AV):=fun i=>[(0,.cst yv),(3,.cptr [.i lo] 0),(4,.cptr [.i hi] 0),(10,.lst .entry L),(11,.i L.length),(12,.i (i:Int))]
 have frI:∀ i,∀ p∈tmI i,p.2.frozen=true:=by
   intro i p hp
   simp only [tmI,List.mem_cons,List.not_mem_nil,or_false] at hp
   rcases hp with rfl | rfl | rfl | rfl | rfl | rfl <;> rfl
 have hlen:=ZiM hels
 have headOf:∀ {U:Nat->Prop} {A B:World} {σ':St} {a':Act} {i:Nat} {x':Int},pb<A.heap.size->Holds (KJ A pb) (cutW A pb) (okX U A pb) nt [] σ' a' B ->
     [2,0,3,4,10,11,12].map (look σ'.tm)=[.ptr 1 0,.cst yv,.cptr [.i lo] 0,.cptr [.i hi] 0,.lst .entry L,.i L.length,.i (i:Int)]->look σ'.ob 1=.box [.i x'] ->
     BareX (fun b=>U b\/A.heap.size<=b/\b<B.heap.size) pb nt (tmI i) x' a' B/\Turned A B (fun k=>k=pb):=by
   intro U A B σ' a' i x' hA hh hl ho
   simp only [List.map_cons,List.map_nil,List.cons.injEq,and_true] at hl
   obtain ⟨e2,e0,e3,e4,e10,e11,e12⟩:=hl
   refine ZrP hA (by omega) hh e2 ho fun q hq=>?_
   simp only [tmI,List.mem_cons,List.not_mem_nil,or_false] at hq
   rcases hq with rfl | rfl | rfl | rfl | rfl | rfl
   . exact ⟨by simp only;omega,e0,rfl⟩
   . exact ⟨by simp only;omega,e3,rfl⟩
   . exact ⟨by simp only;omega,e4,rfl⟩
   . exact ⟨by simp only;omega,e10,rfl⟩
   . exact ⟨by simp only;omega,e11,rfl⟩
   . exact ⟨by simp only;omega,e12,rfl⟩
 have ext:∀ {T0:Nat->Prop} {A B:World} {tm:List (Nat×AV)} {x':Int} {a':Act},BareX (fun b=>(S b\/T0 b)\/A.heap.size<=b/\b<B.heap.size) pb nt tm x' a' B->BareX (fun b=>S b\/(T0 b\/A.heap.size<=b/\b<B.heap.size)) pb nt tm x' a' B:=by
   intro T0 A B tm x' a' h
   have e:(fun b=>(S b\/T0 b)\/A.heap.size<=b/\b<B.heap.size)=fun b=>S b\/(T0 b\/A.heap.size<=b/\b<B.heap.size):=by funext b;rw [or_assoc]
   rw [e] at h
   exact h
 have extlt:∀ {T0:Nat->Prop} {A B:World},(∀ b,S b\/T0 b->b<A.heap.size/\b≠pb)->pb<A.heap.size->Turned A B (fun k=>k=pb)->∀ b,S b\/(T0 b\/A.heap.size<=b/\b<B.heap.size)->b<B.heap.size/\b≠pb:=by
   intro T0 A B h hA hg b hb
   have:=hg.size
   rcases hb with hb | hb | hb
   . have:=h b (.inl hb);exact ⟨by omega,this.2⟩
   . have:=h b (.inr hb);exact ⟨by omega,this.2⟩
   . exact ⟨hb.2,by omega⟩
 let Rr:Ending->World->Prop:=fun e B=>(∃ v,e=.returned v)/\∃ T,J (els.map fun p=>#[Value.int .i64 p.1,Value.int .i64 p.2]).length T B
 let Q0:=bodyPost V.P fn Rr
 have fin:∀ {a':Act} {B:World},a'.defers=[]->(∃ T,J els.length T B)->Q0 .normal a' B:=by
   intro a' B hd hb
   refine ⟨hd,.tuple #[],by simp [results,hres],⟨_,rfl⟩,?_⟩
   rw [List.length_map]
   exact hb
 let C:Code:=.seq R1 (.seq K1 (.seq (.block 1 (.seq R2 (.seq R3 (.seq (.seq (.region id4 ops4 false) K2) R5)))) R6))
 have round:∀ (i:Nat) (T0:Nat->Prop) (xi:Int) (a:Act) (B:World),i<=L.length->cellsOf ap (L.drop i) xi=some (els.drop i)->BareX (fun b=>S b\/T0 b) pb nt (tmI i) xi a B->J i T0 B->(∀ b,S b\/T0 b->b<B.heap.size/\b≠pb) ->
     (i<L.length->∀ (T1:Nat->Prop) (x1:Int) (a1:Act) (B1:World),cellsOf ap (L.drop (i+1)) x1=some (els.drop (i+1))->BareX (fun b=>S b\/T1 b) pb nt (tmI (i+1)) x1 a1 B1->J (i+1) T1 B1->(∀ b,S b\/T1 b->b<B1.heap.size/\b≠pb)->Zd6 none V.P C (Exit.inBlock 0 Q0) a1 B1) ->
     Zd6 none V.P C (Exit.inBlock 0 Q0) a B:=by
   intro i T0 xi a B hiL hrest hb hJi hlt hnext
   have hpB:pb<B.heap.size:=by obtain ⟨e,h⟩:=hb.cell;exact (Array.getElem?_eq_some_iff.1 h).1
   have hp:=hpre yv xi i
   obtain ⟨rr,hrr⟩:∃ rr,(match L[i]? with
     | none=>some (false,[.ptr 1 0],AV.box [.i xi])
     | some e => match ap e xi with
       | some y=>some (true,[.cst yv,.i xi,.i y,.i y,.ptr 1 0,.cst yv,.cptr [.i lo] 0,.cptr [.i hi] 0,.lst .entry L,.i L.length,.i (i:Int)],AV.box [.i xi])
       | none=>none:Option (Bool×List AV×AV))=some rr:=by
     cases hx:L[i]? with
     | none=>exact ⟨_,rfl⟩
     | some e =>
       have hd:L.drop i=e::L.drop (i+1):=by
         obtain ⟨hl,hge⟩:=List.getElem?_eq_some_iff.1 hx
         rw [List.drop_eq_getElem_cons hl,hge]
       rw [hd] at hrest
       unfold cellsOf at hrest
       cases hap:ap e xi with
       | none=>rw [hap] at hrest;cases hrest
       | some y=>simp only [hap];exact ⟨_,rfl⟩
   rw [hrr] at hp
   unfold Zt8 at hp
   refine Zc6 (wpIn_seq (ZbM hG (KJ.stays B pb) (hb.holds (fun b h=>(hlt b h).2) (frI i)) hp fun e1 σ1 a1 B1 hh1 h1=>?_))
   cases e1 with
   | exit id=>cases h1
   | goto id=>cases h1
   | ret=>cases h1
   | normal =>
   refine wpIn_seq (ZbM hG (KJ.stays B pb) hh1 h1 fun e2 σ2 a2 B2 hh2 h2=>?_)
   cases e2 with
   | goto id=>cases h2
   | ret=>cases h2
   | exit id =>
     cases id with
     | succ id=>cases h2
     | zero =>
       have h2:some (false,[look σ2.tm 2],look σ2.ob 1)=some rr:=h2
       have h2:=Option.some.inj h2
       cases hx:L[i]? with
       | some e =>
         rw [hx] at hrr
         simp only at hrr
         split at hrr
         . have hrr:=Option.some.inj hrr
           rw [<- h2] at hrr
           cases hrr
         . cases hrr
       | none =>
       rw [hx] at hrr
       have hrr:=Option.some.inj hrr
       rw [<- h2] at hrr
       simp only [Prod.mk.injEq,List.cons.injEq,and_true,true_and] at hrr
       have hiE:i=L.length:=by
         have:=List.getElem?_eq_none_iff.1 hx
         omega
       obtain ⟨hbx,ht2⟩:=ZrP (tm:=[]) hpB (by omega) hh2 hrr.1.symm hrr.2.symm (fun p hp=>by cases hp)
       have hJe:=hJ _ _ _ _ hJi ht2
       show Exit.inBlock 0 Q0 (.exit 0) a2 B2
       refine fin hbx.defers ⟨fun b=>T0 b\/B.heap.size<=b/\b<B2.heap.size,?_⟩
       rw [hlen,<- hiE]
       exact hJe
   | normal =>
   refine wpIn_seq (wpIn_block (wpIn_seq (ZbM hG (KJ.stays B pb) hh2 h2 fun e3 σ3 a3 B3 hh3 h3=>?_)))
   cases e3 with
   | exit id=>cases h3
   | goto id=>cases h3
   | ret=>cases h3
   | normal =>
   refine wpIn_seq (ZbM hG (KJ.stays B pb) hh3 h3 fun e4 σ4 a4 B4 hh4 h4=>?_)
   cases e4 with
   | exit id=>cases h4
   | goto id=>cases h4
   | ret=>cases h4
   | normal =>
   refine wpIn_seq (wpIn_seq (wpIn_region_list ?_))
   have hsz:ops4.toList.length=5:=by simpa using hops
   rw [Zxp hsz]
   refine Zfm hG (Zba hG depth) (KJ.stays B pb) _ hh4 h4 fun σ5 a5 B5 hh5 h5=>?_
   have h5:=Option.some.inj h5
   cases hx:L[i]? with
   | none =>
     rw [hx] at hrr
     have hrr:=Option.some.inj hrr
     rw [<- hrr] at h5
     cases h5
   | some e =>
   have hilt:i<L.length:=(List.getElem?_eq_some_iff.1 hx).1
   have hd:L.drop i=e::L.drop (i+1):=by
     obtain ⟨hl,hge⟩:=List.getElem?_eq_some_iff.1 hx
     rw [List.drop_eq_getElem_cons hl,hge]
   rw [hx] at hrr
   simp only at hrr
   cases hap:ap e xi with
   | none=>rw [hap] at hrr;cases hrr
   | some y =>
   rw [hap] at hrr
   simp only at hrr
   have hrr:=Option.some.inj hrr
   rw [<- hrr] at h5
   simp only [Prod.mk.injEq,List.map_cons,List.map_nil,List.cons.injEq,and_true,true_and] at h5
   obtain ⟨⟨e25,e26,e27,e8,e2',e0,e3',e4',e10,e11,e12⟩,eo⟩:=h5
   have hnx:els[i]?=some (xi,y)/\cellsOf ap (L.drop (i+1)) y=some (els.drop (i+1)):=by
     rw [hd] at hrest
     unfold cellsOf at hrest
     rw [hap] at hrest
     simp only at hrest
     split at hrest
     case h_2=>cases hrest
     rename_i r hr
     have hrest:=Option.some.inj hrest
     have h1:els[i]?=some (xi,y):=by
       have:(els.drop i)[0]?=some (xi,y):=by rw [<- hrest];rfl
       rwa [List.getElem?_drop,Nat.add_zero] at this
     refine ⟨h1,?_⟩
     have h2:els.drop (i+1)=r:=by
       rw [<- List.drop_drop,<- hrest]
       rfl
     rw [h2]
     exact hr
   obtain ⟨hb5,ht5⟩:=ZrP (tm:=(8,.i y)::tmI i) hpB (by omega) hh5 e2' eo (fun q hq=>by
     simp only [tmI,List.mem_cons,List.not_mem_nil,or_false] at hq
     rcases hq with rfl | rfl | rfl | rfl | rfl | rfl | rfl
     . exact ⟨by simp only;omega,e8,rfl⟩
     . exact ⟨by simp only;omega,e0,rfl⟩
     . exact ⟨by simp only;omega,e3',rfl⟩
     . exact ⟨by simp only;omega,e4',rfl⟩
     . exact ⟨by simp only;omega,e10,rfl⟩
     . exact ⟨by simp only;omega,e11,rfl⟩
     . exact ⟨by simp only;omega,e12,rfl⟩)
   obtain ⟨T1,hT1⟩:∃ T1,T1=fun b=>T0 b\/B.heap.size<=b/\b<B5.heap.size:=⟨_,rfl⟩
   have hb5:BareX (fun b=>S b\/T1 b) pb nt ((8,.i y)::tmI i) xi a5 B5:=by rw [hT1];exact ext hb5
   have hlt5:∀ b,S b\/T1 b->b<B5.heap.size/\b≠pb:=by rw [hT1];exact extlt hlt hpB ht5
   have hJ5:J i T1 B5:=by rw [hT1];exact hJ _ _ _ _ hJi ht5
   obtain ⟨mu5,hr5,_⟩:=hh5
   have hv25:a5.eval (.tmp 25)=.func (.yield l) #[] #[]:=by
     have:=hr5.tm 25 (by omega)
     rw [e25] at this
     have this:a5.tmps.getD 25 undef=yv:=this
     rw [<- hyv]
     exact this
   have hv26:a5.eval (.tmp 26)=.int .i64 xi:=by
     have:=hr5.tm 26 (by omega)
     rw [e26] at this
     exact this
   have hv27:a5.eval (.tmp 27)=.int .i64 y:=by
     have:=hr5.tm 27 (by omega)
     rw [e27] at this
     exact this
   rw [Zha]
   refine Zgn (by unfold Region.wanted;rw [h3g]) (Zyw q3 h3c h3a hv25 ?_)
   rw [hv26,hv27]
   obtain ⟨fy,ty,ay,by',hyr,hround⟩:=hY i #[.int .i64 xi,.int .i64 y] T1 B5 (by rw [List.getElem?_map,hnx.1];rfl) hJ5
   refine ⟨fy,ty,ay,by',hyr,hround.mono fun en B6 he=>?_⟩
   obtain ⟨⟨rfl,hJ6⟩,hkeep⟩:=he
   refine ⟨_,rfl,?_⟩
   have kept:∀ b,((S b\/T1 b)\/b=pb)->b<B5.heap.size->b<B6.heap.size:=by
     intro b hb h1
     have e:=hkeep b hb
     have h2:B5.heap[b]?=some (B5.heap[b]'h1):=Array.getElem?_eq_getElem h1
     rw [h2] at e
     exact (Array.getElem?_eq_some_iff.1 e).1
   have hp5:pb<B5.heap.size:=by obtain ⟨e,h⟩:=hb5.cell;exact (Array.getElem?_eq_some_iff.1 h).1
   have hlt6:∀ b,S b\/T1 b->b<B6.heap.size/\b≠pb:=fun b hb=>⟨kept b (.inl hb) (hlt5 b hb).1,(hlt5 b hb).2⟩
   have hb6:BareX (fun b=>S b\/T1 b) pb nt ((28,.bool true)::(8,.i y)::tmI i) xi (a5.put (ops4.toList.getD 3 default).dst (.bool true)) B6:=by
     rw [h3d]
     have get:∀ t,t≠28->(a5.tmps.setIfInBounds 28 (.bool true)).getD t undef=a5.tmps.getD t undef:=by
       intro t ht
       simp [Array.getD_eq_getD_getElem?,Array.getElem?_setIfInBounds_ne (Ne.symm ht)]
     refine ⟨hb5.defers,by show (a5.tmps.setIfInBounds 28 (.bool true)).size=nt;simp [hb5.size],hb5.two,fun z hz=>?_,?_,?_⟩
     . rcases List.mem_cons.1 hz with rfl | hz
       . refine ⟨by simp only;omega,?_⟩
         show (a5.tmps.setIfInBounds 28 (.bool true)).getD 28 undef=.bool true
         have hs:28<a5.tmps.size:=by rw [hb5.size];omega
         simp [Array.getD,hs]
       . obtain ⟨k1,k2⟩:=hb5.val z hz
         refine ⟨k1,?_⟩
         have hne:z.1≠28:=by
           simp only [tmI,List.mem_cons,List.not_mem_nil,or_false] at hz
           rcases hz with rfl | rfl | rfl | rfl | rfl | rfl | rfl <;> simp
         have hzf:z.2.frozen=true:=by
           rcases List.mem_cons.1 hz with rfl | hz
           . rfl
           . exact frI i z hz
         have e:(a5.put (some 28) (.bool true)).tmps.getD z.1 undef=a5.tmps.getD z.1 undef:=get z.1 hne
         rw [e]
         exact Bare.later (fun b hb=>hkeep b (.inl hb)) (fun b hb=>(hlt5 b hb).1) hzf k2
     . exact (get 2 (by decide)).trans hb5.ptr
     . obtain ⟨e,h⟩:=hb5.cell
       exact ⟨e,(hkeep pb (.inr rfl)).trans h⟩
   have hp6:pb<B6.heap.size:=kept pb (.inr rfl) hp5
   have hq:=hpost yv xi y i hilt
   unfold ZsC at hq
   refine ZfU hG (Zba hG depth) (KJ.stays B6 pb) _ (hb6.holds (fun b h=>(hlt6 b h).2) (fun p hp=>by
     rcases List.mem_cons.1 hp with rfl | hp
     . rfl
     . rcases List.mem_cons.1 hp with rfl | hp
       . rfl
       . exact frI i p hp)) hq fun σ7 a7 B7 hh7 h7=>?_
   refine ZbM hG (KJ.stays B6 pb) hh7 h7 fun e8 σ8 a8 B8 hh8 h8=>?_
   cases e8 with
   | exit id=>cases h8
   | goto id=>cases h8
   | ret=>cases h8
   | normal =>
   refine ZbM hG (KJ.stays B6 pb) hh8 h8 fun e9 σ9 a9 B9 hh9 h9=>?_
   cases e9 with
   | exit id=>cases h9
   | goto id=>cases h9
   | ret=>cases h9
   | normal =>
   refine ZbM hG (KJ.stays B6 pb) hh9 h9 fun e10 σ10 a10 B10 hh10 h10=>?_
   cases e10 with
   | exit id=>cases h10
   | goto id=>cases h10
   | ret=>cases h10
   | normal =>
   have h10:=Option.some.inj h10
   simp only [Prod.mk.injEq] at h10
   obtain ⟨hb10,ht10⟩:=headOf hp6 hh10 h10.1 h10.2
   exact hnext hilt _ y a10 B10 hnx.2 (ext hb10) (hJ _ _ _ _ hJ6 ht10) (extlt hlt6 hp6 ht10)
 have main:∀ (n i:Nat) (T0:Nat->Prop) (xi:Int) (a:Act) (B:World),i+n=L.length->cellsOf ap (L.drop i) xi=some (els.drop i)->BareX (fun b=>S b\/T0 b) pb nt (tmI i) xi a B->J i T0 B->(∀ b,S b\/T0 b->b<B.heap.size/\b≠pb) ->
     Zd6 none V.P C (Exit.inBlock 0 Q0) a B:=by
   intro n
   induction n with
   | zero=>intro i T0 xi a B hin h0 h1 h2 h3;exact round i T0 xi a B (by omega) h0 h1 h2 h3 (fun h=>by omega)
   | succ n ih=>intro i T0 xi a B hin h0 h1 h2 h3;exact round i T0 xi a B (by omega) h0 h1 h2 h3 (fun _ T1 x1 a1 B1 k0 k1 k2 k3=>ih (i+1) T1 x1 a1 B1 (by omega) k0 k1 k2 k3)
 refine calls_of_wp hf hbody (wpIn_wide.1 (?_:Code.wpIn Fence.wide 0 V.P _ Q0 _ W))
 refine wpIn_seq (wpIn_region_list ?_)
 rw [hnt]
 have hpW:pb<W.heap.size:=Nat.lt_of_lt_of_le hpw hg.size
 have hb0:BareX S pb nt [(0,.cst yv),(1,.cptr [.lst .entry L] 0),(3,.cptr [.i lo] 0),(4,.cptr [.i hi] 0)] x0
     { tmps:=(#[Value.func (.yield l) #[] #[]]++#[u1,.pointer (some ⟨pb,0,none⟩),u3,u4])++Array.replicate (nt-(#[Value.func (.yield l) #[] #[]]++#[u1,.pointer (some ⟨pb,0,none⟩),u3,u4]).size) undef,defers:=[] } W:=by
   have get5:∀ (X:Array Value) (n t:Nat),t<X.size->(X++Array.replicate n undef).getD t undef=X.getD t undef:=fun X n t ht=>by
     rw [Array.getD_eq_getD_getElem?,Array.getElem?_append_left ht,Array.getD_eq_getD_getElem?]
   refine ⟨rfl,by simp;omega,by omega,fun p hp=>?_,by simp only;rw [get5 _ _ _ (by simp)];rfl,hcellW⟩
   simp only [List.mem_cons,List.not_mem_nil,or_false] at hp
   rcases hp with rfl | rfl | rfl | rfl
   . exact ⟨by simp only;omega,by simp only;rw [get5 _ _ _ (by simp)];exact hyv.symm⟩
   . exact ⟨by simp only;omega,by simp only;rw [get5 _ _ _ (by simp)];exact toW rfl hv1⟩
   . exact ⟨by simp only;omega,by simp only;rw [get5 _ _ _ (by simp)];exact toW rfl hv3⟩
   . exact ⟨by simp only;omega,by simp only;rw [get5 _ _ _ (by simp)];exact toW rfl hv4⟩
 have hst:=hb0.holds hSx (fun p hp=>by
   simp only [List.mem_cons,List.not_mem_nil,or_false] at hp
   rcases hp with rfl | rfl | rfl | rfl <;> rfl)
 refine ZfU hG (Zba hG depth) (KJ.stays W pb) _ hst (h0 yv x0) fun σ1 a1 B1 hh1 h1=>?_
 have h1:=Option.some.inj h1
 simp only [Prod.mk.injEq] at h1
 obtain ⟨hb1,ht1⟩:=headOf hpW hh1 h1.1 h1.2
 refine wpIn_block (Zgv ?_)
 have hJ1:=hJ _ _ _ _ hJ0 ht1
 refine main L.length 0 (fun b=>False\/W.heap.size<=b/\b<B1.heap.size) x0 a1 B1 (by omega) (by simpa using hels) ?_ hJ1 (fun b hb=>?_)
 . have e:(fun b=>S b\/(False\/W.heap.size<=b/\b<B1.heap.size))=fun b=>S b\/W.heap.size<=b/\b<B1.heap.size:=by funext b;rw [false_or]
   rw [e]
   exact hb1
 . have:=ht1.size
   rcases hb with hb | hb | hb
   . have:=hSW b hb;exact ⟨by omega,hSx b hb⟩
   . exact hb.elim
   . exact ⟨hb.2,by omega⟩
end
end Go.Proofs.Mill
