/- world.turns: a thread's turn, over a channel of its own. -/
import Derived.Test.YtaopdopnecognaaGreatMillOkBb
import Derived.Test.YtaopdopnecognaaGreatMillFT3b
import Derived.Test.YtaopdopnecognaaGreatMillAll19
import Derived.Test.YtaopdopnecognaaGreatMillAll19
import Derived.Test.YtaopdopnecognaaGreatMillPickDef
set_option linter.all false
set_option maxRecDepth 100000
noncomputable section
namespace Go.Proofs.Mill
open Go.RowKit Go.Conc
def uE:Env:=env1 [(24,s24),(113,s113)]
theorem uG:Zai uE:=Zal mix1 ent1 (Zab ok24 rfl (Zab ZDb rfl Zah))
def ChanF (c0:Nat) (c1:Cx) (c:Cx):Prop:=(c.okb c0/\c.w.heap[c0]?=some (.chan 1 #[] false 0 0 false))/\Mono c1 c
theorem ChanF.stays (c0:Nat) (c1:Cx):Stays (ChanF c0 c1):=fun c c' h hm=>⟨⟨(hm.blk c0 h.1.1).1,((hm.blk c0 h.1.1).2).trans h.1.2⟩,h.2.trans hm⟩
theorem Mono.stays (c1:Cx):Stays (fun c=>Mono c1 c):=fun _ _ h hm=>h.trans hm
def NewTo (c1:Cx) (r:Nat):Prop:=(∀ b,c1.okb b->b≠r)/\∀ b,b<c1.w.heap.size->(∀ id,c1.mu id≠some b)->b≠r
theorem Mono.lt {c c':Cx} (h:Mono c c') {b:Nat} (hb:b<c.w.heap.size) (hn:∀ id,c.mu id≠some b):b<c'.w.heap.size:=by
 have k2:=(h.off b hb hn).2
 rw [Array.getElem?_eq_getElem hb] at k2
 exact (Array.getElem?_eq_some_iff.1 k2).1
theorem Zyy {c1 c:Cx} (h:Mono c1 c):NewTo c1 c.w.heap.size :=
 ⟨fun b hb=>Nat.ne_of_lt (h.blk b hb).1.2.1,fun b hb hn=>Nat.ne_of_lt (h.lt hb hn)⟩
theorem NewTo.back {c0 c1:Cx} {r:Nat} (h:NewTo c1 r) (hm:Mono c0 c1):NewTo c0 r :=
 ⟨fun b hb=>h.1 b (hm.blk b hb).1,fun b hb hn=>h.2 b (hm.lt hb hn) (hm.off b hb hn).1⟩
theorem Zpk {c1:Cx} {w w':World} {ob:List (Nat×AV)} {mu:Nat->Option Nat} {ok:Nat->Prop} {r:Nat} {o:Obj} (h:Mono c1 (cx w ob mu ok)) (ht:Turned w w' fun k=>k=r) (ho:w.heap[r]?=some o) (hc:o.isCells=false)
   (hr:NewTo c1 r):Mono c1 (cx w' ob mu ok):=by
 have hm:=ZhI (ob:=ob) (mu:=mu) (ok:=ok) ht ho hc
 refine ⟨⟨h.toMono5.trans hm.toMono5,fun b hb=>?_⟩,fun b hb hn=>?_⟩
 . obtain ⟨k1,k2⟩:=h.blk b hb
   exact ⟨⟨k1.1,Nat.lt_of_lt_of_le k1.2.1 ht.size,k1.2.2⟩,(ht.block b k1.2.1 (hr.1 b hb)).trans k2⟩
 . obtain ⟨k1,k2⟩:=h.off b hb hn
   exact ⟨k1,(ht.block b (h.lt hb hn) (hr.2 b hb hn)).trans k2⟩
theorem Zma (w:World) (c cap:Nat) (buf:Array Value) (cl:Bool) (s r:Nat) (tm:Bool):Turned w (w.setChan c cap buf cl s r tm) fun k=>k=c :=
 ⟨rfl,rfl,rfl,by rw [size_setChan];exact Nat.le_refl _,fun k _ h=>by simp [World.setChan,Array.getElem?_setIfInBounds_ne (show c≠k from fun e=>h e.symm)]⟩
theorem R.besideM {ds:List Deferred} {w0 w w':World} {ok:Nat->Prop} {nt:Nat} {σ:St} {a:Act} {mu:Nat->Option Nat} (hr:R w0 ok nt ds σ a w mu) (hb:Below w.heap.size w w') :
   ∃ mu',R w0 ok nt ds σ a w' mu'/\Mono (cx w σ.ob mu ok) (cx w' σ.ob mu' ok):=by
 obtain ⟨mu',k1,k2,_⟩:=hr.mem.join (ws:=[]) hb (Mem.none hb) (by simp) (fun p hp=>by cases hp) (fun b hb' hbs=>by
   rcases hb' with hb' | hb'
   . exact hb'.elim
   . omega)
 exact ⟨mu',hr.go k2 k1,k1⟩
theorem Zf8 {ds:List Deferred} {w0 w:World} {ok:Nat->Prop} {nt:Nat} {σ:St} {a:Act} {mu:Nat->Option Nat} (hr:R w0 ok nt ds σ a w mu) (j:Nat) {x:AV} (h:look σ.tm j=x):Mill.V (cx w σ.ob mu ok) x (a.eval (.tmp j)):=by
 have:=ZaJ hr (.tmp j)
 rw [show valOf σ (.tmp j)=look σ.tm j from rfl,h] at this
 exact this
theorem ZtH {ρ:Type} {V:Env} {J:Cx->Prop} {inl:Inl ρ} {fid nt rounds:Nat} (hG:Zai V) (hI:Zgb V inl) (hJ:Stays J) (c:Code) {w0 w:World} {ok:Nat->Prop} {σ:St} {a:Act} {k:Ex->St->Option ρ} {r:ρ}
    {Q:Exit->Act->World->Prop} (hl:ZaZ c=[]) (hh:Holds J w0 ok nt [] σ a w) (h:evK V nL inl fid nt rounds c σ k=some r)
    (hn:∀ e σ' a' w',Holds J w0 ok nt [] σ' a' w'->k e σ'=some r->Q e.to a' w'):Ends V.P c Q a w :=
  Ends.of_wp (wpIn_wide.1 (ZfF (Δ:=fun ds=>ds=[]) (ro:=none) hG hI hJ (fun _ _ h=>by cases h) (fun _ _ h=>by cases h) c (fun c' hc'=>by rw [hl] at hc';cases hc') ⟨[],rfl,hh⟩ h
    fun e σ' a' w' hh' h'=>by obtain ⟨ds,rfl,hh'⟩:=hh';exact hn e σ' a' w' hh' h':Code.wpIn Fence.wide 0 V.P _ Q a w))
def uC:Code:=Zg7 Tryz.prog 101
def uC2:Code:=ZaW (ZaW (Zax (Zax uC)))
def uC4:Code:=Zax (Zax (Zax uC))
def uOps1:Array Oper:=cOps (ZaW (Zax uC))
def uOps3:Array Oper:=match Zax (ZaW (Zax (Zax uC))) with | .cond _ (.region _ ops _) _=>ops | _=>#[]
def uOps3x:Array Oper:=(uOps3.toList.take 27).toArray
def uOps4:Array Oper:=cOps (ZaW uC4)
def opN (ops:Array Oper) (i:Nat):Oper:=(ops[i]?).getD default
def ut0 (x:Wld) (t:Int):St:=⟨ZbU 0 [.ptr 65536 0,.i t],Zbh celWorld x⟩
def ut1 (x:Wld) (t:Int):St:=⟨(4,.cst (.chan none))::(ut0 x t).tm,Zbh celWorld x⟩
theorem uk0 (x:Wld) (t:Int):evK uE nL (inlK uE 20 6) 1 43 20 (ZaW uC) (ut0 x t) (fun e σ=>some (e,σ))=some (.normal,ut1 x t):=by kernel_rfl
def ut3 (x:Wld) (t:Int) (c:Nat):St:=⟨(5,.cst (.chan (some c)))::(6,.cst (.chan (some c)))::(ut1 x t).tm,Zbh celWorld x⟩
def uSee (σ:St):Bool×AV×AV×AV×List (Nat×AV):=(true,look σ.tm 15,look σ.tm 41,look σ.tm 5,σ.ob)
def uK3 (σ:St):Option (Bool×AV×AV×AV×List (Nat×AV)):=regK uE (inlK uE 20 6) 1 43 uOps3x true σ fun σ=>some (uSee σ)
def uK2 (e:Ex) (σ:St):Option (Bool×AV×AV×AV×List (Nat×AV)) := match e with
 | .normal => (match look σ.tm 14 with
  | .bool b=>bif b then uK3 σ else some (false,.undef,.undef,look σ.tm 5,σ.ob)
  | _=>none)
 | _=>none
def uAns (x:Wld) (c:Nat)   : Option Turn->Bool×AV×AV×AV×List (Nat×AV)
 | some u=>(true,.cst (.chan (some c)),(Zaq ZaG).enc u,.cst (.chan (some c)),Zbh celWorld x)
 | none=>(false,.undef,.undef,.cst (.chan (some c)),Zbh celWorld x)
def ZtW (x:Wld) (t:Int) (c:Nat):Option (Bool×AV×AV×AV×List (Nat×AV)) := bif decide (0<=t) then (bif decide (t<(x.t.length:Int)) then (match ZbE (x.t.getD t.toNat Zaw) with
 | some b => bif b then (bif decide (0 <= t) then (bif decide (t < (x.t.length : Int)) then (match Ze2 (ZbK x t) with
  | some u=>some (uAns x c (some u))
  | none=>none) else none) else none) else some (uAns x c none)
 | none=>none) else none) else none
theorem uk2 (x:Wld) (t:Int) (c:Nat):evK uE nL (inlK uE 20 6) 1 43 20 uC2 (ut3 x t c) uK2=ZtW x t c:=by kernel_rfl
theorem ZyB {x:Wld} {t:Int} {c:Nat} {r:Option Turn} (h:Zct x t=some r):ZtW x t c=some (uAns x c r):=by
 unfold Zct at h
 unfold ZtW
 cases h1:decide (0<=t) with
 | false=>rw [h1] at h;cases h
 | true =>
 rw [h1] at h
 simp only [cond_true] at h ⊢
 cases h2:decide (t<(x.t.length:Int)) with
 | false=>rw [h2] at h;cases h
 | true =>
 rw [h2] at h
 simp only [cond_true] at h ⊢
 cases h3:ZbE (x.t.getD t.toNat Zaw) with
 | none=>rw [h3] at h;cases h
 | some b =>
 rw [h3] at h
 simp only at h ⊢
 cases b with
 | false =>
   simp only [cond_false] at h ⊢
   cases h;rfl
 | true =>
   simp only [cond_true] at h ⊢
   cases h4:Ze2 (ZbK x t) with
   | none=>rw [h4] at h;cases h
   | some u =>
     rw [h4] at h
     cases h;rfl
theorem ZsK {R':Ending->World->Prop} {a:Act} {w:World} {c0:Nat} (h5:a.eval (.tmp 5)=.chan (some c0)) (hd:a.defers=[]) (hs:a.tmps.size=43) (hR:R' (.returned (.chan (some c0))) w) :
   Ends Tryz.prog uC4 (bodyPost Tryz.prog Tryz.f101 R') a w:=by
 have hsq:uC4=.seq (.region 4 uOps4 false) .ret:=by kernel_rfl
 have e0:uOps4[0]?=some (opN uOps4 0):=by kernel_rfl
 have e1:uOps4[1]?=some (opN uOps4 1):=by kernel_rfl
 have p0:(opN uOps4 0).op=.move (.tmp 5):=by kernel_rfl
 have p1:(opN uOps4 1).op=.assign (.tmp 42):=by kernel_rfl
 have g0:(opN uOps4 0).guard=none:=by kernel_rfl
 have g1:(opN uOps4 1).guard=none:=by kernel_rfl
 have d0:(opN uOps4 0).dst=some 42:=by kernel_rfl
 have d1:(opN uOps4 1).dst=some 4:=by kernel_rfl
 have hrg:List.range uOps4.size=[0,1]:=by kernel_rfl
 have hres:Tryz.f101.results=#[.tmp 4]:=by kernel_rfl
 have r0:(execOp a.eval (opN uOps4 0)).run Tryz.prog w=.ok (.value (.chan (some c0))) w:=by simp [execOp,p0,h5]
 have ht:(a.put (some 42) (.chan (some c0))).eval (.tmp 42)=.chan (some c0):=by simp [Act.put,Act.eval,hs]
 have r1:(execOp (a.put (some 42) (.chan (some c0))).eval (opN uOps4 1)).run Tryz.prog w=.ok (.value (.chan (some c0))) w:=by simp [execOp,p1,ht]
 rw [hsq]
 refine Ends.seq (Ends.region (l:=[]) (a':=(a.put (some 42) (.chan (some c0))).put (some 4) (.chan (some c0))) (w':=w) (fun b k cs hb=>?_) ?_)
 . rw [hrg]
   have q0:=Zed (P:=Tryz.prog) (b:=b) (k:=k) (cs:=cs) (rest:=[1]) e0 g0 r0
   rw [d0] at q0
   have q1:=Zed (P:=Tryz.prog) (b:=b) (k:=k) (cs:=cs) (rest:=[]) e1 g1 r1
   rw [d1] at q1
   exact .head q0 (.head q1 (Steps.refl _ _))
 . refine Ends.of_wp (wp_ret ?_)
   refine ⟨by simpa [Act.put] using hd,.chan (some c0),?_,hR⟩
   simp [results,hres,Act.put,hs]
theorem Zz2:∃ i,Tryz.prog.info? 164=some i/\i.bytes<=4096:=by
 have h:((Tryz.prog.info? 164).map fun i=>Nat.ble i.bytes 4096)=some true:=by kernel_rfl
 obtain ⟨i,hi,hb⟩:=Option.map_eq_some_iff.1 h
 exact ⟨i,hi,Nat.le_of_ble_eq_true hb⟩
theorem ZwX:∃ d,Tryz.prog.underlying 165=some (.chan d 164):=by
 have h:(match Tryz.prog.underlying 165 with | some (.chan _ e)=>Nat.beq e 164 | _=>false)=true:=by kernel_rfl
 split at h
 . rename_i d e he
   have:=Nat.eq_of_beq_eq_true h
   subst this
   exact ⟨d,he⟩
 . cases h
theorem ZCo (w:World):(Instr.makeChan 165 (.int .i64 1)).run Tryz.prog w=.ok (.chan (some w.heap.size)) (w.alloc (.chan 1 #[] false 0 0 false)):=by
 obtain ⟨i,hi,hb⟩:=Zz2
 obtain ⟨d,hd⟩:=ZwX
 simpa using run_makeChan (P:=Tryz.prog) (w:=w) hd hi .i64 1 (by omega) (by omega)
def ZCJ (c1:Cx) (ob:List (Nat×AV)) (w0:World) (ok:Nat->Prop) (r:Option Turn) (w':World) (c:Nat):Prop := ∃ s buf mu', NewTo c1 c /\ w0.heap.size <= c /\ Mem w0 (cx w' ob mu' ok) /\ Mono c1 (cx w' ob mu' ok) /\ (cx w' ob mu' ok).okb c /\ w'.heap[c]? = some (.chan 1 buf false s 0 false) /\ (match r with | some u=>∃ v,buf=#[v]/\Mill.V (cx w' ob mu' ok) ((Zaq ZaG).enc u) v | none=>buf=#[])
theorem Zvb {x:Wld} {t:Int} {r:Option Turn} {w0 w:World} {ok:Nat->Prop} {mu:Nat->Option Nat} {args:Array Value} (hF:Zct x t=some r) (hm:Mem w0 (cx w (Zbh celWorld x) mu ok))
   (hv:VL (cx w (Zbh celWorld x) mu ok) [.ptr 65536 0,.i t] args.toList) :
   Calls Tryz.prog 101 args w fun e w'=>∃ c,e=.returned (.chan (some c))/\ZCJ (cx w (Zbh celWorld x) mu ok) (Zbh celWorld x) w0 ok r w' c:=by
 have hbody:Tryz.f101.body=some uC:=by kernel_rfl
 have hnt:Tryz.f101.ntmps=43:=by kernel_rfl
 have hsq:uC=.seq (ZaW uC) (.seq (.region 1 uOps1 false) (.seq (.seq uC2 (.cond (.tmp 14) (.region 3 uOps3 true) .skip)) uC4)):=by kernel_rfl
 refine Zhn Tryz.func101 hbody ?_ (fun w' h=>by obtain ⟨_,h,_⟩:=h;cases h)
 have hr0:R w0 ok 43 [] (ut0 x t) _ w mu:=Zfn (nt:=43) hm hv (by simp)
 rw [hnt]
 generalize hA:({ tmps:=args++Array.replicate (43-args.size) undef,defers:=[] }:Act)=a0 at hr0 ⊢
 obtain ⟨c1,hc1⟩:∃ c1,c1=cx w (Zbh celWorld x) mu ok:=⟨_,rfl⟩
 have hmono0:Mono c1 (cx w (ut0 x t).ob mu ok):=by rw [hc1];exact Mono.refl _
 rw [<- hc1]
 rw [hsq]
 have hl0:ZaZ (ZaW uC)=[]:=by kernel_rfl
 refine Ends.seq (ZtH uG (Zba uG 6) (Mono.stays c1) _ hl0 ⟨mu,hr0,hmono0⟩ (uk0 x t) ?_)
 intro e1 σ1 a1 w1 hh1 hk1
 cases hk1
 show Ends _ _ _ _ _
 obtain ⟨mu1,hr1,hj1⟩:=hh1
 have hb1:Below w1.heap.size w1 (w1.alloc (.chan 1 #[] false 0 0 false)):=(Below.refl _ w1).alloc (Nat.le_refl _) _
 obtain ⟨mu2,hr2,hmono2⟩:=hr1.besideM hb1
 have hnew:(w1.alloc (.chan 1 #[] false 0 0 false)).heap[w1.heap.size]?=some (.chan 1 #[] false 0 0 false):=heap_alloc_new w1 _
 have hsz:w1.heap.size<(w1.alloc (.chan 1 #[] false 0 0 false)).heap.size:=by rw [World.size_alloc];omega
 have hmk:=ZCo w1
 have hge0:w0.heap.size<=w1.heap.size:=hr1.mem.ext.size
 have hc0:w1.heap.size<=w1.heap.size:=Nat.le_refl _
 have hokn:ok w1.heap.size:=hr1.mem.new_ok (Nat.le_refl _)
 have hge:NewTo c1 w1.heap.size:=Zyy hj1
 have hj2:Mono c1 (cx (w1.alloc (.chan 1 #[] false 0 0 false)) (ut1 x t).ob mu2 ok):=hj1.trans hmono2
 clear hj1 hr1 hmono2
 generalize w1.heap.size=c0 at *
 generalize w1.alloc (.chan 1 #[] false 0 0 false)=w2 at *
 have e0:uOps1[0]?=some (opN uOps1 0):=by kernel_rfl
 have e1:uOps1[1]?=some (opN uOps1 1):=by kernel_rfl
 have p0:(opN uOps1 0).op=.makeChan 165 (.const (.int .i64 1)):=by kernel_rfl
 have p1:(opN uOps1 1).op=.assign (.tmp 6):=by kernel_rfl
 have g0:(opN uOps1 0).guard=none:=by kernel_rfl
 have g1:(opN uOps1 1).guard=none:=by kernel_rfl
 have d0:(opN uOps1 0).dst=some 6:=by kernel_rfl
 have d1:(opN uOps1 1).dst=some 5:=by kernel_rfl
 have hrg:List.range uOps1.size=[0,1]:=by kernel_rfl
 have r0:(execOp a1.eval (opN uOps1 0)).run Tryz.prog w1=.ok (.value (.chan (some c0))) w2:=by simp [execOp,p0,Act.eval,hmk]
 have hr3:=hr2.set (dst:=some 6) (v:=.cst (.chan (some c0))) (u:=.chan (some c0)) (by decide) rfl
 have h6:(a1.put (some 6) (.chan (some c0))).eval (.tmp 6)=.chan (some c0):=Zf8 hr3 6 (look_eq _ _ _)
 have r1:(execOp (a1.put (some 6) (.chan (some c0))).eval (opN uOps1 1)).run Tryz.prog w2=.ok (.value (.chan (some c0))) w2:=by simp [execOp,p1,h6]
 have hr4:=hr3.set (dst:=some 5) (v:=.cst (.chan (some c0))) (u:=.chan (some c0)) (by decide) rfl
 refine Ends.seq (Ends.region (l:=[]) (a':=(a1.put (some 6) (.chan (some c0))).put (some 5) (.chan (some c0))) (w':=w2) (fun b k cs hb=>?_) ?_)
 . rw [hrg]
   have q0:=Zed (P:=Tryz.prog) (b:=b) (k:=k) (cs:=cs) (rest:=[1]) e0 g0 r0
   rw [d0] at q0
   have q1:=Zed (P:=Tryz.prog) (b:=b) (k:=k) (cs:=cs) (rest:=[]) e1 g1 r1
   rw [d1] at q1
   exact .head q0 (.head q1 (Steps.refl _ _))
 have hJ:ChanF c0 c1 (cx w2 (ut3 x t c0).ob mu2 ok):=by
   refine ⟨⟨⟨hokn,hsz,fun id hid=>?_⟩,hnew⟩,hj2⟩
   obtain ⟨cur,e,q,hcell⟩:=Zr1 hr4.mem hid
   have hcell:w2.heap[c0]?=_:=hcell
   rw [hnew] at hcell
   cases hcell
 have hh4:Holds (ChanF c0 c1) w0 ok 43 [] (ut3 x t c0) ((a1.put (some 6) (.chan (some c0))).put (some 5) (.chan (some c0))) w2:=⟨mu2,hr4,hJ⟩
 have hl2:ZaZ uC2=[]:=by kernel_rfl
 refine Ends.seq (Ends.seq (ZtH uG (Zba uG 6) (ChanF.stays c0 c1) uC2 hl2 hh4 ((uk2 x t c0).trans (ZyB hF)) ?_))
 intro e5 σ5 a5 w5 hh5 hk5
 cases e5 with
 | exit id=>cases hk5
 | goto l=>cases hk5
 | ret=>cases hk5
 | normal =>
 show Ends _ _ _ _ _
 simp only [uK2] at hk5
 split at hk5
 case h_2=>cases hk5
 rename_i b hb14
 obtain ⟨mu5,hr5,hj5⟩:=hh5
 have h14:a5.eval (.tmp 14)=.bool b:=Zf8 hr5 14 hb14
 refine Ends.cond h14 ?_
 cases b with
 | false =>
   simp only [cond_false,Option.some.injEq] at hk5
   have hr:r=none:=by
     cases r with
     | none=>rfl
     | some u =>
       simp only [uAns,Prod.mk.injEq] at hk5
       cases hk5.1
   subst hr
   simp only [uAns,Prod.mk.injEq] at hk5
   obtain ⟨_,_,_,k5,kob⟩:=hk5
   refine Ends.of_wp (wp_skip ?_)
   show Ends _ _ _ _ _
   refine ZsK (Zf8 hr5 5 k5) hr5.defers hr5.size ⟨c0,rfl,0,#[],mu5,hge,hge0,?_,?_,?_,hj5.1.2,rfl⟩
   . rw [<- kob];exact hr5.mem
   . rw [<- kob];exact hj5.2
   . rw [<- kob];exact hj5.1.1
 | true =>
   simp only [cond_true] at hk5
   have hsz3:uOps3.size=27+1:=by kernel_rfl
   have hszx:uOps3x.size=27:=by kernel_rfl
   have hX:∀ i,i<27->uOps3x[i]?=uOps3[i]?:=by
     intro i hi
     unfold uOps3x
     rw [List.getElem?_toArray,List.getElem?_take,if_pos hi,Array.getElem?_toList]
   have hgd:(uOps3x.all fun o=>o.guard.isNone)=true:=by kernel_rfl
   have hback:Zev 0 uOps3.toList=true:=by kernel_rfl
   have hwait:Zep (CheckFast.beforeL uOps3.toList 0 []) 27=true:=by kernel_rfl
   refine Ends.region_drawn (V:=uE) (J:=ChanF c0 c1) uG (Zba uG 6) (ChanF.stays c0 c1) hsz3 hszx hX hgd hback hwait ⟨mu5,hr5,hj5⟩ hk5 ?_
   intro σ6 a6 w6 hh6 hk6 b k cs hb
   obtain ⟨mu6,hr6,hj6⟩:=hh6
   have hr:∃ u,r=some u:=by
     cases r with
     | some u=>exact ⟨u,rfl⟩
     | none =>
       simp only [uAns,uSee,Option.some.injEq,Prod.mk.injEq] at hk6
       cases hk6.1
   obtain ⟨u,rfl⟩:=hr
   simp only [uAns,uSee,Option.some.injEq,Prod.mk.injEq] at hk6
   obtain ⟨_,k15,k41,k5,kob⟩:=hk6
   have e27:uOps3[27]?=some (opN uOps3 27):=by kernel_rfl
   have p27:(opN uOps3 27).op=.send (.tmp 15) (.tmp 41):=by kernel_rfl
   have g27:(opN uOps3 27).guard=none:=by kernel_rfl
   have d27:(opN uOps3 27).dst=none:=by kernel_rfl
   have h15:a6.eval (.tmp 15)=.chan (some c0):=Zf8 hr6 15 k15
   have hsend:=ZsE (P:=Tryz.prog) (b:=b) (k:=k) (cs:=cs) (rest:=[]) hb e27 g27 p27 h15 hj6.1.2 (by simp)
   rw [d27] at hsend
   have ht:Turned w6 (w6.setChan c0 1 (#[].push (a6.eval (.tmp 41))) false (0+1) 0 false) fun k=>k=c0:=Zma _ _ _ _ _ _ _ _
   have hnew7:(w6.setChan c0 1 (#[].push (a6.eval (.tmp 41))) false (0+1) 0 false).heap[c0]?=some (.chan 1 (#[].push (a6.eval (.tmp 41))) false (0+1) 0 false):=heap_setChan _ _ _ _ _ _ _ _ hj6.1.1.2.1
   have hsz7:(w6.setChan c0 1 (#[].push (a6.eval (.tmp 41))) false (0+1) 0 false).heap.size=w6.heap.size:=size_setChan _ _ _ _ _ _ _ _
   generalize w6.setChan c0 1 (#[].push (a6.eval (.tmp 41))) false (0+1) 0 false=w7 at *
   have hr7:R w0 ok 43 [] σ6 a6 w7 mu6:=hr6.turn ht hj6.1.2 rfl (Nat.le_trans hge0 hc0) (fun d hd=>by cases hd)
   have hj7:Mono c1 (cx w7 σ6.ob mu6 ok):=Zpk hj6.2 ht hj6.1.2 rfl hge
   refine ⟨.normal,a6,w7,?_,.head hsend (.one step_region_end)⟩
   exact ZsK (Zf8 hr7 5 k5) hr7.defers hr7.size ⟨c0,rfl,1,#[].push (a6.eval (.tmp 41)),mu6,hge,Nat.le_trans hge0 hc0,by rw [<- kob];exact hr7.mem,by rw [<- kob];exact hj7,
     by rw [<- kob];exact ⟨hj6.1.1.1,by rw [show (cx w7 σ6.ob mu6 ok).w.heap.size=w7.heap.size from rfl,hsz7];exact hj6.1.1.2.1,hj6.1.1.2.2⟩,hnew7,_,rfl,by rw [<- kob];exact Zf8 hr7 41 k41⟩
end Go.Proofs.Mill
