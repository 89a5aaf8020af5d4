/- world.pick: it turns the world that it is told of. -/
import Derived.Test.YtaopdopnecognaaGreatMillTurns
set_option linter.all false
set_option maxRecDepth 100000
noncomputable section
namespace Go.Proofs.Mill
open Go.RowKit Go.Conc
def pE:Env:=env1 [(90,s90)]
theorem pG:Zai pE:=Zal mix1 ent1 (Zab ok90 rfl Zah)
theorem qk1 (x:Wld) (t:Int) (c:Nat) (b:Bool) (u:Turn):Zxk pE (qp4 x t c 0 b ((Zaq ZaG).enc u))=Zhc x t u:=by kernel_rfl
theorem qk2 (st:qV.α):Zqv pE st=ZcK st:=by kernel_rfl
theorem qk3 (st:qX.α):Zxn pE st=Zhf st:=by kernel_rfl
theorem Frm.of_mono {c c':Cx} {p:Value} (h:Mono c c') (hp:PtrV c 65536 0 p):Frm c c' p:=⟨h.blk,h.off,h.ptr _ _ _ hp⟩
theorem qx0 (y:qX.α):look (build Zqb (qX.enc y)).tm 0=.ptr 65536 0:=by kernel_rfl
theorem qv0 (y:qV.α):look (build ZqU (qV.enc y)).tm 0=.ptr 65536 0:=by kernel_rfl
theorem Zym {c1:Cx} {p:Value} {w0:World} {ok:Nat->Prop} {st:qV.α} {y:qX.α} (h:Loops ZcK st y):∀ (a:Act) (w:World),Holds (fun c=>Frm c1 c p) w0 ok 100 [] (build ZqU (qV.enc st)) a w ->
   Zd6 none pE.P Zxt (fun e a' w'=>e=.exit 1/\Holds (fun c=>Frm c1 c p) w0 ok 100 [] (build Zqb (qX.enc y)) a' w') a w:=by
 induction h with
 | done x y h =>
   intro a w hh
   have hk:Zqv pE x=some (.inr y):=(qk2 x).trans h
   unfold Zqv at hk
   refine Zc6 (ZbM pG (Frm.stays c1 p) hh hk fun e σ' a' w' hh' h'=>?_)
   unfold Ztr at h'
   split at h'
   . cases hp:pinned σ' with
     | false=>rw [hp] at h';cases h'
     | true =>
       rw [hp] at h'
       simp only [cond_true] at h'
       (repeat' (split at h')) <;> cases h'
   . cases hp:pinned σ' with
     | false=>rw [hp] at h';cases h'
     | true =>
       rw [hp] at h'
       simp only [cond_true] at h'
       split at h'
       case h_2=>cases h'
       rename_i hd hn
       split at h'
       case h_2=>cases h'
       rename_i z hz
       cases h'
       have hl:=qX.law _ _ hz
       have h0:=qx0 y
       rw [<- hl] at h0 ⊢
       exact ⟨rfl,Zp4 hh' hp hn h0⟩
   . cases h'
 | more x x' y h _ ih =>
   intro a w hh
   have hk:Zqv pE x=some (.inl x'):=(qk2 x).trans h
   unfold Zqv at hk
   refine Zc6 (ZbM pG (Frm.stays c1 p) hh hk fun e σ' a' w' hh' h'=>?_)
   unfold Ztr at h'
   split at h'
   . cases hp:pinned σ' with
     | false=>rw [hp] at h';cases h'
     | true =>
       rw [hp] at h'
       simp only [cond_true] at h'
       split at h'
       case h_2=>cases h'
       rename_i hd hn
       split at h'
       case h_2=>cases h'
       rename_i z hz
       cases h'
       have hl:=qV.law _ _ hz
       have h0:=qv0 x'
       rw [<- hl] at h0 ih
       exact ih a' w' (Zp4 hh' hp hn h0)
   . cases hp:pinned σ' with
     | false=>rw [hp] at h';cases h'
     | true =>
       rw [hp] at h'
       simp only [cond_true] at h'
       (repeat' (split at h')) <;> cases h'
   . cases h'
def qOps0:Array Oper:=cOps (ZaW qC)
def qOps1:Array Oper:=cOps (ZaW (Zax qC))
theorem qr0 (x:Wld) (t:Int):Zfx pE 1 100 qOps0 [0,1] (qp0 x t)=some (qp1 x t):=by kernel_rfl
theorem qr1 (x:Wld) (t:Int) (c:Nat) (i:Int) (b:Bool) (v:AV):Zfx pE 1 100 qOps1 [1,2] (qp3 x t c i b v)=some (qp4 x t c i b v):=by kernel_rfl
theorem ZzL:∃ z,∀ w,(zeroValue 164).run Tryz.prog w=.ok z w:=by
 have h:((Tryz.prog.info? 164).bind (·.zero)).isSome=true:=by kernel_rfl
 obtain ⟨z,hz⟩:=Option.isSome_iff_exists.1 h
 obtain ⟨i,hi,hz⟩:=Option.bind_eq_some_iff.1 hz
 exact ⟨z,fun w=>by simp [zeroValue,typeInfo,hi,hz]⟩
theorem results_none {fn:Func} (h:fn.results=#[]) (P:Program) (tmps:Array Value) (w:World):(results fn tmps).run P w=.ok (.tuple #[]) w:=by
 simp [results,h]
def ZoS (c1:Cx) (w0:World) (ok:Nat->Prop) (p:Value) (y:Wld) (e:Ending) (w':World):Prop := ∃ u ob' mu', e = .returned u /\ Mem w0 (cx w' ob' mu' ok) /\ Frm c1 (cx w' ob' mu' ok) p /\ Mill.V (cx w' ob' mu' ok) (.tup []) u /\ ∃ cs ob3,look ob' 65536=.box cs/\Zcb celWorld.kds cs ((65536,.dead)::ob')=some (celWorld.enc y,ob3)
theorem qres:Tryz.f77.results=#[]:=by kernel_rfl
theorem qbig:qBig=.seq qA1 (.seq qA2 (.seq qA3 (.seq (.seq qA4 (.block 1 (.loop Zxt))) qEnd))):=by kernel_rfl
theorem pE_P:pE.P=Tryz.prog:=rfl
theorem ZAm {c1:Cx} {p:Value} {w0 w:World} {ok:Nat->Prop} {a:Act} {σ:St} {y:Wld} {st:qV.α} {st':qX.α} (hh:Holds (fun c=>Frm c1 c p) w0 ok 100 [] σ a w) (h1:Zxk pE σ=some st) (h2:Loops ZcK st st') (h3:Zhf st'=some y) :
   qBig.wpIn (Za4 none) 0 pE.P (fun e a w=>e=.normal/\a.defers=[]/\ZoS c1 w0 ok p y (.returned (.tuple #[])) w) a w:=by
 rw [qbig]
 unfold Zxk at h1
 refine wpIn_seq (ZbM pG (Frm.stays c1 p) hh h1 fun e1 σ1 a1 w1 hh1 k1=>?_)
 cases e1 with
 | exit id=>cases k1
 | goto l=>cases k1
 | ret=>cases k1
 | normal =>
 refine wpIn_seq (ZbM pG (Frm.stays c1 p) hh1 k1 fun e2 σ2 a2 w2 hh2 k2=>?_)
 cases e2 with
 | exit id=>cases k2
 | goto l=>cases k2
 | ret=>cases k2
 | normal =>
 refine wpIn_seq (ZbM pG (Frm.stays c1 p) hh2 k2 fun e3 σ3 a3 w3 hh3 k3=>?_)
 cases e3 with
 | exit id=>cases k3
 | goto l=>cases k3
 | ret=>cases k3
 | normal =>
 refine wpIn_seq (wpIn_seq (ZbM pG (Frm.stays c1 p) hh3 k3 fun e4 σ4 a4 w4 hh4 k4=>?_))
 cases e4 with
 | exit id=>cases k4
 | goto l=>cases k4
 | ret=>cases k4
 | normal =>
 simp only at k4
 cases hp:pinned σ4 with
 | false=>rw [hp] at k4;cases k4
 | true =>
 rw [hp] at k4
 simp only [cond_true] at k4
 split at k4
 case h_2=>cases k4
 rename_i hd hn
 have hl:=qV.law _ _ k4
 have h0:=qv0 st
 rw [<- hl] at h0
 have hh5:=Zp4 hh4 hp hn h0
 rw [hl] at hh5
 refine wpIn_block (Zgv (ZlX (Zym h2 a4 w4 hh5) fun e a5 w5 he=>?_))
 obtain ⟨rfl,hh6⟩:=he
 show Exit.inBlock 1 _ (.exit 1) a5 w5
 unfold Exit.inBlock
 simp only [if_true]
 show qEnd.wpIn _ _ _ _ a5 w5
 have h3:Zxn pE st'=some y:=(qk3 st').trans h3
 unfold Zxn at h3
 refine ZbM pG (Frm.stays c1 p) hh6 h3 fun e7 σ7 a7 w7 hh7 k7=>?_
 unfold qFin at k7
 split at k7
 case h_2=>cases k7
 split at k7
 case h_2=>cases k7
 rename_i cs hcs
 split at k7
 case h_2=>cases k7
 rename_i xs ob3 hx
 have:=celWorld.law _ _ k7
 subst this
 obtain ⟨mu7,hr7,hj7⟩:=hh7
 exact ⟨rfl,hr7.defers,.tuple #[],σ7.ob,mu7,rfl,hr7.mem,hj7,⟨#[],rfl,trivial⟩,cs,ob3,hcs,hx⟩
theorem qdef (x:Wld):∃ cs ob3,look (Zbh celWorld x) 65536=.box cs/\Zcb celWorld.kds cs ((65536,.dead)::Zbh celWorld x)=some (celWorld.enc x,ob3):=by
 have k7:(match look (Zbh celWorld x) 65536 with
   | .box cs => (match Zcb celWorld.kds cs ((65536, .dead) :: Zbh celWorld x) with
     | some (xs,_)=>celWorld.dec xs
     | none=>none)
   | _=>none)=some x:=by kernel_rfl
 split at k7
 case h_2=>cases k7
 rename_i cs hcs
 split at k7
 case h_2=>cases k7
 rename_i xs ob3 hx
 have:=celWorld.law _ _ k7
 subst this
 exact ⟨cs,ob3,hcs,hx⟩
theorem ZzW:ZA3 Tryz.prog 77 celWorld Zoa:=by
 intro w0 ok w mu p vals x t y hF hm hv hp hvals
 have hF:Zb6 x t=some y:=hF
 have hbody:Tryz.f77.body=some qC:=by kernel_rfl
 have hnt:Tryz.f77.ntmps=100:=by kernel_rfl
 have hsq:qC=.seq (.region 0 qOps0 false) (.seq (.region 1 qOps1 false) (.block 0 (.cond (.tmp 14) qBig .skip))):=by kernel_rfl
 obtain ⟨c1,hc1⟩:∃ c1,c1=cx w (Zbh celWorld x) mu ok:=⟨_,rfl⟩
 have hmono0:Mono c1 (cx w (qp0 x t).ob mu ok):=by rw [hc1];exact Mono.refl _
 have hpc:PtrV c1 65536 0 p:=by rw [hc1];exact hp
 rw [<- hc1]
 refine Calls.mono (R:=ZoS c1 w0 ok p y) ?_ (fun e w' h=>h)
 refine Zhn Tryz.func77 hbody ?_ (fun w' h=>by obtain ⟨_,_,_,h,_⟩:=h;cases h)
 have hr0:R w0 ok 100 [] (qp0 x t) _ w mu:=Zfn (nt:=100) hm hv (by simp)
 rw [hnt]
 generalize hA:({ tmps:=vals++Array.replicate (100-vals.size) undef,defers:=[] }:Act)=a0 at hr0 ⊢
 rw [hsq]
 obtain ⟨a2,w2,hh2,hst2⟩:=Zgt (Mono.stays c1) ⟨mu,hr0,hmono0⟩ (qr0 x t)
 obtain ⟨mu2,hr2,hj2⟩:=hh2
 have e1:qOps0[2]?=some (opN qOps0 2):=by kernel_rfl
 have p1:(opN qOps0 2).op=.call { callee:=.value (.func 101),args:=#[.tmp 9,.tmp 10],argTypes:=#[111,3] }:=by kernel_rfl
 have g1:(opN qOps0 2).guard=none:=by kernel_rfl
 have d1:(opN qOps0 2).dst=some 11:=by kernel_rfl
 have hrg:List.range qOps0.size=[0,1]++[2]:=by kernel_rfl
 have hent:Zd9 Tryz.prog 101:=pG.2.2.1 101 (by kernel_rfl)
 obtain ⟨r,hr⟩:∃ r,Zct x t=some r:=by
   unfold Zb6 at hF
   cases h:Zct x t with
   | none=>rw [h] at hF;cases hF
   | some r=>exact ⟨r,rfl⟩
 have h9:=Zf8 hr2 9 (x:=.ptr 65536 0) rfl
 have h10:=Zf8 hr2 10 (x:=.i t) rfl
 have hcall:=Zvb (args:=#[a2.eval (.tmp 9),a2.eval (.tmp 10)]) hr (show Mem w0 (cx w2 (Zbh celWorld x) mu2 ok) from hr2.mem) ⟨h9,h10,trivial⟩
 refine Ends.seq (Ends.region (l:=[2]) (a':=a2) (w':=w2) (fun b k cs hb=>?_) ?_)
 . rw [hrg]
   exact hst2 b k cs [2]
 have hwant:Region.wanted (opN qOps0 2) (yielded qOps0 a2.tmps)=true:=by simp [Region.wanted,g1]
 simp only [wpOps,e1,hwant,if_true]
 refine .inl ?_
 have hrun:=ZhB (V:=pE) (w:=w2) (a:=a2) (caps:=#[]) p1 rfl rfl hent
 unfold Oper.wp
 rw [show (execOp a2.eval (opN qOps0 2)).run Tryz.prog w2=_ from hrun,Oper.upon_enter]
 have hargs:(#[Operand.tmp 9,Operand.tmp 10]:Array Operand).map a2.eval++(#[]:Array Value)=#[a2.eval (.tmp 9),a2.eval (.tmp 10)]:=by simp
 refine (show Calls Tryz.prog 101 ((#[Operand.tmp 9,Operand.tmp 10]:Array Operand).map a2.eval++(#[]:Array Value)) w2 _ from by rw [hargs];exact hcall).mono fun e w3 he=>?_
 obtain ⟨c,rfl,s,buf,mu3,hnew,hc0,hm3,hmono3,hokc,hc3,hbuf⟩:=he
 rw [d1]
 show Ends _ _ _ _ _
 have hj3:Mono c1 (cx w3 (Zbh celWorld x) mu3 ok):=hj2.trans hmono3
 have hnew1:NewTo c1 c:=hnew.back hj2
 have hr3:R w0 ok 100 [] (qp1 x t) a2 w3 mu3:=hr2.go hm3 hmono3
 have hr3':=hr3.set (dst:=some 11) (v:=.cst (.chan (some c))) (u:=.chan (some c)) (by decide) rfl
 have e0:qOps1[0]?=some (opN qOps1 0):=by kernel_rfl
 have p0:(opN qOps1 0).op=.select #[{ chan:=.tmp 11,send:=none,elem:=164 }] false:=by kernel_rfl
 have g0:(opN qOps1 0).guard=none:=by kernel_rfl
 have d0:(opN qOps1 0).dst=some 12:=by kernel_rfl
 have hrgC:List.range qOps1.size=0::([1,2]++[]):=by kernel_rfl
 have h11:(a2.put (some 11) (.chan (some c))).eval (.tmp 11)=.chan (some c):=Zf8 hr3' 11 (look_eq _ _ _)
 obtain ⟨z,hz⟩:=ZzL
 have rest:∀ (i:Int) (b:Bool) (v:AV) (u:Value) (w4:World),Turned w3 w4 (fun k=>k=c)\/w4=w3->(∀ w4,Turned w3 w4 (fun k=>k=c)\/w4=w3->Mill.V (cx w4 (Zbh celWorld x) mu3 ok) v u) ->
     (∀ (b2:Frame) (k:List Item) (cs:List Frame),b2.kind=.normal->step Tryz.prog (lone (b2.at (a2.put (some 11) (.chan (some c))) (.inRegion qOps1 (0::([1,2]++[]))::k)) cs w3) =
       .next (lone (b2.at ((a2.put (some 11) (.chan (some c))).put (some 12) (.tuple #[goInt i,.bool b,u])) (.inRegion qOps1 ([1,2]++[])::k)) cs w4)) ->
     (∀ (a4:Act) (w4:World),Holds (fun c=>Mono c1 c) w0 ok 100 [] (qp4 x t c i b v) a4 w4->(if (i == 0)=true then qBig else .skip).wpIn (Za4 none) 0 pE.P (fun e a w=>e=.normal/\a.defers=[]/\ZoS c1 w0 ok p y (.returned (.tuple #[])) w) a4 w4) ->
     Ends Tryz.prog (.seq (.region 1 qOps1 false) (.block 0 (.cond (.tmp 14) qBig .skip))) (bodyPost Tryz.prog Tryz.f77 (ZoS c1 w0 ok p y)) (a2.put (some 11) (.chan (some c))) w3:=by
   intro i b v u w4 hw4 hvu hstep hgo
   have hr4:R w0 ok 100 [] ⟨(11,.cst (.chan (some c)))::(qp1 x t).tm,Zbh celWorld x⟩ (a2.put (some 11) (.chan (some c))) w4 mu3:=by
     rcases hw4 with ht | rfl
     . exact hr3'.turn ht hc3 rfl hc0 (fun d hd=>by cases hd)
     . exact hr3'
   have hj4:Mono c1 (cx w4 (Zbh celWorld x) mu3 ok):=by
     rcases hw4 with ht | rfl
     . exact Zpk hj3 ht hc3 rfl hnew1
     . exact hj3
   have hr5:=hr4.set (dst:=some 12) (v:=.tup [.i i,.bool b,v]) (u:=.tuple #[goInt i,.bool b,u]) (by decide) ⟨_,rfl,rfl,rfl,hvu w4 hw4,trivial⟩
   obtain ⟨a6,w6,hh6,hst6⟩:=Zgt (Mono.stays c1) ⟨mu3,hr5,hj4⟩ (qr1 x t c i b v)
   have hh6':=hh6
   obtain ⟨mu6,hr6,hj6⟩:=hh6
   have h14:a6.eval (.tmp 14)=.bool (i == 0):=Zf8 hr6 14 (look_eq _ _ _)
   refine Ends.seq (Ends.region (l:=[]) (a':=a6) (w':=w6) (fun b k cs hb=>?_) ?_)
   . rw [hrgC]
     exact .head (hstep b k cs hb) (hst6 b k cs [])
   . show Ends _ _ _ _ _
     refine Ends.of_wp ((wpIn_wide (n:=0)).1 ?_)
     refine wpIn_block (wpIn_cond h14 ?_)
     have hg:=hgo a6 w6 hh6'
     rw [pE_P] at hg
     refine Go.Code.wpIn_mono (fun e a w he=>?_) hg
     obtain ⟨rfl,hd,ho⟩:=he
     show Exit.inBlock 0 _ .normal a w
     exact ⟨hd,.tuple #[],results_none qres _ _ _,ho⟩
 unfold Zb6 at hF
 rw [hr] at hF
 have hV:∀ {v:AV} {u:Value},Mill.V (cx w3 (Zbh celWorld x) mu3 ok) v u->∀ w4,Turned w3 w4 (fun k=>k=c)\/w4=w3->Mill.V (cx w4 (Zbh celWorld x) mu3 ok) v u:=by
   intro v u h w4 hw4
   rcases hw4 with ht | rfl
   . exact (ZhI (ob:=Zbh celWorld x) (mu:=mu3) (ok:=ok) ht hc3 rfl).v _ _ h
   . exact h
 cases r with
 | some u =>
   obtain ⟨v,rfl,hvv⟩:=hbuf
   have hstep:=fun (b2:Frame) (k:List Item) (cs:List Frame) (hb:b2.kind=.normal)=>Zlq (P:=Tryz.prog) (k:=k) (cs:=cs) (rest:=[1,2]++[]) hb e0 g0 p0 h11 (hz w3) hc3 (by simp)
   rw [d0] at hstep
   have hb0:(#[v]:Array Value).getD 0 undef=v:=rfl
   rw [hb0] at hstep
   simp only at hF
   split at hF
   case h_2=>cases hF
   rename_i st hst
   split at hF
   case h_2=>cases hF
   rename_i st' hst'
   refine rest 0 true ((Zaq ZaG).enc u) v _ (.inl (Zma _ _ _ _ _ _ _ _)) (fun w4 h=>hV hvv w4 h) hstep fun a4 w4 hh4=>?_
   obtain ⟨mu4,hr4,hj4⟩:=hh4
   rw [if_pos (show ((0:Int) == 0)=true from rfl)]
   exact ZAm (c1:=c1) (p:=p) ⟨mu4,hr4,Frm.of_mono hj4 hpc⟩ ((qk1 x t c true u).trans hst) (whileM_some.1 hst') hF
 | none =>
   simp only at hbuf
   subst hbuf
   have hstep:=fun (b2:Frame) (k:List Item) (cs:List Frame) (hb:b2.kind=.normal)=>Ziu (P:=Tryz.prog) (k:=k) (cs:=cs) (rest:=[1,2]++[]) hb e0 g0 p0 h11 (hz w3) hc3
   rw [d0] at hstep
   have hxy:x=y:=Option.some.inj hF
   subst hxy
   refine rest (-1) false .undef z w3 (.inr rfl) (fun _ _=>trivial) hstep fun a4 w4 hh4=>?_
   obtain ⟨mu4,hr4,hj4⟩:=hh4
   rw [if_neg (show ¬((-1:Int) == 0)=true by decide)]
   exact wpIn_skip ⟨rfl,hr4.defers,.tuple #[],_,mu4,rfl,hr4.mem,Frm.of_mono hj4 hpc,⟨#[],rfl,trivial⟩,qdef x⟩
def x77:XSpec:=varX celWorld 3 Zoa
theorem ZAU:ZAT Tryz.prog 77 x77:=ZBN (fun b y=>by kernel_rfl) ZzW
end Go.Proofs.Mill
