/- tape.Next: the draw that is ahead, over a channel of its own. -/
import Derived.Test.YtaopdopnecognaaGreatMillOkAb
import Derived.Test.YtaopdopnecognaaGreatMillAll8
import Derived.Test.YtaopdopnecognaaGreatMillFT2b
set_option linter.all false
noncomputable section
namespace Go.Proofs.Mill
open Go.RowKit Go.Conc
def tE:Env:=env1 [(204,s204)]
theorem tG:Zai tE:=Zal mix1 ent1 (Zab ZC9 rfl Zah)
def ChanJ (c0:Nat) (c:Cx):Prop:=c.okb c0/\c.w.heap[c0]?=some (.chan 1 #[] false 0 0 false)
theorem ChanJ.stays (c0:Nat):Stays (ChanJ c0):=fun c c' h hm=>⟨(hm.blk c0 h.1).1,((hm.blk c0 h.1).2).trans h.2⟩
def ZeA:Code:=(Tryz.f202.body).getD .skip
def fstC:Code->Code | .seq a _=>a | c=>c
def sndC:Code->Code | .seq _ b=>b | c=>c
theorem ZuF {ρ:Type} {V:Env} {J:Cx->Prop} {inl:Inl ρ} {fid nt rounds:Nat} (hG:Zai V) (hI:Zgb V inl) (hJ:Stays J) (c:Code) {w0 w:World} {ok:Nat->Prop} {σ:St} {a:Act} {k:Ex->St->Option ρ} {r:ρ}
    {Q:Exit->Act->World->Prop} (hl:ZaZ c=[]) (hh:Holds J w0 ok nt [] σ a w) (h:evK V (fun _=>none) inl fid nt rounds c σ k=some r)
    (hn:∀ e σ' a' w',Holds J w0 ok nt [] σ' a' w'->k e σ'=some r->Q e.to a' w'):c.wp V.P Q a w :=
  wpIn_wide.1 (ZfF (Δ:=fun ds=>ds=[]) (ro:=none) hG hI hJ (fun _ _ h=>by cases h) (fun _ _ h=>by cases h) c (fun c' hc'=>by rw [hl] at hc';cases hc') ⟨[],rfl,hh⟩ h
    fun e σ' a' w' hh' h'=>by obtain ⟨ds,rfl,hh'⟩:=hh';exact hn e σ' a' w' hh' h':Code.wpIn Fence.wide 0 V.P _ Q a w)
def runC (c:Code) (σ:St):Option (Ex×St):=evK tE (fun _=>none) (inlK tE 20 6) 1 16 20 c σ (fun e σ=>some (e,σ))
theorem Zwi {J:Cx->Prop} {w0 w:World} {ok:Nat->Prop} {c:Code} {σ σ':St} {e:Ex} {a:Act} {Q:Exit->Act->World->Prop} (hJ:Stays J) (hh:Holds J w0 ok 16 [] σ a w) (hr:runC c σ=some (e,σ'))
   (hl:ZaZ c=[]) (hq:∀ a' w',Holds J w0 ok 16 [] σ' a' w'->Q e.to a' w'):Ends Tryz.prog c Q a w:=by
 refine Ends.of_wp ?_
 refine ZuF (V:=tE) (inl:=inlK tE 20 6) tG (Zba tG 6) hJ c hl hh hr ?_
 intro e2 σ2 a' w' hh' hk
 cases hk
 exact hq a' w' hh'
def Zhk (t:Tape):AV:=.agg [.lst .int t.l,.i t.at_]
def tS0 (t:Tape):St:=⟨ZbU 0 [Zhk t],[]⟩
def tS1 (t:Tape):St:=match runC (fstC ZeA) (tS0 t) with | some p=>p.2 | none=>⟨[],[]⟩
theorem run0 (t:Tape):runC (fstC ZeA) (tS0 t)=some (.normal,tS1 t):=by kernel_rfl
def tS3 (t:Tape) (c:Nat):St:=⟨(3,.cst (.chan (some c)))::(4,.cst (.chan (some c)))::(tS1 t).tm,(tS1 t).ob⟩
def Zxs:Code:=fstC (fstC (sndC (sndC ZeA)))
def tS4 (t:Tape) (c:Nat) (n:Int):St:=⟨(7,.bool (decide (n>0)))::(6,.i n)::(5,Zhk t)::(tS3 t c).tm,(tS3 t c).ob⟩
theorem run2 (t:Tape) (c:Nat):runC Zxs (tS3 t c)=match ZfW t with | some n=>some (.normal,tS4 t c n) | none=>none:=by kernel_rfl
def ops3:Array Oper:=match sndC (fstC (sndC (sndC ZeA))) with | .cond _ (.region _ ops _) _=>ops | _=>#[]
theorem Zr1 {w0:World} {c:Cx} (hm:Mem w0 c) {id b:Nat} (h:c.mu id=some b):∃ cur e q,c.w.heap[b]?=some (.cells cur e q):=by
 have ho:=hm.obj id
 unfold ObjOK at ho
 split at ho
 . obtain ⟨b',cur,e,h1,h2,_⟩:=ho
   rw [h] at h1;cases h1;exact ⟨_,_,_,h2⟩
 . rcases ho with ⟨h1,_⟩ | ⟨b',cap,cur,h1,h2,_⟩
   . rw [h] at h1;cases h1
   . rw [h] at h1;cases h1;exact ⟨_,_,_,h2.1⟩
 . rw [h] at ho;cases ho
 . rw [h] at ho;cases ho
 . rw [h] at ho;cases ho
 . rw [h] at ho;cases ho
 . exact ho.elim
theorem R.beside {ds:List Deferred} {w0 w w':World} {ok:Nat->Prop} {nt:Nat} {σ:St} {a:Act} {mu:Nat->Option Nat} (hr:R w0 ok nt ds σ a w mu) (hb:Below w.heap.size w w') :
   ∃ mu',R w0 ok nt ds σ a w' mu':=by
 obtain ⟨mu',k1,k2,_⟩:=hr.mem.join (ws:=[]) hb (Mem.none hb) (by simp) (fun p hp=>by cases hp) (fun b hb' hbs=>by
   rcases hb' with hb' | hb'
   . exact hb'.elim
   . omega)
 exact ⟨mu',hr.go k2 k1⟩
theorem ZDq:∃ i,Tryz.prog.info? 3=some i/\i.bytes=8:=by
 have h:(Tryz.prog.info? 3).map (·.bytes)=some 8:=by kernel_rfl
 obtain ⟨i,hi,hb⟩:=Option.map_eq_some_iff.1 h
 exact ⟨i,hi,hb⟩
theorem ZzR:∃ d,Tryz.prog.underlying 248=some (.chan d 3):=by
 have h:(match Tryz.prog.underlying 248 with | some (.chan _ e)=>Nat.beq e 3 | _=>false)=true:=by kernel_rfl
 split at h
 . rename_i d e he
   have:=Nat.eq_of_beq_eq_true h
   subst this
   exact ⟨d,he⟩
 . cases h
theorem ZDD (w:World):(Instr.makeChan 248 (.int .i64 1)).run Tryz.prog w=.ok (.chan (some w.heap.size)) (w.alloc (.chan 1 #[] false 0 0 false)):=by
 obtain ⟨i,hi,hb⟩:=ZDq
 obtain ⟨d,hd⟩:=ZzR
 simpa using run_makeChan (P:=Tryz.prog) (w:=w) hd hi .i64 1 (by omega) (by rw [hb];omega)
def ops1:Array Oper:=match fstC (sndC ZeA) with | .region _ ops _=>ops | _=>#[]
def ops4:Array Oper:=match fstC (sndC (sndC (sndC ZeA))) with | .region _ ops _=>ops | _=>#[]
def opAt (ops:Array Oper) (i:Nat):Oper:=(ops[i]?).getD default
def tS5 (t:Tape) (c:Nat) (n:Int):St :=
 ⟨(14,.i (t.l.getD t.at_.toNat 0))::(13,.lptr .int t.l t.at_.toNat 0)::(12,.i t.at_)::(11,.ptr 65600 1)::(10,.lst .int t.l)::(9,.ptr 65600 0)::(8,.cst (.chan (some c)))::(tS4 t c n).tm,(tS4 t c n).ob⟩
def sA (t:Tape) (c:Nat) (n:Int):St :=
 ⟨(12,.i t.at_)::(11,.ptr 65600 1)::(10,.lst .int t.l)::(9,.ptr 65600 0)::(8,.cst (.chan (some c)))::(tS4 t c n).tm,(tS4 t c n).ob⟩
theorem run3 (t:Tape) (c:Nat) (n:Int):Zfx tE 1 16 ops3 [0,1,2,3,4] (tS4 t c n)=some (sA t c n):=by kernel_rfl
theorem run5 (t:Tape) (c:Nat) (n:Int):(ZaM tE 1 (opAt ops3 5)).val (sA t c n)=bif decide (0<=t.at_) then (bif decide (t.at_<(t.l.length:Int)) then some (.lptr .int t.l t.at_.toNat 0,[]) else none) else none:=by kernel_rfl
theorem ZDw (t:Tape) (c:Nat) (n:Int):Zfx tE 1 16 ops3 [5,6] (sA t c n)=match (ZaM tE 1 (opAt ops3 5)).val (sA t c n) with | some p=>Zfx tE 1 16 ops3 [6] ((sA t c n).put (some 13) p.1 p.2) | none=>none:=by kernel_rfl
theorem run6 (t:Tape) (c:Nat) (n:Int):Zfx tE 1 16 ops3 [6] ((sA t c n).put (some 13) (.lptr .int t.l t.at_.toNat 0) [])=some (tS5 t c n):=by kernel_rfl
theorem Zjz {ds:List Deferred} {w0 w:World} {ok:Nat->Prop} {nt:Nat} {σ:St} {a:Act} {mu:Nat->Option Nat} (hr:R w0 ok nt ds σ a w mu) (j:Nat) {x:AV} (h:look σ.tm j=x):Mill.V (cx w σ.ob mu ok) x (a.eval (.tmp j)):=by
 have:=ZaJ hr (.tmp j)
 rw [show valOf σ (.tmp j)=look σ.tm j from rfl,h] at this
 exact this
theorem ZsD {R':Ending->World->Prop} {a:Act} {w:World} {c0:Nat} (h3:a.eval (.tmp 3)=.chan (some c0)) (hd:a.defers=[]) (hs:a.tmps.size=16) (hR:R' (.returned (.chan (some c0))) w) :
   Ends Tryz.prog (sndC (sndC (sndC ZeA))) (bodyPost Tryz.prog Tryz.f202 R') a w:=by
 have hsq:sndC (sndC (sndC ZeA))=.seq (.region 4 ops4 false) .ret:=by kernel_rfl
 have e0:ops4[0]?=some (opAt ops4 0):=by kernel_rfl
 have e1:ops4[1]?=some (opAt ops4 1):=by kernel_rfl
 have p0:(opAt ops4 0).op=.move (.tmp 3):=by kernel_rfl
 have p1:(opAt ops4 1).op=.assign (.tmp 15):=by kernel_rfl
 have g0:(opAt ops4 0).guard=none:=by kernel_rfl
 have g1:(opAt ops4 1).guard=none:=by kernel_rfl
 have d0:(opAt ops4 0).dst=some 15:=by kernel_rfl
 have d1:(opAt ops4 1).dst=some 2:=by kernel_rfl
 have hrg:List.range ops4.size=[0,1]:=by kernel_rfl
 have hres:Tryz.f202.results=#[.tmp 2]:=by kernel_rfl
 have r0:(execOp a.eval (opAt ops4 0)).run Tryz.prog w=.ok (.value (.chan (some c0))) w:=by simp [execOp,p0,h3]
 have ht15:(a.put (some 15) (.chan (some c0))).eval (.tmp 15)=.chan (some c0):=by simp [Act.put,Act.eval,hs]
 have r1:(execOp (a.put (some 15) (.chan (some c0))).eval (opAt ops4 1)).run Tryz.prog w=.ok (.value (.chan (some c0))) w:=by simp [execOp,p1,ht15]
 rw [hsq]
 refine Ends.seq (Ends.region (l:=[]) (a':=(a.put (some 15) (.chan (some c0))).put (some 2) (.chan (some c0))) (w':=w) (fun b k cs hb=>?_) ?_)
 . rw [hrg]
   have q0:=Zed (P:=Tryz.prog) (b:=b) (k:=k) (cs:=cs) (rest:=[1]) e0 g0 r0
   rw [d0] at q0
   have q1:=Zed (P:=Tryz.prog) (b:=b) (k:=k) (cs:=cs) (rest:=[]) e1 g1 r1
   rw [d1] at q1
   exact .head q0 (.head q1 (Steps.refl _ _))
 . refine Ends.of_wp (wp_ret ?_)
   refine ⟨by simpa [Act.put] using hd,.chan (some c0),?_,hR⟩
   simp [results,hres,Act.put,hs]
theorem Zvm {t:Tape} {n:Int} {w0:World} {ok:Nat->Prop} {args:Array Value} (hl:Zg9 t=some n) (hin:n>0->0<=t.at_/\t.at_<(t.l.length:Int))
   (hv:VL (pcx w0 ok) [Zhk t] args.toList):Calls Tryz.prog 202 args w0 fun e w'=>∃ c s buf,e=.returned (.chan (some c))/\w0.heap.size<=c/\c<w'.heap.size/\Below w0.heap.size w0 w' /\
     w'.heap[c]?=some (.chan 1 buf false s 0 false)/\buf=if n>0 then #[.int .i64 (t.l.getD t.at_.toNat 0)] else #[]:=by
 have hbody:Tryz.f202.body=some ZeA:=by kernel_rfl
 have hnt:Tryz.f202.ntmps=16:=by kernel_rfl
 have hsq:ZeA=.seq (fstC ZeA) (.seq (.region 1 ops1 false) (.seq (.seq Zxs (.cond (.tmp 7) (.region 3 ops3 false) .skip)) (sndC (sndC (sndC ZeA))))):=by kernel_rfl
 refine Zhn Tryz.func202 hbody ?_ (fun w' h=>by obtain ⟨_,_,_,h,_⟩:=h;cases h)
 have hm:Mem w0 (cx w0 [] (fun _=>none) fun b=>ok b\/w0.heap.size<=b) :=
   ⟨fun _=>rfl,fun _ _ _ h=>(by cases h),fun _ _ h=>(by cases h),Below.refl _ _,fun b hb=>.inl (.inr hb)⟩
 have hv':VL (cx w0 [] (fun _=>none) fun b=>ok b\/w0.heap.size<=b) [Zhk t] args.toList:=by
   have hmono:Mono (pcx w0 ok) (cx w0 [] (fun _=>none) fun b=>ok b\/w0.heap.size<=b):=Zdf (fun b hb=>⟨⟨.inl hb.1,hb.2.1,hb.2.2⟩,rfl⟩) (fun id=>.inl rfl) (fun _ _ h=>⟨h,rfl⟩)
   exact hmono.vl _ _ hv
 have hr0:=Zfn (nt:=16) hm hv' (by simp)
 rw [hnt]
 generalize hA:({ tmps:=args++Array.replicate (16-args.size) undef,defers:=[] }:Act)=a0 at hr0 ⊢
 rw [hsq]
 refine Ends.seq (Zwi (J:=T) Stays.triv ⟨_,hr0,trivial⟩ (run0 t) (by kernel_rfl) ?_)
 intro a1 w1 hh1
 obtain ⟨mu1,hr1,_⟩:=hh1
 have hb1:Below w1.heap.size w1 (w1.alloc (.chan 1 #[] false 0 0 false)):=(Below.refl _ w1).alloc (Nat.le_refl _) _
 obtain ⟨mu2,hr2⟩:=hr1.beside hb1
 have hnew:(w1.alloc (.chan 1 #[] false 0 0 false)).heap[w1.heap.size]?=some (.chan 1 #[] false 0 0 false):=heap_alloc_new w1 _
 have hsz:w1.heap.size<(w1.alloc (.chan 1 #[] false 0 0 false)).heap.size:=by rw [World.size_alloc];omega
 have hmk:=ZDD w1
 have hge:w0.heap.size<=w1.heap.size:=hr1.mem.ext.size
 generalize w1.heap.size=c0 at *
 generalize w1.alloc (.chan 1 #[] false 0 0 false)=w2 at *
 have e0:ops1[0]?=some (opAt ops1 0):=by kernel_rfl
 have e1:ops1[1]?=some (opAt ops1 1):=by kernel_rfl
 have p0:(opAt ops1 0).op=.makeChan 248 (.const (.int .i64 1)):=by kernel_rfl
 have p1:(opAt ops1 1).op=.assign (.tmp 4):=by kernel_rfl
 have g0:(opAt ops1 0).guard=none:=by kernel_rfl
 have g1:(opAt ops1 1).guard=none:=by kernel_rfl
 have d0:(opAt ops1 0).dst=some 4:=by kernel_rfl
 have d1:(opAt ops1 1).dst=some 3:=by kernel_rfl
 have hrg:List.range ops1.size=[0,1]:=by kernel_rfl
 have r0:(execOp a1.eval (opAt ops1 0)).run Tryz.prog w1=.ok (.value (.chan (some c0))) w2:=by simp [execOp,p0,Act.eval,hmk]
 have hr3:=hr2.set (dst:=some 4) (v:=.cst (.chan (some c0))) (u:=.chan (some c0)) (by decide) rfl
 have h4:(a1.put (some 4) (.chan (some c0))).eval (.tmp 4)=.chan (some c0):=Zjz hr3 4 (look_eq _ _ _)
 have r1:(execOp (a1.put (some 4) (.chan (some c0))).eval (opAt ops1 1)).run Tryz.prog w2=.ok (.value (.chan (some c0))) w2:=by simp [execOp,p1,h4]
 have hr4:=hr3.set (dst:=some 3) (v:=.cst (.chan (some c0))) (u:=.chan (some c0)) (by decide) rfl
 refine Ends.seq (Ends.region (l:=[]) (a':=(a1.put (some 4) (.chan (some c0))).put (some 3) (.chan (some c0))) (w':=w2) (fun b k cs hb=>?_) ?_)
 . rw [hrg]
   have q0:=Zed (P:=Tryz.prog) (b:=b) (k:=k) (cs:=cs) (rest:=[1]) e0 g0 r0
   rw [d0] at q0
   have q1:=Zed (P:=Tryz.prog) (b:=b) (k:=k) (cs:=cs) (rest:=[]) e1 g1 r1
   rw [d1] at q1
   exact .head q0 (.head q1 (Steps.refl _ _))
 have hJ:ChanJ c0 (cx w2 (tS3 t c0).ob mu2 fun b=>ok b\/w0.heap.size<=b):=by
   refine ⟨⟨.inr hge,hsz,fun id hid=>?_⟩,hnew⟩
   obtain ⟨cur,e,q,hcell⟩:=Zr1 hr4.mem hid
   have hcell:w2.heap[c0]?=_:=hcell
   rw [hnew] at hcell
   cases hcell
 have hh4:Holds (ChanJ c0) w0 (fun b=>ok b\/w0.heap.size<=b) 16 [] (tS3 t c0) ((a1.put (some 4) (.chan (some c0))).put (some 3) (.chan (some c0))) w2:=⟨mu2,hr4,hJ⟩
 have hrun2:runC Zxs (tS3 t c0)=some (.normal,tS4 t c0 n):=by rw [run2,show ZfW t=some n from hl]
 refine Ends.seq (Ends.seq (Zwi (ChanJ.stays c0) hh4 hrun2 (by kernel_rfl) ?_))
 intro a5 w5 hh5
 obtain ⟨mu5,hr5,hj5⟩:=hh5
 have h7:a5.eval (.tmp 7)=.bool (decide (n>0)):=Zjz hr5 7 (look_eq _ _ _)
 refine Ends.cond h7 ?_
 by_cases hn:n>0
 . rw [decide_eq_true hn]
   obtain ⟨i0,i1⟩:=hin hn
   have h5:(ZaM tE 1 (opAt ops3 5)).val (sA t c0 n)=some (.lptr .int t.l t.at_.toNat 0,[]):=by rw [run5,decide_eq_true i0,decide_eq_true i1];rfl
   have hrun56:Zfx tE 1 16 ops3 [5,6] (sA t c0 n)=some (tS5 t c0 n):=by rw [ZDw,h5];exact run6 t c0 n
   obtain ⟨aA,wA,hhA,hstepsA⟩:=Zgt (ChanJ.stays c0) ⟨mu5,hr5,hj5⟩ (run3 t c0 n)
   obtain ⟨a6,w6,hh6,hsteps⟩:=Zgt (ChanJ.stays c0) hhA hrun56
   obtain ⟨mu6,hr6,hj6⟩:=hh6
   have e7:ops3[7]?=some (opAt ops3 7):=by kernel_rfl
   have p7:(opAt ops3 7).op=.send (.tmp 8) (.tmp 14):=by kernel_rfl
   have g7:(opAt ops3 7).guard=none:=by kernel_rfl
   have d7:(opAt ops3 7).dst=none:=by kernel_rfl
   have hrg3:List.range ops3.size=[0,1,2,3,4]++([5,6]++[7]):=by kernel_rfl
   have h8:a6.eval (.tmp 8)=.chan (some c0):=Zjz hr6 8 rfl
   have h14:a6.eval (.tmp 14)=.int .i64 (t.l.getD t.at_.toNat 0):=Zjz hr6 14 rfl
   have h3:a6.eval (.tmp 3)=.chan (some c0):=Zjz hr6 3 rfl
   refine Ends.region (l:=[]) (a':=a6) (w':=w6.setChan c0 1 (#[].push (a6.eval (.tmp 14))) false (0+1) 0 false) (fun b k cs hb=>?_) ?_
   . rw [hrg3]
     have q7:=ZsE (P:=Tryz.prog) (k:=k) (cs:=cs) (rest:=[]) hb e7 g7 p7 h8 hj6.2 (by simp)
     rw [d7] at q7
     exact (hstepsA b k cs _).trans ((hsteps b k cs [7]).trans (.head q7 (Steps.refl _ _)))
   . refine ZsD h3 hr6.defers hr6.size ⟨c0,1,#[].push (a6.eval (.tmp 14)),rfl,hge,?_,below_setChan hr6.mem.ext hge _ _ _ _ _ _,?_,?_⟩
     . rw [size_setChan];exact hj6.1.2.1
     . exact heap_setChan _ _ _ _ _ _ _ _ hj6.1.2.1
     . rw [if_pos hn,h14];rfl
 . rw [decide_eq_false hn]
   refine Ends.of_wp (wp_skip ?_)
   have h3:a5.eval (.tmp 3)=.chan (some c0):=Zjz hr5 3 rfl
   exact ZsD h3 hr5.defers hr5.size ⟨c0,0,#[],rfl,hge,hj5.1.2.1,hr5.mem.ext,hj5.2,by rw [if_neg hn]⟩
def ZfR:Code:=(Tryz.f195.body).getD .skip
def runN (c:Code) (σ:St):Option (Ex×St):=evK tE (fun _=>none) (inlK tE 20 6) 1 18 20 c σ (fun e σ=>some (e,σ))
def opsB:Array Oper:=match fstC (sndC ZfR) with | .region _ ops _=>ops | _=>#[]
def opsC:Array Oper:=match fstC (sndC (sndC ZfR)) with | .region _ ops _=>ops | _=>#[]
def Zki:Code:=sndC (sndC (sndC ZfR))
def n1 (t:Tape):St:=match runN (fstC ZfR) (tS0 t) with | some p=>p.2 | none=>⟨[],[]⟩
theorem ZEh (t:Tape):runN (fstC ZfR) (tS0 t)=some (.normal,n1 t):=by kernel_rfl
def n2 (t:Tape):St:=⟨(5,Zhk t)::(n1 t).tm,(n1 t).ob⟩
theorem ZDR (t:Tape):Zfx tE 1 18 opsB [0] (n1 t)=some (n2 t):=by kernel_rfl
def add2 (σ:St) (c:Nat) (i:Int) (b:Bool) (d:Int):St:=⟨(7,.tup [.i i,.bool b,.i d])::(6,.cst (.chan (some c)))::σ.tm,σ.ob⟩
theorem R.add2 {w0 w:World} {ok:Nat->Prop} {σ:St} {a:Act} {mu:Nat->Option Nat} (hr:R w0 ok 18 [] σ a w mu) (c:Nat) (i:Int) (b:Bool) (d:Int) :
   R w0 ok 18 [] (add2 σ c i b d) ((a.put (some 6) (.chan (some c))).put (some 7) (.tuple #[goInt i,.bool b,.int .i64 d])) w mu :=
 (hr.set (dst:=some 6) (v:=.cst (.chan (some c))) (u:=.chan (some c)) (by decide) rfl).set (dst:=some 7) (v:=.tup [.i i,.bool b,.i d]) (u:=.tuple #[goInt i,.bool b,.int .i64 d]) (by decide)
     ⟨_,rfl,rfl,rfl,rfl,trivial⟩
def n3 (t:Tape) (c:Nat) (i:Int) (b:Bool) (d:Int):St:=add2 (n2 t) c i b d
def n4 (t:Tape) (c:Nat) (i:Int) (b:Bool) (d:Int):St:=⟨(9,.bool (i == 0))::(8,.i i)::(n3 t c i b d).tm,(n3 t c i b d).ob⟩
theorem ZDm (t:Tape) (c:Nat) (i:Int) (b:Bool) (d:Int):Zfx tE 1 18 opsC [1,2] (n3 t c i b d)=some (n4 t c i b d):=by kernel_rfl
def finN (e:Ex) (σ:St):Option AV :=
 match e with
 | .normal=>(Zf5 tE Tryz.f195.results.toList fun vs=>.ret (Zjd vs)).runK σ [] fun v _=>some v
 | .ret=>(Zf5 tE Tryz.f195.results.toList fun vs=>.ret (Zjd vs)).runK σ [] fun v _=>some v
 | _=>none
def outN (d:Int) (t:Tape):AV:=.tup [.i d,Zhk t]
theorem ZC6 (t:Tape) (c:Nat) (b:Bool) (d:Int):evK tE (fun _=>none) (inlK tE 20 6) 1 18 20 Zki (n4 t c 0 b d) finN=some (outN d { t with at_:=Zac IntKind.i64 (t.at_+1) }):=by kernel_rfl
theorem ZDe (t:Tape) (c:Nat) (b:Bool) (d:Int):evK tE (fun _=>none) (inlK tE 20 6) 1 18 20 Zki (n4 t c (-1) b d) finN=some (outN 0 t):=by kernel_rfl
theorem ZAq {d:Int} {t:Tape} {w0 w:World} {ok:Nat->Prop} {σ:St} {a:Act} {mu:Nat->Option Nat} (hr:R w0 (fun b=>ok b\/w0.heap.size<=b) 18 [] σ a w mu)
   (hk:evK tE (fun _=>none) (inlK tE 20 6) 1 18 20 Zki σ finN=some (outN d t)) :
   Ends Tryz.prog Zki (bodyPost Tryz.prog Tryz.f195 fun e w'=>∃ v,e=.returned v/\Below w0.heap.size w0 w'/\Res w0 ok w' (outN d t) v) a w:=by
 have hl:ZaZ Zki=[]:=by kernel_rfl
 refine Ends.of_wp ?_
 refine ZuF (V:=tE) (J:=T) (inl:=inlK tE 20 6) tG (Zba tG 6) Stays.triv Zki hl ⟨mu,hr,trivial⟩ hk ?_
 intro e σ' a' w' hh' hk'
 obtain ⟨mu',hr',_⟩:=hh'
 have fin:(Zf5 tE Tryz.f195.results.toList fun vs=>.ret (Zjd vs)).runK σ' [] (fun v _=>some v)=some (outN d t) ->
     a'.defers=[]/\∃ u,(results Tryz.f195 a'.tmps).run Tryz.prog w'=.ok u w'/\∃ v,Ending.returned u=.returned v/\Below w0.heap.size w0 w'/\Res w0 ok w' (outN d t) v:=by
   intro h
   obtain ⟨v,_,h1,h2⟩:=Rd.runK_val h
   cases h2
   obtain ⟨u,hu,huv⟩:=Zh6 (fn:=Tryz.f195) hr' h1
   refine ⟨hr'.defers,u,hu,u,rfl,hr'.mem.ext,fun base=>⟨fun _=>none,⟨fun id=>?_,fun _ _ _ h=>(by cases h),fun _ _ h=>(by cases h),hr'.mem.ext,fun b hb=>.inl (.inr hb)⟩,?_⟩⟩
   . unfold ObjOK;rfl
   . obtain ⟨vs,he,hv⟩:=(show Mill.V _ (outN d t) u from huv)
     exact ⟨vs,he,Zjx (c:=cx w' σ'.ob mu' fun b=>ok b\/w0.heap.size<=b) (c':=cx w' (Zay (ZbZ base (outN d t)).2 []) (fun _=>none) fun b=>ok b\/w0.heap.size<=b) (fun d v hd=>DV.mono (fun b hb=>⟨hb.1,hb.2.1,fun _ h=>by cases h⟩) (fun _ _=>rfl) hd) _ _ rfl hv⟩
 cases e with
 | normal=>exact fin hk'
 | ret=>exact fin hk'
 | exit id=>cases hk'
 | goto l=>cases hk'
def s195:Spec:=Zao (Zad (Zaq ZdV)) (ZbS (Zaa (Zae .i64) (Zad (Zaq ZdV)))) ZlA
theorem ZAL (w:World):(zeroValue 3).run Tryz.prog w=.ok (.int .i64 0) w:=by
 have h:((Tryz.prog.info? 3).bind (·.zero))=some (.int .i64 0):=by kernel_rfl
 obtain ⟨i,hi,hz⟩:=Option.bind_eq_some_iff.1 h
 simp [zeroValue,typeInfo,hi,hz]
theorem Zxv {w:World} {ob:List (Nat×AV)} {mu:Nat->Option Nat} {ok:Nat->Prop} {x:AV} {u:Value} (h:Mill.V (cx w ob mu ok) x u) (hs:x.still=true):Mill.V (pcx w fun _=>True) x u :=
 Zrn (c:=cx w ob mu ok) (c':=pcx w fun _=>True) (fun d v hd=>DV.mono (fun b hb=>⟨trivial,hb.2.1,fun _=>by simp [pcx]⟩) (fun _ _=>rfl) hd) x u hs h
theorem ZD0:Zan Tryz.prog 195 s195:=by
 intro w0 ok avs args (t:Tape) (y:Int×Tape) hd hy hv
 have hd:=(Zad (Zaq ZdV)).law _ _ hd
 subst hd
 have hv:VL (pcx w0 ok) [Zhk t] args.toList:=hv
 have hcase:∃ n,Zg9 t=some n/\((n>0/\0<=t.at_/\t.at_<(t.l.length:Int)/\y=(t.l.getD t.at_.toNat 0,{ t with at_:=Zac IntKind.i64 (t.at_+1) }))\/(¬n>0/\y=(0,t))):=by
   have hy:Zhb t=some y:=hy
   unfold Zhb at hy
   cases hl:ZfW t with
   | none=>rw [hl] at hy;cases hy
   | some n =>
     rw [hl] at hy
     refine ⟨n,hl,?_⟩
     by_cases hn:n>0
     . simp only [decide_eq_true hn,cond_true] at hy
       by_cases h0:0<=t.at_
       . simp only [decide_eq_true h0,cond_true] at hy
         by_cases h1:t.at_<(t.l.length:Int)
         . simp only [decide_eq_true h1,cond_true] at hy
           exact .inl ⟨hn,h0,h1,(Option.some.inj hy).symm⟩
         . simp only [decide_eq_false h1,cond_false] at hy;cases hy
       . simp only [decide_eq_false h0,cond_false] at hy;cases hy
     . simp only [decide_eq_false hn,cond_false] at hy
       exact .inr ⟨hn,(Option.some.inj hy).symm⟩
 obtain ⟨n,hl,hcase⟩:=hcase
 have hin:n>0->0<=t.at_/\t.at_<(t.l.length:Int):=fun hn=>by
   rcases hcase with h | h
   . exact ⟨h.2.1,h.2.2.1⟩
   . exact (h.1 hn).elim
 have hbody:Tryz.f195.body=some ZfR:=by kernel_rfl
 have hnt:Tryz.f195.ntmps=18:=by kernel_rfl
 have hsq:ZfR=.seq (fstC ZfR) (.seq (.region 1 opsB false) (.seq (.region 2 opsC false) Zki)):=by kernel_rfl
 refine Zhn Tryz.func195 hbody ?_ (fun w' h=>by obtain ⟨_,h,_⟩:=h;cases h)
 have hm:Mem w0 (cx w0 [] (fun _=>none) fun b=>ok b\/w0.heap.size<=b) :=
   ⟨fun _=>rfl,fun _ _ _ h=>(by cases h),fun _ _ h=>(by cases h),Below.refl _ _,fun b hb=>.inl (.inr hb)⟩
 have hv':VL (cx w0 [] (fun _=>none) fun b=>ok b\/w0.heap.size<=b) [Zhk t] args.toList:=by
   have hmono:Mono (pcx w0 ok) (cx w0 [] (fun _=>none) fun b=>ok b\/w0.heap.size<=b):=Zdf (fun b hb=>⟨⟨.inl hb.1,hb.2.1,hb.2.2⟩,rfl⟩) (fun id=>.inl rfl) (fun _ _ h=>⟨h,rfl⟩)
   exact hmono.vl _ _ hv
 have hr0:=Zfn (nt:=18) hm hv' (by simp)
 rw [hnt]
 generalize hA:({ tmps:=args++Array.replicate (18-args.size) undef,defers:=[] }:Act)=a0 at hr0 ⊢
 rw [hsq]
 have hl0:ZaZ (fstC ZfR)=[]:=by kernel_rfl
 refine Ends.seq (Ends.of_wp (ZuF (V:=tE) (J:=T) (inl:=inlK tE 20 6) tG (Zba tG 6) Stays.triv (fstC ZfR) hl0 ⟨_,hr0,trivial⟩ (ZEh t) ?_))
 intro e1 σ1 a1 w1 hh1 hk1
 cases hk1
 show Ends _ _ _ _ _
 obtain ⟨a2,w2,hh2,hst2⟩:=Zgt Stays.triv hh1 (ZDR t)
 obtain ⟨mu2,hr2,_⟩:=hh2
 have hge:w0.heap.size<=w2.heap.size:=hr2.mem.ext.size
 have e1:opsB[1]?=some (opAt opsB 1):=by kernel_rfl
 have p1:(opAt opsB 1).op=.call { callee:=.value (.func 202),args:=#[.tmp 5],argTypes:=#[34] }:=by kernel_rfl
 have g1:(opAt opsB 1).guard=none:=by kernel_rfl
 have d1:(opAt opsB 1).dst=some 6:=by kernel_rfl
 have hrgB:List.range opsB.size=[0]++[1]:=by kernel_rfl
 have hent:Zd9 Tryz.prog 202:=tG.2.2.1 202 (by kernel_rfl)
 have h5:=Zjz hr2 5 (x:=Zhk t) (look_eq _ _ _)
 have hst:(Zhk t).still=true:=rfl
 have h5':Mill.V (pcx w2 (fun _=>True)) (Zhk t) (a2.eval (.tmp 5)):=by
   generalize (n2 t).ob=ob2 at h5
   exact Zxv h5 hst
 have hpc:VL (pcx w2 (fun _=>True)) [Zhk t] (#[a2.eval (.tmp 5)]:Array Value).toList:=⟨h5',trivial⟩
 have hcall:=Zvm hl hin hpc
 refine Ends.seq (Ends.region (l:=[1]) (a':=a2) (w':=w2) (fun b k cs hb=>?_) ?_)
 . rw [hrgB]
   exact hst2 b k cs [1]
 have hwant:Region.wanted (opAt opsB 1) (yielded opsB a2.tmps)=true:=by simp [Region.wanted,g1]
 simp only [wpOps,e1,hwant,if_true]
 refine .inl ?_
 have hrun:=ZhB (V:=tE) (w:=w2) (a:=a2) (caps:=#[]) p1 rfl rfl hent
 unfold Oper.wp
 rw [show (execOp a2.eval (opAt opsB 1)).run Tryz.prog w2=_ from hrun,Oper.upon_enter]
 have hargs:(#[Operand.tmp 5]:Array Operand).map a2.eval++(#[]:Array Value)=#[a2.eval (.tmp 5)]:=by simp
 refine (show Calls Tryz.prog 202 ((#[Operand.tmp 5]:Array Operand).map a2.eval++(#[]:Array Value)) w2 _ from by rw [hargs];exact hcall).mono fun e w3 he=>?_
 obtain ⟨c,s,buf,rfl,hc0,hc1,hb3,hc3,hbuf⟩:=he
 rw [d1]
 show Ends _ _ _ _ _
 have e0:opsC[0]?=some (opAt opsC 0):=by kernel_rfl
 have p0:(opAt opsC 0).op=.select #[{ chan:=.tmp 6,send:=none,elem:=3 }] false:=by kernel_rfl
 have g0:(opAt opsC 0).guard=none:=by kernel_rfl
 have d0:(opAt opsC 0).dst=some 7:=by kernel_rfl
 have hrgC:List.range opsC.size=0::([1,2]++[]):=by kernel_rfl
 have h6:(a2.put (some 6) (.chan (some c))).eval (.tmp 6)=.chan (some c):=Zjz (hr2.set (dst:=some 6) (v:=.cst (.chan (some c))) (u:=.chan (some c)) (by decide) rfl) 6 (look_eq _ _ _)
 have rest:∀ (i d:Int) (bb:Bool) (w4:World),Below w2.heap.size w2 w4 ->
     (∀ (b:Frame) (k:List Item) (cs:List Frame),b.kind=.normal->step Tryz.prog (lone (b.at (a2.put (some 6) (.chan (some c))) (.inRegion opsC (0::([1,2]++[]))::k)) cs w3) =
       .next (lone (b.at ((a2.put (some 6) (.chan (some c))).put (some 7) (.tuple #[goInt i,.bool bb,.int .i64 d])) (.inRegion opsC ([1,2]++[])::k)) cs w4)) ->
     evK tE (fun _=>none) (inlK tE 20 6) 1 18 20 Zki (n4 t c i bb d) finN=some (outN y.1 y.2) ->
     Ends Tryz.prog (.seq (.region 2 opsC false) Zki) (bodyPost Tryz.prog Tryz.f195 fun e w'=>∃ v,e=.returned v/\Below w0.heap.size w0 w'/\Res w0 ok w' (outN y.1 y.2) v) (a2.put (some 6) (.chan (some c))) w3:=by
   intro i d bb w4 hb4 hstep hk
   obtain ⟨mu4,hr4⟩:=hr2.beside hb4
   have hr5:=hr4.add2 c i bb d
   obtain ⟨a6,w6,hh6,hst6⟩:=Zgt (J:=T) Stays.triv ⟨mu4,hr5,trivial⟩ (ZDm t c i bb d)
   obtain ⟨mu6,hr6,_⟩:=hh6
   refine Ends.seq (Ends.region (l:=[]) (a':=a6) (w':=w6) (fun b k cs hb=>?_) ?_)
   . rw [hrgC]
     exact .head (hstep b k cs hb) (hst6 b k cs [])
   . exact ZAq hr6 hk
 rcases hcase with ⟨hn,_,_,rfl⟩ | ⟨hn,rfl⟩
 . rw [if_pos hn] at hbuf
   subst hbuf
   refine rest 0 (t.l.getD t.at_.toNat 0) true _ (below_setChan hb3 hc0 1 (#[Value.int .i64 (t.l.getD t.at_.toNat 0)].extract 1 1) false s 1 false) (fun b k cs hb=>?_) (ZC6 t c true _)
   have:=Zlq (P:=Tryz.prog) (k:=k) (cs:=cs) (rest:=[1,2]++[]) hb e0 g0 p0 h6 (ZAL w3) hc3 (by simp)
   rw [d0] at this
   exact this
 . rw [if_neg hn] at hbuf
   subst hbuf
   refine rest (-1) 0 false w3 hb3 (fun b k cs hb=>?_) (ZDe t c false 0)
   have:=Ziu (P:=Tryz.prog) (k:=k) (cs:=cs) (rest:=[1,2]++[]) hb e0 g0 p0 h6 (ZAL w3) hc3
   rw [d0] at this
   exact this
end Go.Proofs.Mill
