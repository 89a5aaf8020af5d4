/- The plain law of TopQuiet: behind rounds enough all is at rest. -/
import Derived.Test.YtaopdopnecognaaGreatMillAll43
set_option linter.all false
namespace Go.Proofs.Mill
theorem ZuQ {c:Config} (hC:CfgOK c) {w:Wld} (hlen:(w.m.words.length:Int)=sizeOf c) (h:∀ i n,0<=i->i<c.items->1<=n->n<=Zax c->(vw c w.m w.t).b i n=0) {i:Int} (hi:0<=i/\i<c.items) :
   ZjU (c,c,w,i,1)=some (.inl (c,c,w,i)):=by
 have hnb:=Zba c
 have hT:=hC.threads
 have h0:=Zdo (step:=ZeU) (fun n=>(c,c,w,i,((n:Nat):Int)+1)) (Zax c).toNat (y:=.inl (c,c,w,i)) (fun n hn=>?_) ?_
 . exact h0
 . show Zd1 _ _ _ _ _=_
   unfold Zd1
   have hnn:1<=(n:Int)+1/\(n:Int)+1<=Zax c:=by omega
   have hne:=Zk9 hC hi hnn
   obtain ⟨a1,a2,_,_,_,_,a7⟩:=Zhe hC i ((n:Int)+1) hne
   obtain ⟨hb,_,hpl⟩:=Zka hC hne
   have hz:=h i ((n:Int)+1) hi.1 hi.2 hnn.1 hnn.2
   rw [rd_B hb] at hz
   have hs:ZaS c<=sizeOf c:=by unfold sizeOf;omega
   simp only [Zc9,ZiV hC,Zks,Zxa hC,Zau]
   rw [if_pos hnn.2,if_pos a1,if_pos (by omega),Zev (by rw [hpl];exact hz),cond_false,Zaq (by omega) (by omega)]
   rfl
 . show Zd1 _ _ _ _ _=_
   unfold Zd1
   simp only [Zc9,ZiV hC,Zau]
   rw [if_neg (by omega)]
theorem ZuY {c:Config} (hC:CfgOK c) {w:Wld} (hlen:(w.m.words.length:Int)=sizeOf c) (h:∀ i n,0<=i->i<c.items->1<=n->n<=Zax c->(vw c w.m w.t).b i n=0) :
   ZjW (c,c,w,0)=some (.inl (c,c,w)):=by
 have hI:=hC.items
 have h0:=Zdo (step:=ZeX) (fun n=>(c,c,w,((n:Nat):Int))) c.items.toNat (y:=.inl (c,c,w)) (fun n hn=>?_) ?_
 . exact h0
 . show ZdW _ _ _ _=_
   unfold ZdW
   simp only [Zau,ZuQ hC hlen h (i:=(n:Int)) ⟨by omega,by omega⟩]
   rw [if_pos (by omega),Zaq (by omega) (by omega)]
   rfl
 . show ZdW _ _ _ _=_
   unfold ZdW
   simp only [Zau]
   rw [if_neg (by omega)]
theorem ZsE {c:Config} (hC:CfgOK c) {w:Wld} {n:Nat} {ro pa rt:Int->Int} {co:Int->Option Int} (W:WInv c w n ro pa rt co) (P:PendI c w) (hn:n<=60000) (h:∀ j,InT c j->((vw c w.m w.t).th j).phase=0) :
   ZjX (c,c,w,0)=some (.inl ()):=by
 have hT:=hC.threads
 have hlT:=W.lenT
 have hh:=W.hist
 have h0:=Zdo (step:=ZeY) (fun j=>(c,c,w,((j:Nat):Int))) c.threads.toNat (y:=.inl ()) (fun j hj=>?_) ?_
 . exact h0
 . show ZdX _ _ _ _=_
   unfold ZdX
   have hjn:InT c (j:Int):=⟨by omega,by omega⟩
   have hph:=h j hjn
   have hro:ro j=0:=(W.inv.busy hjn).2 hph
   have hp2:=P j hjn (by rw [<- ZeI hjn];exact hph)
   obtain ⟨pe,hpe⟩:∃ pe,pe=pend (evts w.hist j):=⟨_,rfl⟩
   have hp:ZeW (w.hist,(j:Int))=some pe:=by
     show ZeT w.hist j=_
     rw [Zqk j (by omega),hpe]
   rw [<- hpe] at hp2
   have hl:=(W.inv.loc j hjn).tab
   have hl:(vw c w.m w.t).l j=0\/(vw c w.m w.t).l j=5:=by unfold Tab at hl;omega
   rw [rd_L hC hjn] at hl
   rw [ZeI hjn,Int.toNat_natCast] at hph
   obtain ⟨e1,_⟩:=Zc8 hC hjn.1 hjn.2
   have hlb:=Za1 hC
   have hlen:=W.lenW
   have hs:sizeOf c=ZaS c+2*c.threads:=rfl
   simp only [ZkG,ZwM hC,hp,hp2,Zbr,ZdN,Zau,Int.toNat_natCast]
   rw [if_pos (by omega),if_pos (by omega),if_pos (by omega)]
   rcases hl with z | z
   . rw [Zev z,cond_false,cond_false,if_pos (by omega),if_pos (by omega),Zev hph,cond_false,Zaq (by omega) (by omega)]
     rfl
   . rw [Zg6 (show w.m.words.getD (ZaW c j).toNat 0≠0 by omega),cond_true,Zev z,cond_false,cond_false,if_pos (by omega),if_pos (by omega),Zev hph,cond_false,Zaq (by omega) (by omega)]
     rfl
 . show ZdX _ _ _ _=_
   unfold ZdX
   simp only [Zau]
   rw [if_neg (by omega)]
theorem Zyf {f:Unit->Option Bool} (hf:f ()=some true) (c:Config) (l:List SEntry) (d:List Int) (o0:(Zar celConfig).Ok c) (o1:(Zao .sentry).Ok l) (o2:(Zao .int).Ok d):Zgo f c l d=some true:=by
 obtain ⟨b,hb,hB⟩:=ZyJ (c:=c)
 unfold Zgo
 simp only [hb,hf]
 cases b with
 | false=>rfl
 | true =>
 obtain ⟨hC,h6,h3,h2,h5⟩:=hB rfl
 simp only [Bool.not_true,cond_false,Zau]
 by_cases h1:(l.length:Int)>200
 . rw [if_pos h1]
 rw [if_neg h1]
 by_cases h4:(d.length:Int)>100
 . rw [if_pos h4]
 rw [if_neg h4]
 have hc:=ZBS o0
 have hT:=hC.threads
 obtain ⟨q1,q2⟩:=Zm0 hC h6 h3 h2 h5
 have hrb:=Zm5 hC
 have hT6:c.threads.toNat<=6:=by omega
 have hm:(ZbH c).toNat*c.threads.toNat<=2516*6:=Nat.mul_le_mul q2 hT6
 have e4:Zch (c,ZbH c)=some (ZaH c.threads.toNat ((ZbH c).toNat*c.threads.toNat)):=by
   show Zfy c (ZbH c)=_
   rw [Zpr hC _ (by omega),Nat.min_eq_left (by omega)]
 rw [ZbN (by omega),cond_true]
 simp only [Zcx,Zpe hC,e4]
 have hfi:=fun hchk=>ZxI hC hc h6 h3 h2 h5 (l:=l) (d:=d) (by omega) (by omega) hchk
 obtain ⟨ps,hps⟩:∃ ps,ps=ZaH c.threads.toNat ((ZbH c).toNat*c.threads.toNat):=⟨_,rfl⟩
 have hpl:ps.length=(ZbH c).toNat*c.threads.toNat:=by rw [hps];exact Zcg
 have hpe:∀ e∈ps,e.kind=2/\InT c e.t/\Zbv c e=0/\Num e.op.v:=by rw [hps];exact Zca hC
 rw [<- hps] at hfi ⊢
 rw [ZbN (show l.length+List.length ps<=4294967296 by omega),cond_true]
 have hnum:∀ e∈l++ps,Num e.op.v:=by
   intro e he
   rcases List.mem_append.1 he with h | h
   . exact Zpd o1 e h
   . exact (hpe e h).2.2.2
 rcases ZAA (c:=c) (l:=l++ps) (d:=d) hc hnum (by omega) with ⟨r1,r2⟩ | ⟨r1,_,r4,ro,pa,rt,co,W⟩
 . rw [show ZcG (c,l++ps,d)=some (ZAK,allE c (l++ps)) from r1]
   simp only []
   rw [Zg6 r2]
   rfl
 obtain ⟨_,G,hidle⟩:=hfi (fun e he=>⟨r4 e (List.mem_append_left _ he),Zpd o1 e he⟩)
 obtain ⟨w,hw⟩:∃ w,w=(l++ps).foldl ZaV (newW c d):=⟨_,rfl⟩
 have P:=PendI.entries hC hc.2.1 hc.2.2 (Zyr (c:=c) (d:=d)) (ZmA hC hc.1 (d:=d) (by omega)) (l:=l++ps) (by rw [List.length_append];omega) (fun e he=>⟨r4 e he,hnum e he⟩)
 rw [<- hw] at r1 W hidle G P
 rw [show ZcG (c,l++ps,d)=some (w,0,0) from r1]
 have hnode:∀ i n,0<=i->i<c.items->1<=n->n<=Zax c->(vw c w.m w.t).b i n=0:=by
   intro i n a1 a2 a3 a4
   refine Classical.byContradiction fun hne=>?_
   obtain ⟨h,x,_,z⟩:=G.two.w1 i n a1 a2 a3 a4 hne
   rw [ZaC (by have:=hidle h x;omega)] at z
   cases z
 have hlen:(l++ps).length<=60000:=by rw [List.length_append];omega
 simp only [bne_self_eq_false,cond_false,ZkU,Zwb hC]
 rw [Zev W.lenW,cond_false,Zev W.lenT,cond_false,ZuY hC W.lenW hnode]
 simp only []
 rw [ZsE hC W P hlen hidle]
theorem ZsU (c:Config) (l:List SEntry) (d:List Int) (o0:(Zar celConfig).Ok c) (o1:(Zao .sentry).Ok l) (o2:(Zao .int).Ok d):ZgE c l d=some true:=by
 unfold ZgE
 exact Zyf Zyj c l d o0 o1 o2
end Go.Proofs.Mill
