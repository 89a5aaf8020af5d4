/- The plain law of HistoryRuns. -/
import Derived.Test.YtaopdopnecognaaGreatMillAll39
namespace Go.Proofs.Mill
set_option linter.all false
theorem ZtZ:Zd9 Zr1=some false:=by
  show Zd0 Zr1=some false
  kernel_rfl
theorem Zyp (l:List Thread):Zhs l≤l.length:=List.length_filter_le _ _
theorem Zq5:∀ {l:List Event},(∀ e∈l,e.kind=1∨e.kind=2∨e.kind=3)→count l 1+count l 2+count l 3=(l.length:Int)
  | [],_=>rfl
  | e :: l, h => by
    have ih:=Zq5 (l:=l) (fun x hx=>h x (List.mem_cons_of_mem _ hx))
    have key:∀ k:Int,count (e::l) k=(if e.kind=k then 1 else 0)+count l k:=by
      intro k
      unfold count
      rw [List.filter_cons]
      by_cases g:e.kind=k
      · rw [if_pos (by simp [g]),if_pos g,List.length_cons];omega
      · rw [if_neg (by simp [g]),if_neg g];omega
    rw [key 1,key 2,key 3,List.length_cons]
    rcases h e (List.mem_cons_self ..) with g | g | g
    · rw [if_pos g,if_neg (by omega),if_neg (by omega)];omega
    · rw [if_neg (by omega),if_pos g,if_neg (by omega)];omega
    · rw [if_neg (by omega),if_neg (by omega),if_pos g];omega
theorem Zw4 {c:Config} {w:Wld} {n:Nat} {ro pa rt:Int→Int} {co:Int→Option Int} (Li:Lin c w ro co) (W:WInv c w n ro pa rt co) (hC:CfgOK c) (hn:n≤60000):Zgx (c,w,0)=some (.inl ()):=by
  have hT:=hC.threads
  have hlT:=W.lenT
  have hh:=W.hist
  have h0:=ZhQ (step:=Zdi) (fun j=>(c,w,(j:Int))) c.threads.toNat (y:=.inl ()) (fun j hj=>?_) ?_
  · exact h0
  · show Zcz _ _ _=_
    unfold Zcz
    have hjn:InT c (j:Int):=⟨by omega,by omega⟩
    obtain ⟨k,op,last,a,b,d,f,g⟩:=(Li.ans j hjn).ex
    have hp:ZeD (w.hist,(j:Int))=some (if op=true then (last,true) else (Zg4,false)):=by
      show ZeC w.hist j=_
      rw [ZpQ j (by omega),ZxD a]
    have hph:(vw c w.m w.t).th j=w.t.getD j Zas:=by rw [Zir hjn];rfl
    have hb:=W.inv.busy hjn
    rw [hph] at hb d
    simp only [Zau,hp,ZbG,ZdM,Int.toNat_natCast]
    rw [if_pos (show (j:Int)<c.threads by omega),if_pos (show (0:Int)≤(j:Int) by omega),if_pos (show (j:Int)<(w.t.length:Int) by omega),Zav (by omega) (by omega)]
    cases ho:op with
    | true =>
      have hr:=b.1 ho
      obtain ⟨d1,d2,_⟩:=d ho
      rw [if_pos rfl,ZfC (fun x=>hr (hb.2 x)),d1,d2]
      simp only [beq_self_eq_true,bne_self_eq_false,Bool.and_true,Bool.not_true,cond_true,cond_false]
      rw [if_pos (show (0:Int)≤(j:Int) by omega),if_pos (show (j:Int)<(w.t.length:Int) by omega),if_pos (show (0:Int)≤(j:Int) by omega),if_pos (show (j:Int)<(w.t.length:Int) by omega)]
      rfl
    | false =>
      have hr:ro j=0:=Classical.not_not.1 (fun x=>by have:=b.2 x;rw [ho] at this;cases this)
      rw [if_neg (by decide),Ze5 (hb.1 hr)]
      rfl
  · show Zcz _ _ _=_
    unfold Zcz
    simp only [Zau]
    rw [if_neg (by omega)]
theorem Zoo (c:Config) (l:List SEntry) (d:List Int) (o0:(Zaq celConfig).Ok c) (o1:(Zap .sentry).Ok l) (o2:(Zap .int).Ok d):Zft c l d=some true:=by
  unfold Zft
  simp only [Zs2,Zau]
  by_cases h1:(l.length:Int)>400
  · rw [if_pos h1]
  rw [if_neg h1]
  by_cases h2:(d.length:Int)>200
  · rw [if_pos h2]
  rw [if_neg h2]
  simp only [Bool.not_true,cond_false]
  have hc:=ZAc o0
  rcases ZAk (c:=c) (l:=l) (d:=d) hc (ZtV o1) (by omega) with ⟨r1,r2⟩ | ⟨r1,r2,hC,r3,r4,ro,pa,rt,co,W,Li⟩
  · rw [show Zgm (c,l,d)=some (Zr1,allE c l) from r1]
    simp only []
    rw [ZfC r2,ZtZ]
    rfl
  · obtain ⟨w,hw⟩:∃ w,w=l.foldl Zeg (newW c d):=⟨_,rfl⟩
    rw [← hw] at r1 W Li
    rw [show Zgm (c,l,d)=some (w,0,0) from r1]
    have hO:=Li.ok W hC hc (by omega)
    have hL:Zd9 w=some true:=by
      show Zd0 w=_
      rw [Zp5 hO,decide_eq_true (Li.linear W hC)]
    have hh:=W.hist
    have hlT:=W.lenT
    have hT:=hC.threads
    have hcnt:=Li.counts W hC
    have hb:Zhk w=some (Zhs w.t:Int):=Zvj (by omega)
    have hbl:=Zyp w.t
    have e1:=count_le w.hist 1
    have e2:=count_le w.hist 2
    have e3:=count_le w.hist 3
    have e4:=Zq5 (l:=w.hist) (fun e he=>(Li.ehist e he).2.1)
    have hcs:ZeY w.hist=some (count w.hist 1,count w.hist 2,count w.hist 3):=ZqB (by omega)
    have hT2:(w.t.length:Int)=c.threads:=W.lenT
    simp only [bne_self_eq_false,cond_false,hcs,hL,hb,Bool.not_true]
    rw [Zav (n:=count w.hist 2+(Zhs w.t:Int)) (by omega) (by omega),Zav (n:=count w.hist 1+count w.hist 2) (by omega) (by omega),Zav (by omega) (by omega),Ze5 hcnt.1,Ze5 e4,Ze5 hT2]
    simp only [cond_false,Zw4 Li W hC (by omega)]
end Go.Proofs.Mill
