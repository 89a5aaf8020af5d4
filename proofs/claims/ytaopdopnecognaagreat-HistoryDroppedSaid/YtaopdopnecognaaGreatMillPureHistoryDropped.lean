/- The plain law of HistoryDropped. -/
import Derived.Test.YtaopdopnecognaaGreatMillPureHistoryForged
namespace Go.Proofs.Mill
set_option linter.all false
theorem Zxo {lo hi j:Int} {own:List Mark} {s s':Nat×Bool×Event} {h:Event} (a:ansE lo hi j own s h=some s'):s.1≤s'.1:=by
  unfold ansE at a
  split at a
  · rw [← Option.some.inj a];exact Nat.le_refl _
  · split at a
    · split at a
      · cases a
      · rw [← Option.some.inj a];exact Nat.le_refl _
    · split at a
      · rw [← Option.some.inj a];exact Nat.le_succ _
      · cases a
theorem Zsh {lo hi j:Int} {own:List Mark}:∀ {l:List Event} {s s':Nat×Bool×Event},ansL lo hi j own s l=some s'→s.1≤s'.1
  | [],s,s',h=>by cases h;exact Nat.le_refl _
  | e :: l, s, s', h => by
    have h:(match ansE lo hi j own s e with | some s=>ansL lo hi j own s l | none=>none)=some s':=h
    cases h1:ansE lo hi j own s e with
    | none=>rw [h1] at h;cases h
    | some v=>rw [h1] at h;exact Nat.le_trans (Zxo h1) (Zsh h)
theorem Zqy {lo hi j:Int} {own x:List Mark}:∀ {l:List Event} {s s':Nat×Bool×Event},ansL lo hi j (own++x) s l=some s'→s'.1≤own.length→ansL lo hi j own s l=some s'
  | [],s,s',h,_=>h
  | e :: l, s, s', h, hs => by
    have h:(match ansE lo hi j (own++x) s e with | some s=>ansL lo hi j (own++x) s l | none=>none)=some s':=h
    show (match ansE lo hi j own s e with | some s=>ansL lo hi j own s l | none=>none)=_
    cases h1:ansE lo hi j (own++x) s e with
    | none=>rw [h1] at h;cases h
    | some v =>
      rw [h1] at h
      have hle:=Zsh h
      have h2:ansE lo hi j own s e=some v:=by
        unfold ansE at h1 ⊢
        by_cases g:e.t≠j∨e.kind=3
        · rw [if_pos g] at h1 ⊢;exact h1
        · rw [if_neg g] at h1 ⊢
          by_cases k:e.kind=1
          · rw [if_pos k] at h1 ⊢;exact h1
          · rw [if_neg k] at h1 ⊢
            by_cases f:s.2.1=true∧Fits lo hi (own++x) s.1 s.2.2 e
            · rw [if_pos f] at h1
              obtain rfl:=Option.some.inj h1
              have hlt:s.1<own.length:=by
                have hle:s.1+1≤s'.1:=hle
                omega
              have f2:=f.2
              unfold Fits at f2
              have e1:(own++x).getD s.1 ZaJ=own.getD s.1 ZaJ:=by
                rw [List.getD_eq_getElem?_getD,List.getD_eq_getElem?_getD,List.getElem?_append_left hlt]
              rw [e1] at f2
              rw [if_pos (show s.2.1=true∧Fits lo hi own s.1 s.2.2 e from ⟨f.1,hlt,f2.2⟩)]
            · rw [if_neg f] at h1;cases h1
      rw [h2]
      exact Zqy h hs
theorem Zpm {lo hi j:Int} {own:List Mark}:∀ {l:List Event} {s s':Nat×Bool×Event} (B:Int),l.Pairwise (fun a b=>a.step≤b.step)→(∀ e∈l,B≤e.step)→(1≤s.1→(own.getD (s.1-1) ZaJ).step≤B)→(s.2.1=true→1≤s.1→(own.getD (s.1-1) ZaJ).step≤s.2.2.step) →
    ansL lo hi j own s l=some s'→(s'.2.1=true→1≤s'.1→(own.getD (s'.1-1) ZaJ).step≤s'.2.2.step)
  | [],s,s',B,_,_,_,h2,h=>by cases h;exact h2
  | e :: l, s, s', B, hp, hB, h1, h2, h => by
    have h:(match ansE lo hi j own s e with | some s=>ansL lo hi j own s l | none=>none)=some s':=h
    rw [List.pairwise_cons] at hp
    have hBe:=hB e (List.mem_cons_self ..)
    cases h3:ansE lo hi j own s e with
    | none=>rw [h3] at h;cases h
    | some v =>
      rw [h3] at h
      refine Zpm (s:=v) e.step hp.2 hp.1 ?_ ?_ h
      · unfold ansE at h3
        split at h3
        · rw [← Option.some.inj h3];exact fun x=>Int.le_trans (h1 x) hBe
        · split at h3
          · split at h3
            · cases h3
            · rw [← Option.some.inj h3];exact fun x=>Int.le_trans (h1 x) hBe
          · split at h3
            · rename_i f
              rw [← Option.some.inj h3]
              intro _
              exact f.2.2.2.2.2.2.2.2.2
            · cases h3
      · unfold ansE at h3
        split at h3
        · rw [← Option.some.inj h3];exact h2
        · split at h3
          · split at h3
            · cases h3
            · rw [← Option.some.inj h3];exact fun _ x=>Int.le_trans (h1 x) hBe
          · split at h3
            · rw [← Option.some.inj h3];exact fun x=>by cases x
            · cases h3
section
variable {c:Config} {w:Wld} {n:Nat} {ro pa rt:Int→Int} {co:Int→Option Int}
theorem Zsf {j:Int} {a:List Mark} {m:Mark}:Za2 j (a++[m])=if m.t=j then Za2 j a++[m] else Za2 j a:=by
  rw [ZpR]
  unfold Za2
  rw [List.filter_cons]
  by_cases h:m.t=j
  · rw [if_pos (by simp [h]),if_pos h];rfl
  · rw [if_neg (by simp [h]),if_neg h];simp
theorem dropped (Li:Lin c w ro co) (W:WInv c w n ro pa rt co) (hC:CfgOK c) {a:List Mark} {m:Mark} (hl:w.log=a++[m]) :
    LinP { w with log:=a }↔(((pend (evts w.hist m.t)).2=true∧(pend (evts w.hist m.t)).1.step<m.step)∧(App m.op m.prior c.lo c.hi).1=m.prior):=by
  have hcE:=W.cE
  have hm:m∈w.log:=by rw [hl];simp
  obtain ⟨q1,q2,q3,q4⟩:=Li.inlog m hm
  have hin:=q1
  unfold InT at hin
  have hb:=Zck hC
  have hthr:AnsP c.lo c.hi m.t (Za2 m.t a) w.hist↔((pend (evts w.hist m.t)).2=true∧(pend (evts w.hist m.t)).1.step<m.step):=by
    obtain ⟨k,op,last,an,b,d,f,g⟩:=(Li.ans m.t q1).ex
    have ho:Za2 m.t w.log=Za2 m.t a++[m]:=by rw [hl,Zsf,if_pos rfl]
    rw [ho] at an f g
    rw [Zwp an]
    cases hco:co m.t with
    | some x =>
      obtain ⟨g1,g2,g3,g4,g5,g6⟩:=g x hco
      rw [List.length_append,List.length_singleton] at g1
      have hk:(Za2 m.t a).length=k:=by omega
      have hop:op=true:=b.2 (fun h0=>by have:=(W.inv.core.k0 m.t h0).1;rw [hco] at this;cases this)
      have hgm:(Za2 m.t a++[m]).getD k ZaJ=m:=by
        rw [List.getD_eq_getElem?_getD,List.getElem?_append_right (by omega),hk,Nat.sub_self];rfl
      rw [hgm] at g5
      rw [if_pos hop]
      exact ⟨fun _=>⟨rfl,g5⟩,fun _=>⟨k,op,last,Zqy an (by show k≤_;omega),.inl hk⟩⟩
    | none =>
      have hk:=f hco
      rw [List.length_append,List.length_singleton] at hk
      constructor
      · rintro ⟨n',op',last',h1,_⟩
        have h2:=ZpV h1 (Nat.zero_le _)
        have h3:=ZmX (x:=[m]) h1
        rw [an] at h3
        cases h3
        have h2:k≤(Za2 m.t a).length:=h2
        omega
      · rintro ⟨h1,h2⟩
        by_cases hop:op=true
        · rw [if_pos hop] at h2
          have:=Zpm (own:=Za2 m.t a++[m]) 0 Li.hsrt (fun e he=>(Li.ehist e he).2.2.2.1) (fun h=>absurd h (by decide)) (fun h=>absurd h (by decide)) an hop (by show 1≤k;omega)
          have this:((Za2 m.t a++[m]).getD (k-1) ZaJ).step≤last.step:=this
          have hgm:(Za2 m.t a++[m]).getD (k-1) ZaJ=m:=by
            rw [List.getD_eq_getElem?_getD,List.getElem?_append_right (by omega),show k-1-(Za2 m.t a).length=0 by omega];rfl
          rw [hgm] at this
          have h2:last.step<m.step:=h2
          omega
        · rw [if_neg hop] at h1;cases h1
  have hcell:∀ i,0≤i→i<c.items→∃ z,Zc5 c i c.init a=some z∧(m.item≠i→z=w.m.words.getD (pl c i 0).toNat 0)∧(m.item=i→m.prior=z∧(App m.op z c.lo c.hi).1=w.m.words.getD (pl c i 0).toNat 0):=by
    intro i h0 h1
    have hcl:=Li.cells i h0 h1
    rw [hl,rd_B ⟨⟨h0,h1⟩,Int.le_refl 0,by omega⟩] at hcl
    obtain ⟨z,c1,c2⟩:=ZkM hcl
    refine ⟨z,c1,fun hne=>?_,fun he=>?_⟩
    · rw [ZeX,if_pos hne] at c2;exact Option.some.inj c2
    · rw [ZeX,if_neg (fun x=>x he)] at c2
      by_cases g:m.prior=z∧Inb c (App m.op z c.lo c.hi).1
      · rw [if_pos g] at c2;exact ⟨g.1,Option.some.inj c2⟩
      · rw [if_neg g] at c2;cases c2
  constructor
  · intro hL
    have hA:=hL.threads m.t.toNat (by show _<w.c.threads;rw [hcE];omega)
    have e:((m.t.toNat:Nat):Int)=m.t:=by omega
    rw [e] at hA
    have hA:AnsP w.c.lo w.c.hi m.t (Za2 m.t a) w.hist:=hA
    rw [hcE] at hA
    refine ⟨hthr.1 hA,?_⟩
    obtain ⟨z,z1,_,z3⟩:=hcell m.item q2.1 q2.2
    obtain ⟨z4,z5⟩:=z3 rfl
    have hI:=(hL.items m.item.toNat (by show _<w.c.items;rw [hcE];omega)).2
    have e2:((m.item.toNat:Nat):Int)=m.item:=by omega
    rw [e2] at hI
    have hI:(replay w.c a m.item).1=w.m.words.getD (pl w.c m.item 0).toNat 0:=hI
    unfold replay at hI
    rw [hcE,ZfE z1] at hI
    have hI:z=w.m.words.getD (pl c m.item 0).toNat 0:=hI
    rw [z4,z5,← hI]
  · rintro ⟨h1,h2⟩
    refine ⟨?_,fun i hi=>?_,fun j hj=>?_⟩
    · have hs:=Li.srt
      rw [hl,List.pairwise_append] at hs
      exact ZwD hs.1
    · have hi:(i:Int)<w.c.items:=hi
      rw [hcE] at hi
      obtain ⟨z,z1,z2,z3⟩:=hcell i (by omega) hi
      show (replay w.c a i).2=true∧(replay w.c a i).1=w.m.words.getD (pl w.c i 0).toNat 0
      unfold replay
      rw [hcE,ZfE z1]
      refine ⟨rfl,?_⟩
      by_cases he:m.item=(i:Int)
      · obtain ⟨z4,z5⟩:=z3 he
        show z=_
        rw [← z5,← z4,h2]
      · exact z2 he
    · have hj:(j:Int)<w.c.threads:=hj
      rw [hcE] at hj
      show AnsP w.c.lo w.c.hi j (Za2 j a) w.hist
      rw [hcE]
      by_cases he:m.t=(j:Int)
      · rw [← he];exact hthr.2 h1
      · have:=Li.answered W (j:=(j:Int)) ⟨by omega,hj⟩
        rwa [hl,Zsf,if_neg he] at this
end
theorem Zmr (c:Config) (l:List SEntry) (d:List Int) (o0:(Zaq celConfig).Ok c) (o1:(Zap .sentry).Ok l) (o2:(Zap .int).Ok d):Zeq c l d=some true:=by
  unfold Zeq
  simp only [Ztd,Zat]
  by_cases h1:(l.length:Int)>400
  · rw [if_pos h1]
  rw [if_neg h1]
  by_cases h2:(d.length:Int)>200
  · rw [if_pos h2]
  rw [if_neg h2]
  simp only [Bool.not_true,cond_false]
  have hc:=ZzU o0
  rcases ZzX (c:=c) (l:=l) (d:=d) hc (ZtQ o1) (by omega) with ⟨r1,r2⟩ | ⟨r1,r2,hC,r3,r4,ro,pa,rt,co,W,Li⟩
  · rw [show Zgn (c,l,d)=some (ZyN,allE c l) from r1]
    simp only []
    rw [Zgz r2]
    rfl
  · obtain ⟨w,hw⟩:∃ w,w=l.foldl Zeb (newW c d):=⟨_,rfl⟩
    rw [← hw] at r1 W Li
    rw [show Zgn (c,l,d)=some (w,0,0) from r1]
    have hO:=Li.ok W hC hc (by omega)
    have hL:ZcN w=some true:=by
      show ZeT w=_
      rw [Zk5 hO,decide_eq_true (Li.linear W hC)]
    have hh:=W.hist
    have hlg:=W.log
    simp only [bne_self_eq_false,cond_false]
    by_cases hz:w.log.length=0
    · rw [Zbd (show (w.log.length:Int)=0 by omega),cond_true,hL]
    rw [ZaO (show ¬(w.log.length:Int)=0 by omega),cond_false]
    obtain ⟨k,hk⟩:∃ k,w.log.length=k+1:=⟨w.log.length-1,by omega⟩
    have hwr:Zad IntKind.i64 ((w.log.length:Int)-1)=(k:Int):=by rw [Zau (by omega) (by omega)];omega
    rw [hwr]
    rw [if_pos (show (0:Int)≤(k:Int) by omega),if_pos (show (k:Int)<(w.log.length:Int) by omega),if_pos (show (0:Int)≤(k:Int) by omega),if_pos (show (k:Int)≤(w.log.length:Int) by omega),Int.toNat_natCast]
    obtain ⟨m,hm⟩:∃ m,m=w.log.getD k ZaJ:=⟨_,rfl⟩
    have hsp:w.log=w.log.take k++[m]:=by
      have:=ZmM w.log ZaJ k (by omega)
      rw [← hm] at this
      rw [this,← hk,List.take_length]
    rw [← hm]
    have hp:Zev (w.hist,m.t)=some (pend (evts w.hist m.t)):=Zpf m.t (show w.hist.length≤4294967296 by omega)
    have ha:Zi7 (m.op,m.prior,c.lo,c.hi)=some (App m.op m.prior c.lo c.hi):=Zih _ _ _ _
    have hdr:List.drop (Int.toNat (0:Int)) (w.log.take k)=w.log.take k:=rfl
    have hO2:WldOK { w with log:=w.log.take k }:=⟨hO.cfg,hO.conf,fun x hx=>hO.marks x (List.mem_of_mem_take hx),hO.events,by
      have:=hO.log
      show (w.log.take k).length≤_
      rw [List.length_take];omega,hO.hist,hO.words⟩
    have hL2:ZcN { w with log:=w.log.take k }=some (decide (LinP { w with log:=w.log.take k })):=Zk5 hO2
    have key:=dropped Li W hC hsp
    simp only [ha,hp,hdr,hL2]
    cases h5:(pend (evts w.hist m.t)).2 with
    | false =>
      rw [decide_eq_false (fun x=>by have:=(key.1 x).1.1;rw [h5] at this;cases this)]
      rfl
    | true =>
      simp only [cond_true]
      by_cases h6:(pend (evts w.hist m.t)).1.step<m.step
      · rw [if_pos h6]
        by_cases h7:(App m.op m.prior c.lo c.hi).1=m.prior
        · rw [decide_eq_true (key.2 ⟨⟨h5,h6⟩,h7⟩),Zbd h7];rfl
        · rw [decide_eq_false (fun x=>h7 (key.1 x).2),ZaO h7];rfl
      · rw [if_neg h6,decide_eq_false (fun x=>h6 (key.1 x).1.2)];rfl
end Go.Proofs.Mill
