/- The plain law of HistoryForged. -/
import Derived.Test.YtaopdopnecognaaGreatMillPureHistoryRuns
namespace Go.Proofs.Mill
set_option linter.all false
theorem Zp6 {a b:Int} (ha:Num a) (hb:Num b) (h:b≠0):Zae .i64 (a+b)≠a:=by
  obtain ⟨k,hk⟩:=Zs0 (a+b)
  rw [hk]
  unfold Num at ha hb
  omega
theorem Ziu {c:Config} {i:Int}:∀ {a b:List Mark} {x y:Int},ZcY c i x (a++b)=some y→∃ z,ZcY c i x a=some z∧ZcY c i z b=some y
  | [],b,x,y,h=>⟨x,rfl,h⟩
  | m :: a, b, x, y, h => by
    rw [List.cons_append,Zep] at h
    rw [Zep]
    by_cases e:m.item≠i
    · rw [if_pos e] at h ⊢;exact Ziu h
    · rw [if_neg e] at h ⊢
      by_cases g:m.prior=x∧Inb c (App m.op x c.lo c.hi).1
      · rw [if_pos g] at h ⊢;exact Ziu h
      · rw [if_neg g] at h;cases h
theorem ZlE {lo hi j:Int} {own:List Mark}:∀ {a b:List Event} {s s':Nat×Bool×Event},ansL lo hi j own s (a++b)=some s'→∃ v,ansL lo hi j own s a=some v∧ansL lo hi j own v b=some s'
  | [],b,s,s',h=>⟨s,rfl,h⟩
  | e :: a, b, s, s', h => by
    have h:(match ansE lo hi j own s e with | some s=>ansL lo hi j own s (a++b) | none=>none)=some s':=h
    show ∃ v,(match ansE lo hi j own s e with | some s=>ansL lo hi j own s a | none=>none)=some v∧_
    cases h1:ansE lo hi j own s e with
    | none=>rw [h1] at h;cases h
    | some v=>rw [h1] at h;exact ZlE h
theorem Zn6 {lo hi:Int}:∀ (l:List Mark) (z:Int×Bool),z.2=false→(l.foldl (Zjs lo hi) z).2=false
  | [],z,h=>h
  | m::l,z,h=>Zn6 l _ (by show (z.2 && z.1 == m.prior)=false;rw [h];rfl)
theorem Zm8 {α:Type} {l:List α} {k:Nat} (h:k<l.length) (d m':α):l=l.take k++l.getD k d::l.drop (k+1)∧l.set k m'=l.take k++m'::l.drop (k+1):=by
  have e:l.getD k d=l[k]:=by rw [List.getD_eq_getElem?_getD,List.getElem?_eq_getElem h];rfl
  refine ⟨?_,?_⟩
  · rw [e,← List.drop_eq_getElem_cons h,List.take_append_drop]
  · rw [List.set_eq_take_append_cons_drop,if_pos h]
section
variable {c:Config} {w:Wld} {n:Nat} {ro pa rt:Int→Int} {co:Int→Option Int}
theorem ZvX (Li:Lin c w ro co) (W:WInv c w n ro pa rt co) (hci:Num c.init) (hlo:Num c.lo) {k:Nat} (hk:k<w.log.length) {p:Int} (hp:p≠(w.log.getD k ZaF).prior):¬LinP { w with log:=w.log.set k { w.log.getD k ZaF with prior:=p } }:=by
  intro hL
  obtain ⟨s1,s2⟩:=Zm8 hk ZaF { w.log.getD k ZaF with prior:=p }
  have hm:w.log.getD k ZaF∈w.log:=by rw [List.getD_eq_getElem?_getD,List.getElem?_eq_getElem hk];exact List.getElem_mem hk
  obtain ⟨q1,q2,q3,q4⟩:=Li.inlog _ hm
  generalize w.log.getD k ZaF=m at *
  have hcell:=Li.cells m.item q2.1 q2.2
  rw [s1] at hcell
  obtain ⟨x,h1,h2⟩:=Ziu hcell
  rw [Zep,if_neg (fun h=>h rfl)] at h2
  have hpx:m.prior=x:=by
    by_cases g:m.prior=x∧Inb c (App m.op x c.lo c.hi).1
    · exact g.1
    · rw [if_neg g] at h2;cases h2
  have hcE:=W.cE
  have:=(hL.items m.item.toNat (by show _<w.c.items;rw [hcE];omega)).1
  have e:((m.item.toNat:Nat):Int)=m.item:=by omega
  rw [e] at this
  unfold replay at this
  have this:(((w.log.set k { m with prior:=p }).filter fun x=>x.item == m.item).foldl (Zjs w.c.lo w.c.hi) (w.c.init,true)).2=true:=this
  rw [s2,List.filter_append,List.foldl_append,hcE,Zhl h1,List.filter_cons,if_pos (by simp)] at this
  have hf:=Zn6 (lo:=c.lo) (hi:=c.hi) ((w.log.drop (k+1)).filter fun x=>x.item == m.item) (Zjs c.lo c.hi (x,true) { m with prior:=p }) (by
    show (true && x == p)=false
    rw [ZaP (show ¬x=p from fun h=>hp (by rw [← h,hpx]))];rfl)
  rw [List.foldl_cons] at this
  rw [hf] at this
  cases this
theorem Zt4 (Li:Lin c w ro co) (W:WInv c w n ro pa rt co) {k:Nat} (hk:k<w.hist.length) (hkind:(w.hist.getD k ZbX).kind=2) {p:Int} (hp:p≠(w.hist.getD k ZbX).prior):¬LinP { w with hist:=w.hist.set k { w.hist.getD k ZbX with prior:=p } }:=by
  intro hL
  obtain ⟨s1,s2⟩:=Zm8 hk ZbX { w.hist.getD k ZbX with prior:=p }
  have hm:w.hist.getD k ZbX∈w.hist:=by rw [List.getD_eq_getElem?_getD,List.getElem?_eq_getElem hk];exact List.getElem_mem hk
  have hin:=(Li.ehist _ hm).1
  generalize w.hist.getD k ZbX=h at *
  have hcE:=W.cE
  obtain ⟨k1,op,last,a,_⟩:=(Li.ans h.t hin).ex
  rw [s1] at a
  obtain ⟨v,a1,a2⟩:=ZlE a
  have a2:(match ansE c.lo c.hi h.t (Za8 h.t w.log) v h with | some s=>ansL c.lo c.hi h.t (Za8 h.t w.log) s (w.hist.drop (k+1)) | none=>none)=some (k1,op,last):=a2
  have hfit:v.2.1=true∧Fits c.lo c.hi (Za8 h.t w.log) v.1 v.2.2 h:=by
    cases h1:ansE c.lo c.hi h.t (Za8 h.t w.log) v h with
    | none=>rw [h1] at a2;cases a2
    | some v1 =>
      unfold ansE at h1
      rw [if_neg (show ¬(h.t≠h.t∨h.kind=3) from fun x=>x.elim (fun y=>y rfl) (fun y=>by omega)),if_neg (show ¬h.kind=1 by omega)] at h1
      split at h1
      · assumption
      · cases h1
  have hin2:=hin
  unfold InT at hin2
  have hA:=hL.threads h.t.toNat (by show _<w.c.threads;rw [hcE];omega)
  have e:((h.t.toNat:Nat):Int)=h.t:=by omega
  rw [e] at hA
  obtain ⟨n',op',last',b,_⟩:=hA
  have b:ansL w.c.lo w.c.hi h.t (Za8 h.t w.log) (0,false,ZbX) (w.hist.set k { h with prior:=p })=some (n',op',last'):=b
  rw [s2,hcE] at b
  obtain ⟨v',b1,b2⟩:=ZlE b
  rw [a1] at b1
  obtain rfl:=Option.some.inj b1
  have b2:(match ansE c.lo c.hi h.t (Za8 h.t w.log) v { h with prior:=p } with | some s=>ansL c.lo c.hi h.t (Za8 h.t w.log) s (w.hist.drop (k+1)) | none=>none)=some (n',op',last'):=b2
  have hno:ansE c.lo c.hi h.t (Za8 h.t w.log) v { h with prior:=p }=none:=by
    unfold ansE
    rw [if_neg (show ¬(h.t≠h.t∨h.kind=3) from fun x=>x.elim (fun y=>y rfl) (fun y=>by omega)),if_neg (show ¬h.kind=1 by omega),if_neg]
    rintro ⟨_,f⟩
    have f1:=f.2.2.2.1
    have f2:=hfit.2.2.2.2.1
    rw [f2] at f1
    exact hp f1.symm
  rw [hno] at b2
  cases b2
theorem Zua (Li:Lin c w ro co) (W:WInv c w n ro pa rt co) (hC:CfgOK c) {i:Int} (h0:0≤i) (h1:i<c.items) {p:Int} (hp:p≠w.m.words.getD (pl c i 0).toNat 0):¬LinP { w with m:={ w.m with words:=w.m.words.set (pl c i 0).toNat p } }:=by
  intro hL
  have hcE:=W.cE
  have hO:=(Li.linear W hC).items i.toNat (by rw [hcE];omega)
  have hN:=hL.items i.toNat (by show _<w.c.items;rw [hcE];omega)
  have e:((i.toNat:Nat):Int)=i:=by omega
  rw [e,hcE] at hO
  have hN:(replay w.c w.log ((i.toNat:Nat):Int)).2=true∧(replay w.c w.log ((i.toNat:Nat):Int)).1=(w.m.words.set (pl c i 0).toNat p).getD (pl w.c ((i.toNat:Nat):Int) 0).toNat 0:=hN
  rw [e,hcE] at hN
  have hb:=Zca hC
  have hpb:=Zes hC h0 h1 (Int.le_refl 0) (by omega)
  have hlw:=W.lenW
  rw [Zd0 (by omega),hO.2] at hN
  exact hp hN.2.symm
end
theorem Zn3 {c c':Config} {w:Wld} {n:Nat} {ro pa rt:Int→Int} {co:Int→Option Int} {at_ by_:Int} {ws:List Int} (Li:Lin c w ro co) (W:WInv c w n ro pa rt co) (hC:CfgOK c) (hc:Ziv c) (hn:n≤60000) (hby:Num by_) (hb0:by_≠0) :
    ∀ (k i:Nat),i+k=w.hist.length→ZcW (at_,by_,c',w,w.hist,ws,w,(i:Int))=some (.inl (at_,by_,c',w,ws))
  | 0, i, hk => by
    refine whileM_some.2 (.done _ _ ?_)
    show ZbI _ _ _ _ _ _ _ _=_
    unfold ZbI
    simp only [Zat]
    rw [if_neg (by omega)]
  | k + 1, i, hk => by
    have hh:=W.hist
    have hi:i<w.hist.length:=by omega
    have hO:=Li.ok W hC hc hn
    by_cases g:(w.hist.getD i ZbX).kind=2
    · refine whileM_some.2 (.done _ _ ?_)
      show ZbI _ _ _ _ _ _ _ _=_
      unfold ZbI
      have hm:w.hist.getD i ZbX∈w.hist:=by rw [List.getD_eq_getElem?_getD,List.getElem?_eq_getElem hi];exact List.getElem_mem hi
      have hpr:=(Li.ehist _ hm).2.2.2.2
      have hne:=Zp6 hpr.2 hby hb0
      have hO2:WldOK { w with hist:=w.hist.set i { w.hist.getD i ZbX with prior:=Zae IntKind.i64 ((w.hist.getD i ZbX).prior+by_) } }:=⟨hO.cfg,hO.conf,hO.marks,fun e he=>by
        rcases List.mem_or_eq_of_mem_set he with h1 | h1
        · exact hO.events e h1
        · rw [h1];exact ⟨hpr.1,ZlF _⟩,hO.log,by show (w.hist.set _ _).length≤_;rw [List.length_set];exact hO.hist,hO.words⟩
      have hL:ZbH { w with hist:=w.hist.set i { w.hist.getD i ZbX with prior:=Zae IntKind.i64 ((w.hist.getD i ZbX).prior+by_) } }=some false:=by
        show ZcP _=_
        rw [Zgd hO2,decide_eq_false (Zt4 Li W hi g hne)]
      simp only [Zat,Int.toNat_natCast]
      rw [if_pos (show (i:Int)<(w.hist.length:Int) by omega),if_pos (show (0:Int)≤(i:Int) by omega),if_pos (show (i:Int)<(w.hist.length:Int) by omega),Zbe g,cond_true,
        if_pos (show (0:Int)≤(i:Int) by omega),if_pos (show (i:Int)<(w.hist.length:Int) by omega),if_pos (show (0:Int)≤(i:Int) by omega),if_pos (show (i:Int)<(w.hist.length:Int) by omega),hL]
      rfl
    · have ih:=Zn3 (at_:=at_) (ws:=ws) (c':=c') Li W hC hc hn hby hb0 k (i+1) (by omega)
      refine whileM_some.2 (.more _ _ _ ?_ (whileM_some.1 ih))
      show ZbI _ _ _ _ _ _ _ _=_
      unfold ZbI
      simp only [Zat,Int.toNat_natCast]
      rw [if_pos (show (i:Int)<(w.hist.length:Int) by omega),if_pos (show (0:Int)≤(i:Int) by omega),if_pos (show (i:Int)<(w.hist.length:Int) by omega),ZaP g,cond_false,Zau (by omega) (by omega)]
      rfl
theorem ZmP (c:Config) (l:List SEntry) (d:List Int) (x3 x4:Int) (o0:(Zaq celConfig).Ok c) (o1:(Zap .sentry).Ok l) (o2:(Zap .int).Ok d) (o3:(Zad .u8).Ok x3) (o4:(Zad .i64).Ok x4):ZeR c l d x3 x4=some true:=by
  have hx4:Num x4:=Zs1 o4
  unfold ZeR
  simp only [ZsG,Zat]
  by_cases h1:(l.length:Int)>400
  · rw [if_pos h1]
  rw [if_neg h1]
  by_cases h2:(d.length:Int)>200
  · rw [if_pos h2]
  rw [if_neg h2]
  by_cases h4:x4=0
  · rw [Zbe h4];rfl
  rw [ZaP h4]
  simp only [Bool.not_true,cond_false]
  have hc:=ZzO o0
  have u3:=Zw3 o3
  rcases ZzJ (c:=c) (l:=l) (d:=d) hc (ZtH o1) (by omega) with ⟨r1,r2⟩ | ⟨r1,r2,hC,r3,r4,ro,pa,rt,co,W,Li⟩
  · rw [show Zgw (c,l,d)=some (Zy0,allE c l) from r1]
    simp only []
    rw [ZgE r2]
    rfl
  · obtain ⟨w,hw⟩:∃ w,w=l.foldl Zej (newW c d):=⟨_,rfl⟩
    rw [← hw] at r1 W Li
    rw [show Zgw (c,l,d)=some (w,0,0) from r1]
    have hO:=Li.ok W hC hc (by omega)
    have hL:ZbH w=some true:=by
      show ZcP w=_
      rw [Zgd hO,decide_eq_true (Li.linear W hC)]
    have hh:=W.hist
    have hlg:=W.log
    have hlw:=W.lenW
    have hit:=hC.items
    have hsz:=Zii hC
    simp only [bne_self_eq_false,cond_false,hL,Bool.not_true,wrap_u8 o3]
    rw [ZbA (n:=0+w.log.length) (by omega),ZbA (n:=0+w.hist.length) (by omega),ZbA (n:=0+w.m.words.length) (by omega)]
    simp only [cond_true]
    have hloop:=Zn3 (c':=c) (at_:=x3) (by_:=x4) (ws:=w.m.words) Li W hC hc (by omega) hx4 h4 w.hist.length 0 (by omega)
    have hloop:ZcW (x3,x4,c,w,w.hist,w.m.words,w,(0:Int))=some (.inl (x3,x4,c,w,w.m.words)):=hloop
    have k2:=Zuc (a:=x3) (b:=c.items) u3.1 hit.1
    obtain ⟨i,hi⟩:∃ i,i=x3.tmod c.items:=⟨_,rfl⟩
    rw [← hi] at k2
    have hb:=Zca hC
    have hpb:=Zes hC k2.1 k2.2 (Int.le_refl 0) (by omega)
    have hcell:ZfK (c,i)=some (pl c i 0):=by
      show ZhA c i=_
      rw [ZvJ hC]
      unfold cellAt
      rw [if_neg (by omega)]
      simp [pl]
    have hnw:Num (w.m.words.getD (pl c i 0).toNat 0):=by
      have:=W.inv.num.1 i 0
      rwa [rd_B ⟨k2,Int.le_refl 0,by omega⟩] at this
    have hO3:WldOK { w with m:={ w.m with words:=w.m.words.set (pl c i 0).toNat (Zae IntKind.i64 (w.m.words.getD (pl c i 0).toNat 0+x4)) } }:=⟨hO.cfg,hO.conf,hO.marks,hO.events,hO.log,hO.hist,by show ((w.m.words.set _ _).length:Int)=_;rw [List.length_set];exact hO.words⟩
    have hL3:ZbH { w with m:={ w.m with words:=w.m.words.set (pl c i 0).toNat (Zae IntKind.i64 (w.m.words.getD (pl c i 0).toNat 0+x4)) } }=some false:=by
      show ZcP _=_
      rw [Zgd hO3,decide_eq_false (Zua Li W hC k2.1 k2.2 (Zp6 hnw hx4 h4))]
    have tail:(if c.items=(0:Int) then (none:Option Bool) else
        match ZfK (c,x3.tmod c.items) with
        | some y6 =>
          if y6≥(w.m.words.length:Int) then some false else if (0:Int)≤y6 then if y6<(w.m.words.length:Int) then if (0:Int)≤y6 then if y6<(w.m.words.length:Int) then
            match ZbH { w with m:={ w.m with words:=w.m.words.set y6.toNat (Zae IntKind.i64 (w.m.words.getD y6.toNat 0+x4)) } } with
            | some y7=>some (!y7)
            | none=>none else none else none else none else none
        | none=>none)=some true:=by
      rw [if_neg (by omega),← hi,hcell]
      simp only []
      rw [if_neg (by omega),if_pos hpb.1,if_pos (by omega),if_pos hpb.1,if_pos (by omega),hL3]
      rfl
    by_cases hz:(w.log.length:Int)>0
    · rw [if_pos hz,if_neg (show ¬(w.log.length:Int)=0 by omega)]
      have k1:=Zuc (a:=x3) (b:=(w.log.length:Int)) u3.1 (by omega)
      obtain ⟨k,hk⟩:∃ k,k=x3.tmod (w.log.length:Int):=⟨_,rfl⟩
      rw [← hk] at k1 ⊢
      have hm:w.log.getD k.toNat ZaF∈w.log:=by rw [List.getD_eq_getElem?_getD,List.getElem?_eq_getElem (by omega)];exact List.getElem_mem (by omega)
      have hpn:Num (w.log.getD k.toNat ZaF).prior:=by
        have hkl:k.toNat<w.log.length:=by omega
        obtain ⟨s1,_⟩:=Zm8 hkl ZaF ZaF
        have q:=Li.inlog _ hm
        have hcl:=Li.cells (w.log.getD k.toNat ZaF).item q.2.1.1 q.2.1.2
        have hcl:ZcY c (w.log.getD k.toNat ZaF).item c.init (w.log.take k.toNat++w.log.getD k.toNat ZaF::w.log.drop (k.toNat+1))=some ((vw c w.m w.t).b (w.log.getD k.toNat ZaF).item 0):=by rw [← s1];exact hcl
        obtain ⟨x,c1,c2⟩:=Ziu hcl
        rw [Zep,if_neg (fun h=>h rfl)] at c2
        have hpx:(w.log.getD k.toNat ZaF).prior=x:=by
          by_cases g:(w.log.getD k.toNat ZaF).prior=x∧Inb c (App (w.log.getD k.toNat ZaF).op x c.lo c.hi).1
          · exact g.1
          · rw [if_neg g] at c2;cases c2
        have key:∀ (a:List Mark) (x y:Int),(∀ m∈a,Num m.op.v)→Num x→ZcY c (w.log.getD k.toNat ZaF).item x a=some y→Num y:=by
          intro a
          induction a with
          | nil=>intro x y _ hx h;cases h;exact hx
          | cons m a ih =>
            intro x y ha hx h
            rw [Zep] at h
            by_cases e:m.item≠(w.log.getD k.toNat ZaF).item
            · rw [if_pos e] at h;exact ih x y (fun z hz=>ha z (List.mem_cons_of_mem _ hz)) hx h
            · rw [if_neg e] at h
              by_cases g:m.prior=x∧Inb c (App m.op x c.lo c.hi).1
              · rw [if_pos g] at h
                exact ih _ y (fun z hz=>ha z (List.mem_cons_of_mem _ hz)) (Zlh hx (ha m (List.mem_cons_self ..)) hc.2.1) h
              · rw [if_neg g] at h;cases h
        rw [hpx]
        exact key _ c.init x (fun m hm=>(Li.inlog m (List.mem_of_mem_take hm)).2.2.2) hc.1 c1
      have hO1:WldOK { w with log:=w.log.set k.toNat { w.log.getD k.toNat ZaF with prior:=Zae IntKind.i64 ((w.log.getD k.toNat ZaF).prior+x4) } }:=⟨hO.cfg,hO.conf,fun m hmm=>by
        rcases List.mem_or_eq_of_mem_set hmm with h1 | h1
        · exact hO.marks m h1
        · rw [h1];exact hO.marks (w.log.getD k.toNat ZaF) hm,hO.events,by show (w.log.set _ _).length≤_;rw [List.length_set];exact hO.log,hO.hist,hO.words⟩
      have hL1:ZbH { w with log:=w.log.set k.toNat { w.log.getD k.toNat ZaF with prior:=Zae IntKind.i64 ((w.log.getD k.toNat ZaF).prior+x4) } }=some false:=by
        show ZcP _=_
        rw [Zgd hO1,decide_eq_false (ZvX Li W hc.1 hc.2.1 (by omega) (Zp6 hpn hx4 h4))]
      rw [if_pos k1.1,if_pos k1.2,if_pos k1.1,if_pos k1.2,hL1]
      simp only [cond_false,hloop,wrap_u8 o3]
      exact tail
    · rw [if_neg hz,hloop]
      simp only [wrap_u8 o3]
      exact tail
end Go.Proofs.Mill
