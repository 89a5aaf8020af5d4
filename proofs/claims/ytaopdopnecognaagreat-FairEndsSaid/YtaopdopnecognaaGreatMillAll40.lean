/- Parts of the proof: MillQHist2, MillQHist3, MillQFair2. -/
import Derived.Test.YtaopdopnecognaaGreatMillAll39
import Derived.KernelRfl
set_option linter.all false
noncomputable section
/- Whether a world is linear, as the program says it. -/
namespace Go.Proofs.Mill
theorem Zvh {c:Config} {own:List Mark} {n:Nat} {last e:Event} (hn:n<own.length):fit c (own.getD n ZaW) last e=true↔Fits c.lo c.hi own n last e:=by
 unfold fit Fits
 obtain ⟨a1,a2⟩:∃ a:Op,a=e.op:=⟨_,rfl⟩
 obtain ⟨b1,b2⟩:∃ a:Op,a=last.op:=⟨_,rfl⟩
 obtain ⟨d1,d2⟩:∃ a:Mark,a=own.getD n ZaW:=⟨_,rfl⟩
 rw [<- d2,<- a2,<- b2]
 obtain ⟨m1,m2,m3,m4,m5⟩:=d1
 obtain ⟨p1,p2⟩:=a1
 obtain ⟨q1,q2⟩:=b1
 obtain ⟨r1,r2⟩:=m3
 simp only [Bool.and_eq_true,beq_iff_eq,decide_eq_true_eq,Bool.and_true,Op.mk.injEq]
 constructor
 . rintro ⟨⟨⟨⟨⟨⟨⟨⟨x1,x2⟩,x3⟩,x4,x5⟩,x6⟩,x7⟩,x8⟩,x9⟩,x10⟩
   exact ⟨hn,⟨x4,x5⟩,x6,x7,x8,⟨x1.symm,x2.symm⟩,x3.symm,x9,x10⟩
 . rintro ⟨_,⟨x4,x5⟩,x6,x7,x8,⟨x1,x2⟩,x3,x9,x10⟩
   exact ⟨⟨⟨⟨⟨⟨⟨⟨x1.symm,x2.symm⟩,x3.symm⟩,x4,x5⟩,x6⟩,x7⟩,x8⟩,x9⟩,x10⟩
theorem Zmt {c:Config} {j:Int} {own:List Mark} (hc:Zkp c) (ho:own.length<=4294967296):∀ (l:List Event) (n:Nat) (op:Bool) (last:Event),(∀ e∈l,Zod e)->n<=own.length ->
   Zcq Zcl (evts l j) (c,false,own.drop n,last,op)=match ansL c.lo c.hi j own (n,op,last) l with
     | some (n',op',last')=>some (.inl (c,false,own.drop n',last',op'))
     | none=>some (.inr false)
 | [],n,op,last,_,_=>rfl
 | e :: l, n, op, last, he, hn => by
   have he':=fun x hx=>he x (List.mem_cons_of_mem _ hx)
   have hee:=he e (List.mem_cons_self ..)
   have hev:evts (e::l) j=if e.t=j/\e.kind≠3 then e::evts l j else evts l j:=by
     unfold evts
     rw [List.filter_cons]
     by_cases g:e.t=j/\e.kind≠3
     . rw [if_pos g,if_pos (by simp [g.1,g.2])]
     . rw [if_neg g,if_neg (by simp only [Bool.and_eq_true,beq_iff_eq,bne_iff_ne];exact g)]
   show _=match (match ansE c.lo c.hi j own (n,op,last) e with | some s=>ansL c.lo c.hi j own s l | none=>none) with
     | some (n',op',last')=>some (Sum.inl (c,false,own.drop n',last',op'))
     | none=>some (Sum.inr false)
   rw [hev]
   unfold ansE
   by_cases g:e.t=j/\e.kind≠3
   . rw [if_pos g,if_neg (show ¬(e.t≠j\/e.kind=3) from fun h=>h.elim (fun x=>x g.1) g.2)]
     unfold Zcq
     have hT:Zcl (c,false,own.drop n,last,op) e=ZfQ c false (own.drop n) last op e:=rfl
     rw [hT]
     unfold ZfQ
     by_cases k:e.kind=1
     . rw [Zbb k,if_pos k]
       cases op with
       | true=>rw [if_pos rfl];rfl
       | false =>
         rw [if_neg (show ¬(false=true) by decide)]
         exact Zmt hc ho l n true e he' hn
     . rw [ZaP k,if_neg k]
       cases op with
       | false=>rw [if_neg (show ¬(false=true/\_) from fun h=>absurd h.1 (by decide))];rfl
       | true =>
         by_cases hlt:n<own.length
         . have hd:own.drop n=own.getD n ZaW::own.drop (n+1):=by
             rw [List.drop_eq_getElem_cons hlt,List.getD_eq_getElem?_getD,List.getElem?_eq_getElem hlt,Option.getD_some]
           have hl2:(own.drop (n+1)).length<=4294967296:=by rw [List.length_drop];omega
           rw [hd]
           generalize hr:own.drop (n+1)=rest at hl2
           have hz:(((own.getD n ZaW::rest).length:Int) == 0)=false:=by rw [List.length_cons];simp;omega
           have hp:decide ((0:Int)<((own.getD n ZaW::rest).length:Int))=true:=decide_eq_true (by rw [List.length_cons];omega)
           have hp1:decide ((1:Int)<=((own.getD n ZaW::rest).length:Int))=true:=decide_eq_true (by rw [List.length_cons];omega)
           have hp2:decide (((own.getD n ZaW::rest).length:Int)<=((own.getD n ZaW::rest).length:Int))=true:=decide_eq_true (Int.le_refl _)
           have hdr:List.drop (Int.toNat (1:Int)) (List.take ((own.getD n ZaW::rest).length:Int).toNat (own.getD n ZaW::rest))=rest:=by
             rw [Int.toNat_natCast,List.take_length];rfl
           have hans:Zgj (c,(own.getD n ZaW::rest).getD (Int.toNat (0:Int)) ZaW,last,e)=some (fit c (own.getD n ZaW) last e):=Zpd _ _ hc hee
           simp only [hz,hp,hp1,hp2,hdr,hans,cond_true,cond_false,Bool.not_true]
           by_cases f:Fits c.lo c.hi own n last e
           . rw [(Zvh hlt).2 f,if_pos ⟨by trivial,f⟩]
             show Zcq Zcl (evts l j) (c,false,rest,last,false)=_
             rw [<- hr]
             exact Zmt hc ho l (n+1) false last he' hlt
           . have:fit c (own.getD n ZaW) last e=false:=by
               cases hb:fit c (own.getD n ZaW) last e with
               | false=>rfl
               | true=>exact (f ((Zvh hlt).1 hb)).elim
             rw [this,if_neg (fun x=>f x.2)]
             rfl
         . rw [List.drop_of_length_le (by omega),if_neg (fun x=>hlt x.2.1)]
           rfl
   . rw [if_neg g,if_pos (show e.t≠j\/e.kind=3 from by
       by_cases x:e.t=j
       . by_cases y:e.kind=3
         . exact .inr y
         . exact (g ⟨x,y⟩).elim
       . exact .inl x)]
     exact Zmt hc ho l n op last he' hn
def AnsP (lo hi j:Int) (own:List Mark) (l:List Event):Prop :=
 ∃ n op last,ansL lo hi j own (0,false,Zdh) l=some (n,op,last)/\(own.length=n\/(own.length=n+1/\op=true/\(own.getD n ZaW).op=last.op/\(own.getD n ZaW).item=last.item/\last.step<(own.getD n ZaW).step))
instance (lo hi j:Int) (own:List Mark) (l:List Event):Decidable (AnsP lo hi j own l):=Classical.propDecidable _
theorem Zu9 {lo hi j:Int} {own:List Mark}:∀ {l:List Event} {s s':Nat×Bool×Event},ansL lo hi j own s l=some s'->s.1<=own.length->s'.1<=own.length
 | [],s,s',h,hs=>by cases h;exact hs
 | e :: l, s, s', h, hs => by
   have h:(match ansE lo hi j own s e with | some s=>ansL lo hi j own s l | none=>none)=some s':=h
   cases h1:ansE lo hi j own s e with
   | none=>rw [h1] at h;cases h
   | some v =>
     rw [h1] at h
     refine Zu9 h ?_
     unfold ansE at h1
     split at h1
     . rw [<- Option.some.inj h1];exact hs
     . split at h1
       . split at h1
         . cases h1
         . rw [<- Option.some.inj h1];exact hs
       . split at h1
         . rename_i f
           rw [<- Option.some.inj h1]
           exact f.2.1
         . cases h1
theorem Zqz {c:Config} {l:List Mark} {h:List Event} (j:Int) (hc:Zkp c) (he:∀ e∈h,Zod e) (hl:l.length<=4294967296) (hh:h.length<=4294967296) :
   ZgH c l h j=some (decide (AnsP c.lo c.hi j (Zbm j l) h)):=by
 have hle:=List.length_filter_le (fun m:Mark=>m.t == j) l
 have hcol:Zdm (l,j)=some (Zbm j l):=Zu5 l j hl
 obtain ⟨own,ho⟩:∃ own,own=Zbm j l:=⟨_,rfl⟩
 have hol:own.length<=4294967296:=by rw [ho];unfold Zbm;omega
 have hf:=Zmt (c:=c) (j:=j) (own:=own) hc hol h 0 false Zdh he (Nat.zero_le _)
 rw [List.drop_zero] at hf
 have hW:Zih ((h,j),c,false,own,Event.mk (0:Int) (0:Int) (0:Int) (Op.mk (0:Int) (0:Int)) (0:Int) false (0:Int),false)=Zcq Zcl (evts h j) (c,false,own,Zdh,false) :=
   ZyK (it:=itEvents) (Zbu hh) rfl
 unfold ZgH
 rw [hcol,<- ho]
 simp only []
 rw [hW,hf]
 cases ha:ansL c.lo c.hi j own (0,false,Zdh) h with
 | none =>
   simp only []
   rw [decide_eq_false]
   rintro ⟨n,op,last,h1,_⟩
   rw [ha] at h1;cases h1
 | some s =>
   obtain ⟨n,op,last⟩:=s
   have hn:n<=own.length:=Zu9 ha (Nat.zero_le _)
   have key:AnsP c.lo c.hi j own h↔(own.length=n\/(own.length=n+1/\op=true/\(own.getD n ZaW).op=last.op/\(own.getD n ZaW).item=last.item/\last.step<(own.getD n ZaW).step)):=by
     constructor
     . rintro ⟨n',op',last',h1,h2⟩
       rw [ha] at h1
       cases h1
       exact h2
     . intro h2
       exact ⟨n,op,last,ha,h2⟩
   simp only []
   by_cases a:own.length=n
   . have e1:(((own.drop n).length:Int) == 0)=true:=by rw [List.length_drop,a,Nat.sub_self];rfl
     rw [e1,decide_eq_true (key.2 (.inl a))];rfl
   . have e1:(((own.drop n).length:Int) == 0)=false:=beq_eq_false_iff_ne.2 (by rw [List.length_drop];omega)
     rw [e1]
     simp only [cond_false]
     by_cases a2:own.length=n+1
     . have e3:decide (((own.drop n).length:Int)>1)=false:=decide_eq_false (by rw [List.length_drop];omega)
       have b4:decide ((0:Int)<((own.drop n).length:Int))=true:=decide_eq_true (by rw [List.length_drop];omega)
       have hd:(own.drop n).getD (Int.toNat (0:Int)) ZaW=own.getD n ZaW:=by
         rw [List.getD_eq_getElem?_getD,List.getD_eq_getElem?_getD,List.getElem?_drop]
         rfl
       rw [e3,b4,hd]
       simp only [cond_true,cond_false,Ze5,ZkN]
       cases op with
       | false =>
         have hdf:decide (AnsP c.lo c.hi j own h)=false:=decide_eq_false (by
           intro x
           rcases key.1 x with y | y
           . exact a y
           . exact absurd y.2.1 (by decide))
         rw [hdf]
         rfl
       | true =>
         simp only [Bool.not_true,cond_false]
         generalize own.getD n ZaW=m at key
         obtain ⟨m1,m2,⟨m3,m4⟩,m5,m6⟩:=m
         obtain ⟨l1,l2,l3,⟨l4,l5⟩,l6,l7,l8⟩:=last
         by_cases x:m3=l4/\m4=l5/\m2=l3
         . obtain ⟨rfl,rfl,rfl⟩:=x
           simp only [beq_self_eq_true,Bool.and_true,cond_true]
           congr 1
           rw [decide_eq_decide,key]
           constructor
           . intro y;exact .inr ⟨a2,rfl,rfl,rfl,y⟩
           . rintro (y | y)
             . exact (a y).elim
             . exact y.2.2.2.2
         . have:(m3 == l4 && (m4 == l5 && true) && (m2 == l3 && true))=false:=by
             rw [Bool.eq_false_iff]
             intro y
             simp only [Bool.and_eq_true,beq_iff_eq,Bool.and_true] at y
             exact x ⟨y.1.1,y.1.2,y.2⟩
           rw [this]
           simp only [cond_false]
           rw [decide_eq_false]
           intro y
           rcases key.1 y with z | z
           . exact a z
           . obtain ⟨_,_,z1,z2,_⟩:=z
             have z1:(⟨m3,m4⟩:Op)=⟨l4,l5⟩:=z1
             cases z1
             exact x ⟨rfl,rfl,z2⟩
     . have e3:decide (((own.drop n).length:Int)>1)=true:=decide_eq_true (by rw [List.length_drop];omega)
       rw [e3]
       simp only [cond_true]
       rw [decide_eq_false]
       intro x
       rcases key.1 x with y | y
       . exact a y
       . exact a2 y.1
structure LinP (w:Wld):Prop where
  srt:Srt w.log
  items:∀ i:Nat,(i:Int)<w.c.items->(replay w.c w.log i).2=true/\(replay w.c w.log i).1=w.m.words.getD (pl w.c i 0).toNat 0
  threads:∀ j:Nat,(j:Int)<w.c.threads->AnsP w.c.lo w.c.hi j (Zbm j w.log) w.hist
instance (w:Wld):Decidable (LinP w):=Classical.propDecidable _
structure WldOK (w:Wld):Prop where
  cfg:CfgOK w.c
  conf:Zkp w.c
  marks:∀ m∈w.log,ZxV m
  events:∀ e∈w.hist,Zod e
  log:w.log.length<=1000000
  hist:w.hist.length<=1000000
  words:(w.m.words.length:Int)=sizeOf w.c
theorem ZwM {w:Wld} (h:WldOK w):(Zf7 (w,w.c.items,0)=some (.inl w)/\∀ i:Nat,i<w.c.items.toNat->((replay w.c w.log i).2=true/\(replay w.c w.log i).1=w.m.words.getD (pl w.c i 0).toNat 0)) \/
   (Zf7 (w,w.c.items,0)=some (.inr false)/\¬∀ i:Nat,i<w.c.items.toNat->((replay w.c w.log i).2=true/\(replay w.c w.log i).1=w.m.words.getD (pl w.c i 0).toNat 0)):=by
 have hi:=h.cfg.items
 have hlog:=h.log
 refine Zns (step:=ZcU) (fun j=>(w,w.c.items,(j:Int))) w.c.items.toNat (fun i=>(replay w.c w.log i).2=true/\(replay w.c w.log i).1=w.m.words.getD (pl w.c i 0).toNat 0) (y:=w) (fun j hj=>?_) ?_
 . have b:decide ((j:Int)<w.c.items)=true:=decide_eq_true (by omega)
   have w1:Zad .i64 ((j:Int)+1)=((j+1:Nat):Int):=by rw [Zaq (by omega) (by omega)];omega
   have hcl:=Zl6 h.cfg (i:=(j:Int)) (by omega) (by omega)
   have hcell:ZcL (w.c,(j:Int))=some (pl w.c j 0):=by
     show Zge _ _=_
     rw [ZjY h.cfg]
     unfold cellAt
     rw [if_neg (by omega)]
     simp [pl]
   have hld:ZbU (w.m,pl w.c j 0)=some (w.m.words.getD (pl w.c j 0).toNat 0,0):=by
     have e:pl w.c j 0=(j:Int)*Zaw w.c:=by simp [pl]
     have:=h.words
     exact Zib (m:=w.m) (by omega) (show pl w.c (j:Int) 0<(w.m.words.length:Int) by omega)
   simp only [ZcU,Zf8,b,cond_true,w1,Zdl,Zq8 (l:=w.log) (j:Int) h.conf h.marks (by omega),hcell,hld,bne_self_eq_false,cond_false]
   cases h2:(replay w.c w.log j).2 with
   | false=>exact .inr ⟨fun x=>absurd x.1 (by decide),rfl⟩
   | true =>
     simp only [Bool.not_true,cond_false]
     by_cases h3:(replay w.c w.log j).1=w.m.words.getD (pl w.c j 0).toNat 0
     . rw [ZfT h3];exact .inl ⟨⟨by trivial,h3⟩,rfl⟩
     . rw [Zfk h3];exact .inr ⟨fun x=>h3 x.2,rfl⟩
 . have b:decide ((w.c.items.toNat:Int)<w.c.items)=false:=decide_eq_false (by omega)
   simp only [ZcU,Zf8,b,cond_false]
theorem Zuk {w:Wld} (h:WldOK w):(ZfR (w,w.c.threads,0)=some (.inl ())/\∀ i:Nat,i<w.c.threads.toNat->AnsP w.c.lo w.c.hi i (Zbm i w.log) w.hist) \/
   (ZfR (w,w.c.threads,0)=some (.inr false)/\¬∀ i:Nat,i<w.c.threads.toNat->AnsP w.c.lo w.c.hi i (Zbm i w.log) w.hist):=by
 have hi:=h.cfg.threads
 have hlog:=h.log
 have hhist:=h.hist
 refine Zns (step:=ZcF) (fun j=>(w,w.c.threads,(j:Int))) w.c.threads.toNat (fun i=>AnsP w.c.lo w.c.hi i (Zbm i w.log) w.hist) (y:=()) (fun j hj=>?_) ?_
 . have b:decide ((j:Int)<w.c.threads)=true:=decide_eq_true (by omega)
   have w1:Zad .i64 ((j:Int)+1)=((j+1:Nat):Int):=by rw [Zaq (by omega) (by omega)];omega
   simp only [ZcF,ZfP,b,cond_true,w1,Zdb,Zqz (c:=w.c) (l:=w.log) (h:=w.hist) (j:Int) h.conf h.events (by omega) (by omega)]
   by_cases g:AnsP w.c.lo w.c.hi j (Zbm j w.log) w.hist
   . rw [decide_eq_true g];exact .inl ⟨g,rfl⟩
   . rw [decide_eq_false g];exact .inr ⟨g,rfl⟩
 . have b:decide ((w.c.threads.toNat:Int)<w.c.threads)=false:=decide_eq_false (by omega)
   simp only [ZcF,ZfP,b,cond_false]
theorem Zrk {w:Wld} (h:WldOK w):Zfm w=some (decide (LinP w)):=by
 obtain ⟨e,he,hE⟩:=Zfn w.c
 have he0:=hE.2 h.cfg
 subst he0
 have e1:Zdi w.c=some 0:=(Zkw w.c).trans he
 have hlog:=h.log
 have hi:=h.cfg.items
 have hth:=h.cfg.threads
 unfold Zfm
 rw [e1]
 simp only [bne_self_eq_false,cond_false,ZcG]
 rcases Zq7 (l:=w.log) (by omega) with ⟨s1,s2⟩ | ⟨s1,s2⟩
 . rw [s1]
   simp only [Bool.not_true,cond_false]
   rcases ZwM h with ⟨i1,i2⟩ | ⟨i1,i2⟩
   . rw [i1]
     simp only []
     rcases Zuk h with ⟨t1,t2⟩ | ⟨t1,t2⟩
     . rw [t1]
       simp only []
       rw [decide_eq_true ⟨s2,fun i hi'=>i2 i (by omega),fun j hj=>t2 j (by omega)⟩]
     . rw [t1]
       simp only []
       rw [decide_eq_false (fun x=>t2 fun j hj=>x.threads j (by omega))]
   . rw [i1]
     simp only []
     rw [decide_eq_false (fun x=>i2 fun i hi'=>x.items i (by omega))]
 . rw [s1]
   simp only [Bool.not_false,cond_true]
   rw [decide_eq_false (fun x=>s2 x.srt)]
end Go.Proofs.Mill
/- The world behind any script is linear; who is pending; how many are. -/
namespace Go.Proofs.Mill
theorem Zkf {c:Config} {i:Int}:∀ {a:List Mark} {x y:Int},Zey c i x a=some y->(a.filter fun m=>m.item == i).foldl (Zoz c.lo c.hi) (x,true)=(y,true)
 | [],x,y,h=>by cases h;rfl
 | m :: a, x, y, h => by
   rw [Zmr] at h
   rw [List.filter_cons]
   by_cases e:m.item=i
   . rw [if_neg (fun k=>k e)] at h
     rw [if_pos (by simp [e])]
     by_cases g:m.prior=x/\Inb c (App m.op x c.lo c.hi).1
     . rw [if_pos g] at h
       show (a.filter fun m=>m.item == i).foldl (Zoz c.lo c.hi) ((App m.op x c.lo c.hi).1,true && x == m.prior)=_
       rw [g.1,beq_self_eq_true,Bool.and_self]
       exact Zkf h
     . rw [if_neg g] at h;cases h
   . rw [if_pos e] at h
     rw [if_neg (by simp [e])]
     exact Zkf h
section
variable {c:Config} {w:Wld} {n:Nat} {ro pa rt:Int->Int} {co:Int->Option Int}
theorem Lin.ok (Li:Lin c w ro co) (W:WInv c w n ro pa rt co) (hC:CfgOK c) (hc:Zkp c) (hn:n<=60000):WldOK w:=by
 have hl:=W.log
 have hh:=W.hist
 exact ⟨by rw [W.cE];exact hC,by rw [W.cE];exact hc,fun m hm=>(Li.inlog m hm).2.2.2,fun e he=>(Li.ehist e he).2.2.2.2,by omega,by omega,by rw [W.cE];exact W.lenW⟩
theorem Lin.answered (Li:Lin c w ro co) (W:WInv c w n ro pa rt co) {j:Int} (hj:InT c j):AnsP c.lo c.hi j (Zbm j w.log) w.hist:=by
 obtain ⟨k,op,last,a,b,d,f,g⟩:=(Li.ans j hj).ex
 refine ⟨k,op,last,a,?_⟩
 cases hco:co j with
 | none=>exact .inl (f hco)
 | some x =>
   obtain ⟨g1,g2,g3,g4,g5,g6⟩:=g x hco
   have hr:ro j≠0:=by
     intro h0
     have:=(W.inv.core.k0 j h0).1
     rw [hco] at this;cases this
   have ho:=b.2 hr
   obtain ⟨d1,d2,_⟩:=d ho
   exact .inr ⟨g1,ho,by rw [g2,d1],by rw [g3,d2],g5⟩
theorem ZBM {l:List Mark} (h:l.Pairwise (fun a b=>a.step<=b.step)):Srt l:=by
 intro i hi hlt
 have h1:i<l.length:=by omega
 have h2:i+1<l.length:=by omega
 have:=List.pairwise_iff_getElem.1 h i (i+1) h1 h2 (by omega)
 rw [List.getD_eq_getElem?_getD,List.getD_eq_getElem?_getD,List.getElem?_eq_getElem h1,List.getElem?_eq_getElem h2,Option.getD_some,Option.getD_some] at hlt
 omega
theorem Lin.linear (Li:Lin c w ro co) (W:WInv c w n ro pa rt co) (hC:CfgOK c):LinP w:=by
 have cE:=W.cE
 refine ⟨ZBM Li.srt,fun i hi=>?_,fun j hj=>?_⟩
 . rw [cE] at hi ⊢
   have h1:=Li.cells i (by omega) hi
   have h2:=Zkf h1
   have hb:=ZcJ hC
   have hr:(vw c w.m w.t).b i 0=w.m.words.getD (pl c i 0).toNat 0:=rd_B ⟨⟨by omega,hi⟩,Int.le_refl 0,by omega⟩
   unfold replay
   rw [h2]
   exact ⟨rfl,hr⟩
 . rw [cE] at hj ⊢
   exact Li.answered W ⟨by omega,hj⟩
end
def ZcX:Nat->(Nat->Nat)->Nat
 | 0,_=>0
 | n+1,g=>ZcX n g+g n
theorem ZnK:∀ (n:Nat) (f g:Nat->Nat),ZcX n (fun j=>f j+g j)=ZcX n f+ZcX n g
 | 0,_,_=>rfl
 | n + 1, f, g => by
   show ZcX n _+(f n+g n)=ZcX n f+f n+(ZcX n g+g n)
   rw [ZnK n f g];omega
theorem Zlg:∀ (n:Nat) {f g:Nat->Nat},(∀ j,j<n->f j=g j)->ZcX n f=ZcX n g
 | 0,_,_,_=>rfl
 | n + 1, f, g, h => by
   show ZcX n f+f n=ZcX n g+g n
   rw [Zlg n (fun j hj=>h j (by omega)),h n (by omega)]
theorem Ztz:∀ (n:Nat) {f g:Nat->Nat},(∀ j,j<n->f j<=g j)->ZcX n f<=ZcX n g
 | 0,_,_,_=>Nat.le_refl _
 | n + 1, f, g, h => by
   have:=Ztz n (f:=f) (g:=g) (fun j hj=>h j (by omega))
   have:=h n (by omega)
   show ZcX n f+f n<=ZcX n g+g n
   omega
theorem Zmx:∀ n,ZcX n (fun _=>0)=0
 | 0=>rfl
 | n+1=>by show ZcX n _+0=0;rw [Zmx n]
theorem ZrN {k:Nat}:∀ n,k<n->ZcX n (fun j=>if k=j then 1 else 0)=1
 | 0,h=>by omega
 | n + 1, h => by
   show ZcX n _+(if k=n then 1 else 0)=1
   by_cases e:k=n
   . rw [if_pos e,Zlg n (g:=fun _=>0) (fun j hj=>if_neg (by omega)),Zmx]
   . rw [if_neg e,ZrN n (by omega)]
theorem ZhP {α:Type} {f:α->Int} {T:Nat}:∀ l:List α,(∀ x∈l,0<=f x/\f x<(T:Int))->l.length=ZcX T (fun j=>(l.filter fun x=>f x == (j:Int)).length)
 | [],_=>(Zmx T).symm
 | a :: l, h => by
   have ih:=ZhP l (fun x hx=>h x (List.mem_cons_of_mem _ hx))
   have ha:=h a (List.mem_cons_self ..)
   have e:ZcX T (fun j=>((a::l).filter fun x=>f x == (j:Int)).length)=ZcX T (fun j=>(if (f a).toNat=j then 1 else 0)+(l.filter fun x=>f x == (j:Int)).length):=by
     refine Zlg T fun j hj=>?_
     rw [List.filter_cons]
     by_cases g:f a=(j:Int)
     . rw [if_pos (by simp [g]),if_pos (by omega),List.length_cons];omega
     . rw [if_neg (by simp [g]),if_neg (by omega)];omega
   rw [e,ZnK,ZrN T (by omega),<- ih,List.length_cons]
   omega
theorem Zp7 {l:List Thread}:∀ n,n<=l.length->Zhb (l.take n)=ZcX n (fun j=>if (l.getD j Zat).phase≠0 then 1 else 0)
 | 0,_=>by rw [List.take_zero];rfl
 | n + 1, h => by
   unfold Zhb
   rw [ZoJ (fun t:Thread=>t.phase != 0) l Zat n (by omega)]
   show _=ZcX n _+(if (l.getD n Zat).phase≠0 then 1 else 0)
   rw [<- Zp7 n (by omega)]
   unfold Zhb
   by_cases g:(l.getD n Zat).phase=0
   . rw [if_neg (show ¬((l.getD n Zat).phase != 0)=true by rw [ZfT g];decide),if_neg (fun x=>x g)];rfl
   . rw [if_pos (show ((l.getD n Zat).phase != 0)=true from Zfk g),if_pos g,List.length_append,List.length_singleton]
theorem Zqe {lo hi j:Int} {own:List Mark}:∀ {l:List Event} {s s':Nat×Bool×Event},ansL lo hi j own s l=some s'->(∀ e∈l,e.kind=1\/e.kind=2\/e.kind=3) ->
   s'.1=s.1+(((l.filter fun e=>e.kind == 2)).filter fun e=>e.t == j).length /\
   s'.1+(if s'.2.1=true then 1 else 0)=s.1+(if s.2.1=true then 1 else 0)+(((l.filter fun e=>e.kind == 1)).filter fun e=>e.t == j).length
 | [],s,s',h,_=>by cases h;exact ⟨rfl,rfl⟩
 | e :: l, s, s', h, hk => by
   have h:(match ansE lo hi j own s e with | some s=>ansL lo hi j own s l | none=>none)=some s':=h
   have hke:=hk e (List.mem_cons_self ..)
   cases h1:ansE lo hi j own s e with
   | none=>rw [h1] at h;cases h
   | some v =>
     rw [h1] at h
     obtain ⟨i1,i2⟩:=Zqe h (fun x hx=>hk x (List.mem_cons_of_mem _ hx))
     rw [i1]
     rw [i1] at i2
     have key:∀ k:Int,(((e::l).filter fun e=>e.kind == k).filter fun e=>e.t == j).length=(if e.kind=k/\e.t=j then 1 else 0)+((l.filter fun e=>e.kind == k).filter fun e=>e.t == j).length:=by
       intro k
       rw [List.filter_cons]
       by_cases g:e.kind=k
       . rw [if_pos (by simp [g]),List.filter_cons]
         by_cases g2:e.t=j
         . rw [if_pos (by simp [g2]),if_pos ⟨g,g2⟩,List.length_cons];omega
         . rw [if_neg (by simp [g2]),if_neg (fun x=>g2 x.2)];omega
       . rw [if_neg (by simp [g]),if_neg (fun x=>g x.1)];omega
     rw [key 1,key 2]
     unfold ansE at h1
     by_cases g:e.t≠j\/e.kind=3
     . rw [if_pos g] at h1
       obtain rfl:=Option.some.inj h1
       rw [if_neg (show ¬(e.kind=2/\e.t=j) from fun x=>g.elim (fun y=>y x.2) (fun y=>by omega)),if_neg (show ¬(e.kind=1/\e.t=j) from fun x=>g.elim (fun y=>y x.2) (fun y=>by omega))]
       omega
     . rw [if_neg g] at h1
       have ht:e.t=j:=Classical.not_not.1 (fun x=>g (.inl x))
       have h3:e.kind≠3:=fun x=>g (.inr x)
       by_cases k:e.kind=1
       . rw [if_pos k] at h1
         split at h1
         . cases h1
         . rename_i so
           obtain rfl:=Option.some.inj h1
           rw [if_neg (show ¬(e.kind=2/\e.t=j) by omega),if_pos (show e.kind=1/\e.t=j from ⟨k,ht⟩),if_neg so]
           rw [if_pos (show ((s.1,true,e):Nat×Bool×Event).2.1=true from rfl)] at i2
           have e0:((s.1,true,e):Nat×Bool×Event).1=s.1:=rfl
           rw [e0] at i2 ⊢
           omega
       . rw [if_neg k] at h1
         split at h1
         . rename_i f
           obtain rfl:=Option.some.inj h1
           rw [if_pos (show e.kind=2/\e.t=j from ⟨by omega,ht⟩),if_neg (show ¬(e.kind=1/\e.t=j) from fun x=>k x.1),if_pos f.1]
           rw [if_neg (show ¬((s.1+1,false,s.2.2):Nat×Bool×Event).2.1=true from fun x=>by cases x)] at i2
           have e0:((s.1+1,false,s.2.2):Nat×Bool×Event).1=s.1+1:=rfl
           rw [e0] at i2 ⊢
           omega
         . cases h1
section
variable {c:Config} {w:Wld} {n:Nat} {ro pa rt:Int->Int} {co:Int->Option Int}
theorem Lin.counts (Li:Lin c w ro co) (W:WInv c w n ro pa rt co) (hC:CfgOK c):count w.hist 1=count w.hist 2+(Zhb w.t:Int)/\w.log.length<=(w.hist.filter fun e=>e.kind == 1).length:=by
 have hT:=hC.threads
 have hlT:=W.lenT
 have hk:∀ e∈w.hist,e.kind=1\/e.kind=2\/e.kind=3:=fun e he=>(Li.ehist e he).2.1
 have hin:∀ (k:Int),∀ e∈(w.hist.filter fun e=>e.kind == k),0<=e.t/\e.t<((c.threads.toNat:Nat):Int):=by
   intro k e he
   have:=(Li.ehist e (List.mem_filter.1 he).1).1
   unfold InT at this
   omega
 have s1:=ZhP (f:=fun e:Event=>e.t) (T:=c.threads.toNat) (w.hist.filter fun e=>e.kind == 1) (hin 1)
 have s2:=ZhP (f:=fun e:Event=>e.t) (T:=c.threads.toNat) (w.hist.filter fun e=>e.kind == 2) (hin 2)
 have s3:=ZhP (f:=fun m:Mark=>m.t) (T:=c.threads.toNat) w.log (fun m hm=>by
   have:=(Li.inlog m hm).1
   unfold InT at this
   omega)
 have s4:=Zp7 (l:=w.t) w.t.length (Nat.le_refl _)
 rw [List.take_length] at s4
 have hTn:w.t.length=c.threads.toNat:=by omega
 rw [hTn] at s4
 have per:∀ j:Nat,j<c.threads.toNat->((w.hist.filter fun e=>e.kind == 1).filter fun x=>x.t == (j:Int)).length=((w.hist.filter fun e=>e.kind == 2).filter fun x=>x.t == (j:Int)).length+(if (w.t.getD j Zat).phase≠0 then 1 else 0)/\(Zbm j w.log).length<=((w.hist.filter fun e=>e.kind == 1).filter fun x=>x.t == (j:Int)).length:=by
   intro j hj
   have hjn:InT c (j:Int):=⟨by omega,by omega⟩
   obtain ⟨k,op,last,a,b,d,f,g⟩:=(Li.ans j hjn).ex
   obtain ⟨c1,c2⟩:=Zqe a hk
   have hph:(vw c w.m w.t).th j=w.t.getD j Zat:=by rw [ZfW hjn];rfl
   have hb:=W.inv.busy hjn
   rw [hph] at hb
   have c1:k=0+((w.hist.filter fun e=>e.kind == 2).filter fun x=>x.t == (j:Int)).length:=c1
   have c2:k+(if op=true then 1 else 0)=0+0+((w.hist.filter fun e=>e.kind == 1).filter fun x=>x.t == (j:Int)).length:=c2
   have hle:(Zbm j w.log).length<=k+(if op=true then 1 else 0):=by
     cases hco:co j with
     | none=>rw [f hco];omega
     | some x =>
       have hr:ro j≠0:=by
         intro h0
         have:=(W.inv.core.k0 j h0).1
         rw [hco] at this;cases this
       rw [(g x hco).1,if_pos (b.2 hr)]
       exact Nat.le_refl _
   refine ⟨?_,by omega⟩
   cases ho:op with
   | true =>
     have hr:=b.1 ho
     rw [ho,if_pos rfl] at c2
     rw [if_pos (fun x=>hr (hb.2 x))]
     omega
   | false =>
     have hr:¬ro j≠0:=fun x=>by have:=b.2 x;rw [ho] at this;cases this
     rw [ho,if_neg (by decide)] at c2
     rw [if_neg (fun x=>hr (fun y=>x (hb.1 y)))]
     omega
 constructor
 . have e:=Zlg c.threads.toNat (fun j hj=>(per j hj).1)
   rw [ZnK] at e
   unfold count
   rw [s1,s2,s4,e]
   omega
 . rw [s3,s1]
   exact Ztz _ fun j hj=>(per j hj).2
end
end Go.Proofs.Mill
/- The document's suffixes; how many whole rounds a script ends with. -/
namespace Go.Proofs.Mill
theorem Zyb {l:List SEntry} (h:l.length<=4000000000):Zlw l=some l:=by
 have key:ZmS (l,[],0)=some l:=by
   have:=ZeL (step:=Zg4) (fun i=>(l,l.take i,(i:Int))) l.length (y:=l) (fun i hi=>?_) ?_
   . rw [List.take_zero] at this;exact this
   . show ZfC l (l.take i) (i:Int)=some (.inl (l,l.take (i+1),((i+1:Nat):Int)))
     unfold ZfC
     rw [decide_eq_true (show (i:Int)<l.length by omega),decide_eq_true (show (0:Int)<=i by omega),Zbu (by simp;omega),Zaq (by omega) (by omega),Int.toNat_natCast,ZkU l ZaE i hi]
     rfl
   . show ZfC l (l.take l.length) (l.length:Int)=_
     unfold ZfC
     rw [decide_eq_false (by omega),List.take_length]
     rfl
 unfold Zlw
 rw [key]
structure IsLast (l:List SEntry) (k:Nat):Prop where
  le:k<=l.length
  at_:k=0\/(l.getD (k-1) ZaE).kind=1
  none:∀ j,k<=j->j<l.length->(l.getD j ZaE).kind≠1
end Go.Proofs.Mill
