/- The plain law of TopRefused: a script without what is refused does the same. -/
import Derived.Test.YtaopdopnecognaaGreatMillAll43
set_option linter.all false
noncomputable section
namespace Go.Proofs.Mill
theorem ZsO {l:List Thread} (h:l.length<=4294967296):Zcv l=some l:=by
 simp only [Zcv,ZeV,Nat.zero_add,Zbv h,cond_true]
theorem ZuB {l:List Mark} (h:l.length<=4294967296):ZcI l=some l:=by
 simp only [ZcI,Zfr,Nat.zero_add,Zbv h,cond_true]
theorem Ztu {l:List Event} (h:l.length<=4294967296):ZcH l=some l:=by
 simp only [ZcH,ZfD,Nat.zero_add,Zbv h,cond_true]
def Zi1 (w:Wld) (e:SEntry):Int:=if e.kind=1/\(w.t.getD e.t.toNat Zas).phase≠0 then 170 else 0
def ZbT (w:Wld) (e:SEntry):Wld×Int:=if Zbb w.c e≠0 then (w,Zbb w.c e) else (ZaT w e,Zi1 w e)
section
variable {c:Config} {w:Wld} {n:Nat} {ro pa rt:Int->Int} {co:Int->Option Int} {t:Int}
theorem Zxe (W:WInv c w n ro pa rt co) (hC:CfgOK c) (hlo:Num c.lo) (hhi:Num c.hi) (hn:n<=200000) (e:SEntry) (hop:Num e.op.v):ZjN (w,e)=some (ZbT w e):=by
 show ZjO w e=_
 unfold ZjO ZbT
 rw [show Zfe (w.c,e)=some (Zbb w.c e) from ZnX w.c e]
 simp only []
 by_cases k:Zbb w.c e=0
 case neg=>rw [Zha k,if_pos k];rfl
 rw [ZgB k,if_neg (fun x=>x k)]
 have hlT:=W.lenT
 have hT:=hC.threads
 have hlo1:=W.log
 have hh:=W.hist
 have hE:=(W.entry hC hlo hhi hn (e:=e) (by rw [<- W.cE];exact k) hop).1
 have k':Zbb c e=0:=by rw [<- W.cE];exact k
 rw [ZsO (by omega),ZuB (by omega),Ztu (by omega)]
 simp only [cond_false,Zaw]
 rcases ZiQ k' with ⟨k1,ht,hi,ho⟩ | ⟨k1,ht⟩ | k1
 . have h0:=ht.1
   have h1:=ht.2
   rw [Zbg k1,cond_true,if_pos h0,if_pos (by omega)]
   simp only [Zbt,ZdP]
   by_cases p:(w.t.getD e.t.toNat Zas).phase=0
   . have ec:Zi1 w e=0:=if_neg (fun x=>x.2 p)
     have es:ZaT w e={ w with t:=w.t.set e.t.toNat (Zfz w.c e.t e.item e.op w.now (w.t.getD e.t.toNat Zas).width),hist:=w.hist++[⟨1,e.t,e.item,e.op,0,false,w.steps⟩] }:=by
       unfold ZaT invT
       rw [if_pos k1,if_neg (fun x=>x p)]
     rw [ec,es,ZgB p,cond_false]
     have hb:Ze3 (w.c,e.t,w.t.getD e.t.toNat Zas,e.item,e.op,w.now)=some (Zfz w.c e.t e.item e.op w.now (w.t.getD e.t.toNat Zas).width):=ZnL (by rw [W.cE];exact hC) _ _ _ _ _
     rw [hb]
     simp only []
     rw [Zbv (by simp;omega),cond_true]
   . have ec:Zi1 w e=170:=if_pos ⟨k1,p⟩
     have es:ZaT w e={ w with hist:=w.hist++[⟨3,e.t,e.item,e.op,0,false,w.steps⟩] }:=by
       unfold ZaT invT
       rw [if_pos k1,if_pos p]
     rw [ec,es,Zha p,cond_true,Zbv (by simp;omega),cond_true]
 . have ec:Zi1 w e=0:=if_neg (fun x=>by omega)
   rw [ec,ZaR (show ¬e.kind=1 by omega),cond_false,Zbg k1,cond_true]
   unfold Zfa at hE
   rw [if_neg (by omega),if_pos k1] at hE
   rw [hE]
 . have ec:Zi1 w e=0:=if_neg (fun x=>by omega)
   have es:ZaT w e={ w with now:=Zad .i64 (w.now+1) }:=by
     unfold ZaT
     rw [if_neg (by omega),if_neg (by omega),if_pos k1]
   rw [ec,es,ZaR (show ¬e.kind=1 by omega),cond_false,ZaR (show ¬e.kind=2 by omega),cond_false,Zbg k1,cond_true]
end
def strip (w:Wld):Wld:={ w with hist:=w.hist.filter fun e=>e.kind != (3:Int) }
theorem ZwX {c:Config} {w:Wld} {e:SEntry} (k:Zbb c e=0):(Zi1 w e=0->ZaT (strip w) e=strip (ZaT w e))/\(Zi1 w e≠0->strip (ZaT w e)=strip w):=by
 unfold Zi1
 rcases ZiQ k with ⟨k1,_⟩ | ⟨k1,_⟩ | k1
 . by_cases p:(w.t.getD e.t.toNat Zas).phase=0
   . rw [if_neg (fun x=>x.2 p)]
     refine ⟨fun _=>?_,fun x=>(x rfl).elim⟩
     have p':((strip w).t.getD e.t.toNat Zas).phase=0:=p
     unfold ZaT invT
     rw [if_pos k1,if_pos k1,if_neg (fun x=>x p),if_neg (fun x=>x p')]
     unfold strip
     simp only [List.filter_append]
     rfl
   . rw [if_pos ⟨k1,p⟩]
     refine ⟨fun x=>absurd x (by decide),fun _=>?_⟩
     unfold ZaT invT
     rw [if_pos k1,if_pos p]
     unfold strip
     simp only [List.filter_append]
     simp
 . rw [if_neg (fun x=>by omega)]
   refine ⟨fun _=>?_,fun x=>(x rfl).elim⟩
   unfold ZaT
   rw [if_neg (show ¬e.kind=1 by omega),if_neg (show ¬e.kind=1 by omega),if_pos k1,if_pos k1]
   by_cases p:(w.t.getD e.t.toNat Zas).phase=0
   . have p':((strip w).t.getD e.t.toNat Zas).phase=0:=p
     rw [if_pos p,if_pos p']
   . have p':¬((strip w).t.getD e.t.toNat Zas).phase=0:=p
     rw [if_neg p,if_neg p']
     have hu:Zbl (strip w) e.t=Zbl w e.t:=rfl
     rw [hu]
     obtain ⟨u,hu⟩:∃ u,u=ZaM (Zbl w e.t):=⟨_,rfl⟩
     rw [<- hu]
     unfold Zc8 strip
     by_cases hd:u.done=true
     . simp only [hd,if_true,List.filter_append]
       rfl
     . simp only [hd,if_false]
       rfl
 . rw [if_neg (fun x=>by omega)]
   refine ⟨fun _=>?_,fun x=>(x rfl).elim⟩
   unfold ZaT
   rw [if_neg (show ¬e.kind=1 by omega),if_neg (show ¬e.kind=1 by omega),if_neg (show ¬e.kind=2 by omega),if_neg (show ¬e.kind=2 by omega),if_pos k1,if_pos k1]
   rfl
def filt:Wld->List SEntry->Wld×List SEntry
 | w,[]=>(w,[])
 | w,e::l=>((filt (ZbT w e).1 l).1,if (ZbT w e).2=0 then e::(filt (ZbT w e).1 l).2 else (filt (ZbT w e).1 l).2)
section
variable {c:Config}
theorem ZoU {w:Wld} {n:Nat} {ro pa rt:Int->Int} {co:Int->Option Int} (W:WInv c w n ro pa rt co) (hC:CfgOK c) (hlo:Num c.lo) (hhi:Num c.hi) (hn:n<=200000) (e:SEntry) (hop:Num e.op.v) :
   ∃ n' ro' pa' rt' co',n'<=n+1/\WInv c (ZbT w e).1 n' ro' pa' rt' co':=by
 unfold ZbT
 by_cases k:Zbb w.c e=0
 . rw [if_neg (fun x=>x k)]
   obtain ⟨_,ro',pa',rt',co',W'⟩:=W.entry hC hlo hhi hn (e:=e) (by rw [<- W.cE];exact k) hop
   exact ⟨_,ro',pa',rt',co',Nat.le_refl _,W'⟩
 . rw [if_pos k]
   exact ⟨_,ro,pa,rt,co,by omega,W⟩
theorem ZrI (hC:CfgOK c) (hlo:Num c.lo) (hhi:Num c.hi):∀ (l:List SEntry) (w:Wld) (n:Nat) (ro pa rt:Int->Int) (co:Int->Option Int),WInv c w n ro pa rt co->n+l.length<=200000->(∀ e∈l,Num e.op.v) ->
   (filt w l).2.foldl ZaT (strip w)=strip (filt w l).1/\(∀ e∈(filt w l).2,e∈l/\Zbb c e=0)/\(filt w l).2.length<=l.length/\∃ n' ro' pa' rt' co',n'<=n+l.length/\WInv c (filt w l).1 n' ro' pa' rt' co'
 | [],w,n,ro,pa,rt,co,W,_,_=>⟨rfl,(fun e h=>by cases h),Nat.le_refl _,n,ro,pa,rt,co,Nat.le_refl _,W⟩
 | e :: l, w, n, ro, pa, rt, co, W, hn, ho => by
   rw [List.length_cons] at hn
   obtain ⟨n',ro',pa',rt',co',hn',W'⟩:=ZoU W hC hlo hhi (by omega) e (ho e (List.mem_cons_self ..))
   obtain ⟨i1,i2,i3,n2,ro2,pa2,rt2,co2,hn2,W2⟩:=ZrI hC hlo hhi l _ n' ro' pa' rt' co' W' (by omega) (fun x hx=>ho x (List.mem_cons_of_mem _ hx))
   refine ⟨?_,?_,?_,n2,ro2,pa2,rt2,co2,by rw [List.length_cons];omega,W2⟩
   . show (if (ZbT w e).2=0 then e::(filt (ZbT w e).1 l).2 else (filt (ZbT w e).1 l).2).foldl ZaT (strip w)=strip (filt (ZbT w e).1 l).1
     by_cases k:Zbb w.c e=0
     . have k':Zbb c e=0:=by rw [<- W.cE];exact k
       have es:ZbT w e=(ZaT w e,Zi1 w e):=by unfold ZbT;rw [if_neg (fun x=>x k)]
       rw [es] at i1 ⊢
       obtain ⟨s1,s2⟩:=ZwX (w:=w) k'
       by_cases hc:Zi1 w e=0
       . rw [if_pos hc,List.foldl_cons,s1 hc];exact i1
       . rw [if_neg hc,<- s2 hc];exact i1
     . have es:ZbT w e=(w,Zbb w.c e):=by unfold ZbT;rw [if_pos k]
       rw [es] at i1 ⊢
       rw [if_neg k];exact i1
   . intro x hx
     have hx:x∈(if (ZbT w e).2=0 then e::(filt (ZbT w e).1 l).2 else (filt (ZbT w e).1 l).2):=hx
     by_cases k:(ZbT w e).2=0
     . rw [if_pos k] at hx
       rcases List.mem_cons.1 hx with rfl | hx
       . refine ⟨List.mem_cons_self ..,?_⟩
         unfold ZbT at k
         by_cases kk:Zbb w.c x=0
         . rw [<- W.cE];exact kk
         . rw [if_pos kk] at k;exact (kk k).elim
       . exact ⟨List.mem_cons_of_mem _ (i2 x hx).1,(i2 x hx).2⟩
     . rw [if_neg k] at hx
       exact ⟨List.mem_cons_of_mem _ (i2 x hx).1,(i2 x hx).2⟩
   . show (if (ZbT w e).2=0 then e::(filt (ZbT w e).1 l).2 else (filt (ZbT w e).1 l).2).length<=_
     rw [List.length_cons]
     split
     . rw [List.length_cons];omega
     . omega
theorem Zny (hC:CfgOK c) (hlo:Num c.lo) (hhi:Num c.hi) {l:List SEntry} {d:List Int} (hl:l.length<=1000) (ho:∀ e∈l,Num e.op.v):∀ (k i:Nat) (w:Wld) (s:List SEntry) (n:Nat) (ro pa rt:Int->Int) (co:Int->Option Int),i+k=l.length->s.length<=i->WInv c w n ro pa rt co->n<=i ->
   Zf7 (l,d,c,w,s,(i:Int))=some (d,c,(filt w (l.drop i)).1,s++(filt w (l.drop i)).2)
 | 0, i, w, s, n, ro, pa, rt, co, hk, hs, W, hn => by
   rw [List.drop_of_length_le (by omega)]
   refine whileM_some.2 (.done _ _ ?_)
   show ZdD _ _ _ _ _ _=_
   unfold ZdD
   simp only [Zaw]
   rw [if_neg (by omega)]
   show _=some (Sum.inr (d,c,w,s++[]))
   rw [List.append_nil]
 | k + 1, i, w, s, n, ro, pa, rt, co, hk, hs, W, hn => by
   have hi:i<l.length:=by omega
   rw [ZBq ZaG hi]
   have hmem:l.getD i ZaG∈l:=by
     rw [List.getD_eq_getElem?_getD,List.getElem?_eq_getElem hi]
     exact List.getElem_mem hi
   obtain ⟨n',ro',pa',rt',co',hn',W'⟩:=ZoU W hC hlo hhi (by omega) (l.getD i ZaG) (ho _ hmem)
   have hst:=Zxe W hC hlo hhi (by omega) (l.getD i ZaG) (ho _ hmem)
   obtain ⟨e,he⟩:∃ e,e=l.getD i ZaG:=⟨_,rfl⟩
   rw [<- he] at W' hst ⊢
   obtain ⟨r,hr⟩:∃ r,r=ZbT w e:=⟨_,rfl⟩
   have hf:filt w (e::l.drop (i+1))=((filt r.1 (l.drop (i+1))).1,if r.2=0 then e::(filt r.1 (l.drop (i+1))).2 else (filt r.1 (l.drop (i+1))).2):=by rw [hr];rfl
   rw [hf]
   rw [<- hr] at W' hst
   have hs2:Zdt (l,d,c,w,s,(i:Int))=some (.inl (l,d,c,r.1,if r.2=0 then s++[e] else s,((i+1:Nat):Int))):=by
     show ZdD _ _ _ _ _ _=_
     unfold ZdD
     simp only [Zaw,Int.toNat_natCast]
     rw [if_pos (show (i:Int)<(l.length:Int) by omega),if_pos (show (0:Int)<=(i:Int) by omega),if_pos (show (i:Int)<(l.length:Int) by omega),<- he,hst]
     by_cases h0:r.2=0
     . simp only []
       rw [Zbg h0,cond_true,if_pos (show (0:Int)<=(i:Int) by omega),if_pos (show (i:Int)<(l.length:Int) by omega),Zbv (by simp;omega),cond_true,Zat (by omega) (by omega),if_pos h0]
       rfl
     . simp only []
       rw [ZaR h0,cond_false,Zat (by omega) (by omega),if_neg h0]
       rfl
   refine whileM_some.2 (.more _ _ _ hs2 (whileM_some.1 ?_))
   have ih:=Zny hC hlo hhi (d:=d) hl ho k (i+1) r.1 (if r.2=0 then s++[e] else s) n' ro' pa' rt' co' (by omega) (by
     split
     . rw [List.length_append,List.length_singleton];omega
     . omega) W' (by omega)
   have ih:ZaC Zdt _=_:=ih
   rw [ih]
   by_cases h0:r.2=0
   . rw [if_pos h0,if_pos h0,List.append_assoc];rfl
   . rw [if_neg h0,if_neg h0]
end
theorem Zzy (w:Wld) (h:w.log.length<=4294967296):Zin (w,strip w,0)=some (.inl (w,strip w)):=by
 have h0:=Zd4 (step:=ZeA) (fun i=>(w,strip w,((i:Nat):Int))) w.log.length (y:=.inl (w,strip w)) (fun i hi=>?_) ?_
 . exact h0
 . show Zdg _ _ _=_
   unfold Zdg
   have e:(strip w).log=w.log:=rfl
   rw [e]
   simp only [Zaw,Int.toNat_natCast,beq_self_eq_true,Bool.and_true,Bool.not_true,cond_false]
   rw [if_pos (show (i:Int)<(w.log.length:Int) by omega),if_pos (show (0:Int)<=(i:Int) by omega),if_pos (show (i:Int)<(w.log.length:Int) by omega),if_pos (show (0:Int)<=(i:Int) by omega),if_pos (show (i:Int)<(w.log.length:Int) by omega),Zat (by omega) (by omega)]
   rfl
 . show Zdg _ _ _=_
   unfold Zdg
   simp only [Zaw]
   rw [if_neg (by omega)]
theorem Zwp (w:Wld) (h:w.m.words.length<=4294967296):Zim (w,strip w,0)=some (.inl (w,strip w)):=by
 have h0:=Zd4 (step:=Zex) (fun i=>(w,strip w,((i:Nat):Int))) w.m.words.length (y:=.inl (w,strip w)) (fun i hi=>?_) ?_
 . exact h0
 . show Zde _ _ _=_
   unfold Zde
   have e:(strip w).m=w.m:=rfl
   rw [e]
   simp only [Zaw,Int.toNat_natCast,bne_self_eq_false,cond_false]
   rw [if_pos (show (i:Int)<(w.m.words.length:Int) by omega),if_pos (show (0:Int)<=(i:Int) by omega),if_pos (show (i:Int)<(w.m.words.length:Int) by omega),if_pos (show (0:Int)<=(i:Int) by omega),if_pos (show (i:Int)<(w.m.words.length:Int) by omega),Zat (by omega) (by omega)]
   rfl
 . show Zde _ _ _=_
   unfold Zde
   simp only [Zaw]
   rw [if_neg (by omega)]
theorem Zlu (l:List Event) (k:Int):count (l.filter fun e=>e.kind != (3:Int)) k=if k=3 then 0 else count l k:=by
 unfold count
 rw [List.filter_filter]
 by_cases h:k=3
 . rw [if_pos h]
   rw [List.filter_eq_nil_iff.2 (fun e _=>by rw [h];by_cases g:e.kind=3 <;> simp [g])]
   rfl
 . rw [if_neg h]
   congr 2
   apply List.filter_congr
   intro e _
   by_cases g:e.kind=k
   . rw [g,show (k != (3:Int))=true from by simpa using h,Bool.and_true]
   . rw [show (e.kind == k)=false from by simpa using g,Bool.false_and]
theorem Zu8 {f:Unit->Option Bool} (hf:f ()=some true) (c:Config) (l:List SEntry) (d:List Int) (o0:(Zaq celConfig).Ok c) (o1:(Zan .sentry).Ok l) (o2:(Zan .int).Ok d):Zfi f c l d=some true:=by
 obtain ⟨b,hb,hB⟩:=Zxu (c:=c)
 unfold Zfi
 simp only [hb,hf]
 cases b with
 | false=>rfl
 | true =>
 obtain ⟨hC,_⟩:=hB rfl
 simp only [Bool.not_true,cond_false,Zaw]
 by_cases h1:(l.length:Int)>200
 . rw [if_pos h1]
 rw [if_neg h1]
 by_cases h4:(d.length:Int)>100
 . rw [if_pos h4]
 rw [if_neg h4]
 have hc:=ZBh o0
 have hnum:=Zvj o1
 have hN:ZgP (c,d)=some (newW c d,0):=Zsg hC (show d.length<=4294967296 by omega)
 have W0:=ZpJ hC hc.1 (d:=d) (by omega)
 have hloop:=Zny hC hc.2.1 hc.2.2 (d:=d) (by omega) hnum l.length 0 (newW c d) [] 0 _ _ _ _ (by omega) (Nat.le_refl _) W0 (Nat.le_refl _)
 rw [List.drop_zero,List.nil_append] at hloop
 have hloop:Zf7 (l,d,c,newW c d,[],0)=some (d,c,(filt (newW c d) l).1,(filt (newW c d) l).2):=hloop
 obtain ⟨i1,i2,i3,n',ro',pa',rt',co',hn',W'⟩:=ZrI hC hc.2.1 hc.2.2 l (newW c d) 0 _ _ _ _ W0 (by omega) hnum
 have hnew:strip (newW c d)=newW c d:=rfl
 rw [hnew] at i1
 obtain ⟨w,hw⟩:∃ w,w=(filt (newW c d) l).1:=⟨_,rfl⟩
 obtain ⟨s,hs⟩:∃ s,s=(filt (newW c d) l).2:=⟨_,rfl⟩
 rw [<- hw,<- hs] at hloop i1
 rw [<- hw] at W'
 rw [<- hs] at i2 i3
 have hrun:ZcW (c,s,d)=some (strip w,0,0):=by
   rcases Zz4 (c:=c) (l:=s) (d:=d) hc (fun e he=>hnum e (i2 e he).1) (by omega) with ⟨r1,r2⟩ | ⟨r1,_⟩
   . exact (r2 (by rw [Zrv hC (by omega) (fun e he=>(i2 e he).2)])).elim
   . rw [i1] at r1;exact r1
 have hW:(w.m.words.length:Int)=sizeOf c:=W'.lenW
 have hsz:=Zi4 hC
 have hlog:=W'.log
 have hh:=W'.hist
 have hcs:ZcQ w.hist=some (count w.hist 1,count w.hist 2,count w.hist 3):=ZlR (by omega)
 have hcs2:ZcQ (strip w).hist=some (count w.hist 1,count w.hist 2,0):=by
   have hle:(strip w).hist.length<=w.hist.length:=List.length_filter_le _ _
   have:ZcQ (strip w).hist=some (count (strip w).hist 1,count (strip w).hist 2,count (strip w).hist 3):=ZlR (by omega)
   rw [this]
   show some (count (w.hist.filter _) 1,count (w.hist.filter _) 2,count (w.hist.filter _) 3)=_
   rw [Zlu,Zlu,Zlu]
   rfl
 simp only [hN,bne_self_eq_false,cond_false,hloop,hrun]
 rw [show (strip w).log=w.log from rfl,show (strip w).steps=w.steps from rfl,show (strip w).now=w.now from rfl,show (strip w).m=w.m from rfl]
 simp only [bne_self_eq_false,cond_false,Zzy w (by omega),Zwp w (by omega),hcs,hcs2,beq_self_eq_true,cond_true]
theorem ZqW (c:Config) (l:List SEntry) (d:List Int) (o0:(Zaq celConfig).Ok c) (o1:(Zan .sentry).Ok l) (o2:(Zan .int).Ok d):Zfj c l d=some true:=by
 unfold Zfj
 exact Zu8 Zx2 c l d o0 o1 o2
end Go.Proofs.Mill
