/- The plain law of WorldLinear. -/
import Derived.Test.YtecgogmolkjhjaaGreatMillAll37
set_option linter.all false
namespace Go.Proofs.Mill
theorem ZvO {c:Config} {y:Int} (h:Inb c y) {α:Type} (a b:α):(bif c.bounded then if y<c.lo then a else if y>c.hi then a else b else b)=b:=by
 cases hb:c.bounded with
 | false=>rfl
 | true =>
   obtain ⟨h1,h2⟩:=h hb
   rw [cond_true,if_neg (by omega),if_neg (by omega)]
theorem Zmz {c:Config} {w:Wld} {i:Int} (hs:w.log.Pairwise (fun a b=>a.step<=b.step)) (hl:w.log.length<=4294967296):∀ (k j:Nat) (x y:Int),j+k=w.log.length->Zec c i x (w.log.drop j)=some y ->
   Zho (c,w,c,i,x,(j:Int))=some (.inl (c,w,c,i,y))
 | 0, j, x, y, hk, h => by
   rw [List.drop_of_length_le (by omega)] at h
   obtain rfl:=Option.some.inj h
   refine whileM_some.2 (.done _ _ ?_)
   show Zep _ _ _ _ _ _=_
   unfold Zep
   simp only [Zaw]
   rw [if_neg (by omega)]
 | k + 1, j, x, y, hk, h => by
   have hj:j<w.log.length:=by omega
   rw [ZrR ZaQ hj,Zmi] at h
   have step:∀ x',(if (w.log.getD j ZaQ).item≠i then some x else if (w.log.getD j ZaQ).prior=x/\Inb c (App (w.log.getD j ZaQ).op x c.lo c.hi).1 then some (App (w.log.getD j ZaQ).op x c.lo c.hi).1 else none)=some x' ->
       Zfv (c,w,c,i,x,(j:Int))=some (.inl (c,w,c,i,x',((j+1:Nat):Int))):=by
     intro x' hx
     show Zep _ _ _ _ _ _=_
     unfold Zep
     have hw:Zaf IntKind.i64 ((j:Int)+1)=((j+1:Nat):Int):=by rw [Zaz (by omega) (by omega)];omega
     simp only [Zaw,Int.toNat_natCast,hw,Zcu,Zfk]
     rw [if_pos (show (j:Int)<(w.log.length:Int) by omega),if_pos (show (0:Int)<=(j:Int) by omega),if_pos (show (j:Int)<(w.log.length:Int) by omega)]
     by_cases e:(w.log.getD j ZaQ).item≠i
     . rw [if_pos e] at hx
       rw [ZeY e,cond_true,Option.some.inj hx]
     . rw [if_neg e] at hx
       rw [Zc7 (Classical.not_not.1 e),cond_false]
       by_cases g:(w.log.getD j ZaQ).prior=x/\Inb c (App (w.log.getD j ZaQ).op x c.lo c.hi).1
       . rw [if_pos g] at hx
         rw [Zc7 g.1,cond_false]
         have hx:=Option.some.inj hx
         by_cases h0:(j:Int)>0
         . have hw2:Zaf IntKind.i64 ((j:Int)-1)=((j-1:Nat):Int):=by rw [Zaz (by omega) (by omega)];omega
           have hst:(w.log.getD (j-1) ZaQ).step<=(w.log.getD j ZaQ).step:=by
             have h1:j-1<w.log.length:=by omega
             have:=List.pairwise_iff_getElem.1 hs (j-1) j h1 hj (by omega)
             rw [List.getD_eq_getElem?_getD,List.getD_eq_getElem?_getD,List.getElem?_eq_getElem h1,List.getElem?_eq_getElem hj]
             exact this
           rw [if_pos h0,hw2,if_pos (by omega),if_pos (by omega),Int.toNat_natCast,if_neg (by omega),ZvO g.2,hx]
         . rw [if_neg h0,ZvO g.2,hx]
       . rw [if_neg g] at hx;cases hx
   by_cases e:(w.log.getD j ZaQ).item≠i
   . rw [if_pos e] at h
     have s:=step x (if_pos e)
     exact whileM_some.2 (.more _ _ _ s (whileM_some.1 (Zmz hs hl k (j+1) x y (by omega) h)))
   . rw [if_neg e] at h
     by_cases g:(w.log.getD j ZaQ).prior=x/\Inb c (App (w.log.getD j ZaQ).op x c.lo c.hi).1
     . rw [if_pos g] at h
       have s:=step (App (w.log.getD j ZaQ).op x c.lo c.hi).1 (by rw [if_neg e,if_pos g])
       exact whileM_some.2 (.more _ _ _ s (whileM_some.1 (Zmz hs hl k (j+1) _ y (by omega) h)))
     . rw [if_neg g] at h;cases h
theorem Zvj {c:Config} {w:Wld} {t:Int} (hl:w.log.length<=4294967296):∀ (k j:Nat) (acc:List Mark),j+k=w.log.length->acc.length<=j ->
   Zge (c,w,t,acc,(j:Int))=some (c,w,t,acc++Zby t (w.log.drop j))
 | 0, j, acc, hk, ha => by
   rw [List.drop_of_length_le (by omega)]
   refine whileM_some.2 (.done _ _ ?_)
   show ZdK _ _ _ _ _=_
   unfold ZdK
   simp only [Zaw]
   rw [if_neg (by omega)]
   show _=some (Sum.inr (c,w,t,acc++[]))
   rw [List.append_nil]
 | k + 1, j, acc, hk, ha => by
   have hj:j<w.log.length:=by omega
   rw [ZrR ZaQ hj]
   have hw:Zaf IntKind.i64 ((j:Int)+1)=((j+1:Nat):Int):=by rw [Zaz (by omega) (by omega)];omega
   have hs:ZeA (c,w,t,acc,(j:Int))=some (.inl (c,w,t,(if (w.log.getD j ZaQ).t=t then acc++[w.log.getD j ZaQ] else acc),((j+1:Nat):Int))):=by
     show ZdK _ _ _ _ _=_
     unfold ZdK
     simp only [Zaw,Int.toNat_natCast,hw]
     rw [if_pos (show (j:Int)<(w.log.length:Int) by omega),if_pos (show (0:Int)<=(j:Int) by omega),if_pos (show (j:Int)<(w.log.length:Int) by omega)]
     by_cases e:(w.log.getD j ZaQ).t=t
     . rw [Zbp e,cond_true,if_pos (show (0:Int)<=(j:Int) by omega),if_pos (show (j:Int)<(w.log.length:Int) by omega),Zcj (by simp;omega),cond_true,if_pos e]
     . rw [ZaW e,cond_false,if_neg e]
   have hacc:(if (w.log.getD j ZaQ).t=t then acc++[w.log.getD j ZaQ] else acc).length<=j+1:=by
     split
     . rw [List.length_append,List.length_singleton];omega
     . omega
   have ih:=Zvj (c:=c) (t:=t) hl k (j+1) (if (w.log.getD j ZaQ).t=t then acc++[w.log.getD j ZaQ] else acc) (by omega) hacc
   have hr:=whileM_some.2 (.more _ _ _ hs (whileM_some.1 ih))
   refine Eq.trans hr ?_
   congr 1
   unfold Zby
   rw [List.filter_cons]
   by_cases e:(w.log.getD j ZaQ).t=t
   . rw [if_pos e,if_pos (by simpa using e)];simp
   . rw [if_neg e,if_neg (by simpa using e)]
theorem ZnR {c:Config} {w:Wld} {t:Int} {own:List Mark} (hl:w.hist.length<=4294967296):∀ (k j n:Nat) (op:Bool) (last:Event) (s':Nat×Bool×Event),j+k=w.hist.length->n<=j->ansL c.lo c.hi t own (n,op,last) (w.hist.drop j)=some s' ->
   ZfG (c,w,t,own,(n:Int),op,last,(j:Int))=some (.inl (c,w,t,own,(s'.1:Int),s'.2.1,s'.2.2))
 | 0, j, n, op, last, s', hk, hn, h => by
   rw [List.drop_of_length_le (by omega)] at h
   obtain rfl:=Option.some.inj h
   refine whileM_some.2 (.done _ _ ?_)
   show Zdq _ _ _ _ _ _ _ _=_
   unfold Zdq
   simp only [Zaw]
   rw [if_neg (by omega)]
 | k + 1, j, n, op, last, s', hk, hn, h => by
   have hj:j<w.hist.length:=by omega
   rw [ZrR Za6 hj] at h
   have h:(match ansE c.lo c.hi t own (n,op,last) (w.hist.getD j Za6) with | some s=>ansL c.lo c.hi t own s (w.hist.drop (j+1)) | none=>none)=some s':=h
   cases h1:ansE c.lo c.hi t own (n,op,last) (w.hist.getD j Za6) with
   | none=>rw [h1] at h;cases h
   | some v =>
     rw [h1] at h
     have hw:Zaf IntKind.i64 ((j:Int)+1)=((j+1:Nat):Int):=by rw [Zaz (by omega) (by omega)];omega
     have hv:v.1<=j+1:=by
       unfold ansE at h1
       split at h1
       . rw [<- Option.some.inj h1];show n<=_;omega
       . split at h1
         . split at h1
           . cases h1
           . rw [<- Option.some.inj h1];show n<=_;omega
         . split at h1
           . rw [<- Option.some.inj h1];show n+1<=_;omega
           . cases h1
     have hs:Zer (c,w,t,own,(n:Int),op,last,(j:Int))=some (.inl (c,w,t,own,(v.1:Int),v.2.1,v.2.2,((j+1:Nat):Int))):=by
       show Zdq _ _ _ _ _ _ _ _=_
       unfold Zdq
       simp only [Zaw,Int.toNat_natCast,hw,Zcu,Zfk]
       rw [if_pos (show (j:Int)<(w.hist.length:Int) by omega),if_pos (show (0:Int)<=(j:Int) by omega),if_pos (show (j:Int)<(w.hist.length:Int) by omega)]
       unfold ansE at h1
       by_cases g:(w.hist.getD j Za6).t≠t\/(w.hist.getD j Za6).kind=3
       . rw [if_pos g] at h1
         obtain rfl:=Option.some.inj h1
         by_cases g1:(w.hist.getD j Za6).t=t
         . have g2:(w.hist.getD j Za6).kind=3:=g.elim (fun x=>(x g1).elim) id
           rw [Zc7 g1,cond_false,Zbp g2,cond_true]
         . rw [ZeY g1,cond_true]
       . rw [if_neg g] at h1
         have g1:(w.hist.getD j Za6).t=t:=Classical.not_not.1 (fun x=>g (.inl x))
         have g2:(w.hist.getD j Za6).kind≠3:=fun x=>g (.inr x)
         rw [Zc7 g1,cond_false,ZaW g2,cond_false]
         by_cases k1:(w.hist.getD j Za6).kind=1
         . rw [if_pos k1] at h1
           rw [Zbp k1]
           cases op with
           | true=>rw [if_pos rfl] at h1;cases h1
           | false =>
             rw [if_neg (fun x=>by cases x)] at h1
             obtain rfl:=Option.some.inj h1
             rfl
         . rw [if_neg k1] at h1
           rw [ZaW k1]
           cases op with
           | false=>rw [if_neg (fun x=>by cases x.1)] at h1;cases h1
           | true =>
             by_cases f:(true=true)/\Fits c.lo c.hi own n last (w.hist.getD j Za6)
             . rw [if_pos f] at h1
               obtain rfl:=Option.some.inj h1
               obtain ⟨f1,f2,f3,f4,f5,f6,f7,f8,f9⟩:=f.2
               have hw2:Zaf IntKind.i64 ((n:Int)+1)=((n+1:Nat):Int):=by rw [Zaz (by omega) (by omega)];omega
               simp only [show (false == true)=false from rfl,cond_false]
               rw [if_neg (show ¬(n:Int)>=(own.length:Int) by omega)]
               have a1:(0:Int)<=(n:Int):=by omega
               have a2:(n:Int)<(own.length:Int):=by omega
               simp only [a1,a2,if_true,Zuy f2,Zuy f6,Zc7 f3,Zc7 f4,Zc7 f7,f5,hw2,Bool.not_true,cond_false,beq_self_eq_true,Zfk]
               rw [if_neg (by omega),if_neg (by omega)]
             . rw [if_neg f] at h1;cases h1
     exact whileM_some.2 (.more _ _ _ hs (whileM_some.1 (ZnR hl k (j+1) v.1 v.2.1 v.2.2 s' (by omega) hv h)))
section
variable {c:Config} {w:Wld} {n:Nat} {ro pa rt:Int->Int} {co:Int->Option Int}
theorem ZBo (Li:Lin c w ro co) (W:WInv c w n ro pa rt co) (hC:CfgOK c) (hn:n<=1000):Zjo (c,w)=some true:=by
 have hf:=Li.few W hC
 have hh:=W.hist
 have hW:=W.lenW
 have hI:=hC.items
 have hlb:=Za7 hC
 show Zjm c w=_
 unfold Zjm
 simp only [ZeJ,ZxF hC,Zaw]
 rw [Zc7 hW,cond_false,if_neg (by omega)]
 have h0:Zlh (c,w,c,0)=some (.inl ()):=by
   refine Zf8 (step:=Zfq) (fun j=>(c,w,c,(j:Int))) c.items.toNat (y:=.inl ()) (fun j hj=>?_) ?_
   . show Zes _ _ _ _=_
     unfold Zes
     have hc:=Li.cells (j:Int) (by omega) (by omega)
     have hb:=ZcH hC
     have hr:(vw c w.m w.t).b (j:Int) 0=w.m.words.getD (pl c (j:Int) 0).toNat 0:=rd_B ⟨⟨by omega,by omega⟩,Int.le_refl 0,by omega⟩
     have hp:=ZeS hC (it:=(j:Int)) (by omega) (by omega) (Int.le_refl 0) (by omega)
     have hlp:=Zmz (c:=c) (i:=(j:Int)) Li.srt (by omega) w.log.length 0 c.init _ (by omega) (by rw [List.drop_zero];exact hc)
     have hsz:(w.m.words.length:Int)=Za0 c+2*c.threads:=hW
     have hT:=hC.threads
     rw [show Zho (c,w,c,(j:Int),c.init,0)=_ from hlp]
     simp only [ZwF hC (i:=(j:Int)) (by omega) (by omega),Zaw]
     rw [if_pos (by omega),if_pos (by omega),if_pos (by omega),Zc7 hr.symm,cond_false,Zaz (by omega) (by omega)]
     rfl
   . show Zes _ _ _ _=_
     unfold Zes
     simp only [Zaw]
     rw [if_neg (by omega)]
 rw [h0]
theorem Zyw (Li:Lin c w ro co) (W:WInv c w n ro pa rt co) (hC:CfgOK c) (hn:n<=1000):Zhg (c,w)=some true:=by
 have hf:=Li.few W hC
 have hh:=W.hist
 have hT:=hC.threads
 show ZhK c w=_
 unfold ZhK
 simp only [Zaw]
 rw [if_neg (by omega)]
 have h0:ZjQ (c,w,0)=some (.inl ()):=by
   refine Zf8 (step:=Zez) (fun j=>(c,w,(j:Int))) c.threads.toNat (y:=.inl ()) (fun j hj=>?_) ?_
   . show ZdJ _ _ _=_
     unfold ZdJ
     have hjn:InT c (j:Int):=⟨by omega,by omega⟩
     obtain ⟨k,op,last,a,b,d,f,g⟩:=(Li.ans j hjn).ex
     have e1:=Zvj (c:=c) (w:=w) (t:=(j:Int)) (by omega) w.log.length 0 [] (by omega) (by simp)
     rw [List.drop_zero,List.nil_append] at e1
     have e2:=ZnR (c:=c) (w:=w) (t:=(j:Int)) (own:=Zby (j:Int) w.log) (by omega) w.hist.length 0 0 false Za6 (k,op,last) (by omega) (by omega) (by rw [List.drop_zero];exact a)
     have hol:(Zby (j:Int) w.log).length<=w.log.length:=List.length_filter_le _ _
     rw [show Zge (c,w,(j:Int),([]:List Mark),0)=_ from e1]
     simp only []
     rw [show ZfG (c,w,(j:Int),Zby (j:Int) w.log,0,false,Event.mk (0:Int) (0:Int) (0:Int) (Op.mk (0:Int) (0:Int)) (0:Int) false (0:Int),0)=_ from e2]
     have hwj:Zaf IntKind.i64 ((j:Int)+1)=((j+1:Nat):Int):=by rw [Zaz (by omega) (by omega)];omega
     simp only [Zaw,hwj]
     rw [if_pos (show (j:Int)<c.threads by omega)]
     cases hco:co j with
     | none =>
       rw [Zc7 (show ((Zby (j:Int) w.log).length:Int)=(k:Int) by rw [f hco])]
       rfl
     | some x =>
       obtain ⟨g1,g2,g3,g4,g5,g6⟩:=g x hco
       have hr:ro j≠0:=by
         intro h0
         have:=(W.inv.core.k0 j h0).1
         rw [hco] at this;cases this
       have ho:=b.2 hr
       obtain ⟨d1,d2,_⟩:=d ho
       have hwk:Zaf IntKind.i64 ((k:Int)+1)=((k+1:Nat):Int):=by rw [Zaz (by omega) (by omega)];omega
       rw [ZeY (show ((Zby (j:Int) w.log).length:Int)≠(k:Int) by omega),cond_true,ho,Bool.not_true,cond_false,hwk,Zc7 (by omega),cond_false]
       have a1:(0:Int)<=(k:Int):=by omega
       have a2:(k:Int)<((Zby (j:Int) w.log).length:Int):=by omega
       simp only [a1,a2,if_true,Int.toNat_natCast,Zuy (g2.trans d1.symm),Zc7 (g3.trans d2.symm),Bool.not_true,cond_false]
       rw [if_neg (by omega)]
   . show ZdJ _ _ _=_
     unfold ZdJ
     simp only [Zaw]
     rw [if_neg (by omega)]
 rw [h0]
end
theorem Zpd (c:Config) (l:List SEntry) (d:List Int) (o0:(Zap celConfig).Ok c) (o1:(Zau .sentry).Ok l) (o2:(Zau .int).Ok d):Zfo c l d=some true:=by
 unfold Zfo
 simp only [ZDU,ZDx,Zaw]
 by_cases hb:400<l.length\/200<d.length
 . rw [if_pos hb]
 rw [if_neg hb]
 simp only [Bool.not_true,cond_false]
 have hc:=ZDp o0
 rcases ZD9 (c:=c) (l:=l) (d:=d) hc (Zwq o1) (by omega) (by omega) with ⟨r1,r2⟩ | ⟨w,_,r1,_,hC,_,_,_,ro,pa,rt,co,W,Li⟩
 . rw [r1]
   simp only []
   rw [ZeY r2]
   rfl
 . rw [r1]
   simp only [bne_self_eq_false,cond_false,ZBo Li W hC (by omega),Zyw Li W hC (by omega),cond_true]
end Go.Proofs.Mill
