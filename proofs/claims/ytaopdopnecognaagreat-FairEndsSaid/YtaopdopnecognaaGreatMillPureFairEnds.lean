/- The plain law of FairEnds: behind rounds enough all that was invoked has responded. -/
import Derived.Test.YtaopdopnecognaaGreatMillAll39
import Derived.Test.YtaopdopnecognaaGreatMillAll40
import Derived.Test.YtaopdopnecognaaGreatMillAll40
set_option linter.all false
namespace Go.Proofs.Mill
theorem ZuK (c:Config) (e:SEntry):Zjq (c,e)=some (Zbl c e):=by
 show ZjE c e=_
 unfold ZjE Zbl
 simp only [Zav,ZiQ,Zt3]
 by_cases h1:e.kind<1
 . rw [if_pos h1,if_pos (.inl h1)]
 rw [if_neg h1]
 by_cases h2:e.kind>3
 . rw [if_pos h2,if_pos (.inr h2)]
 rw [if_neg h2,if_neg (show ¬(e.kind<1\/e.kind>3) by omega)]
 by_cases h3:e.kind=3
 . rw [Zbb h3,if_pos h3];rfl
 rw [ZaP h3,if_neg h3,cond_false]
 by_cases h4:e.t<0
 . rw [if_pos h4,if_pos (.inl h4)]
 rw [if_neg h4]
 by_cases h5:e.t>=c.threads
 . rw [if_pos h5,if_pos (.inr h5)]
 rw [if_neg h5,if_neg (show ¬(e.t<0\/e.t>=c.threads) by omega)]
 by_cases h6:e.kind=2
 . rw [Zbb h6,if_pos h6];rfl
 rw [ZaP h6,if_neg h6,cond_false]
 by_cases h7:e.item<0
 . rw [if_pos h7,if_pos (.inl h7)]
 rw [if_neg h7]
 by_cases h8:e.item>=c.items
 . rw [if_pos h8,if_pos (.inr h8)]
 rw [if_neg h8,if_neg (show ¬(e.item<0\/e.item>=c.items) by omega)]
 cases Zfj e.op c.bounded <;> rfl
theorem ZAx {α:Type} {l:List α} (d:α) {i:Nat} (h:i<l.length):l.drop i=l.getD i d::l.drop (i+1):=by
 rw [List.drop_eq_getElem_cons h,List.getD_eq_getElem?_getD,List.getElem?_eq_getElem h];rfl
theorem ZqH {c:Config} {l:List SEntry} (hl:l.length<=4294967296):∀ (k i:Nat),i+k=l.length->ZjH (l,c,(i:Int))=some (match ZeU c i (l.drop i) with | none=>.inl () | some y=>.inr y)
 | 0, i, hk => by
   rw [List.drop_of_length_le (by omega)]
   refine whileM_some.2 (.done _ _ ?_)
   show ZfE _ _ _=_
   unfold ZfE
   simp only [Zav]
   rw [if_neg (by omega)]
   rfl
 | k + 1, i, hk => by
   have hi:i<l.length:=by omega
   rw [ZAx ZaE hi]
   have e1:ZeU c i (l.getD i ZaE::l.drop (i+1))=if Zbl c (l.getD i ZaE)=0 then ZeU c (i+1) (l.drop (i+1)) else some ((i:Int),Zbl c (l.getD i ZaE)):=rfl
   have hs:Zg6 (l,c,(i:Int))=if Zbl c (l.getD i ZaE)=0 then some (.inl (l,c,((i+1:Nat):Int))) else some (.inr (.inr ((i:Int),Zbl c (l.getD i ZaE)))):=by
     show ZfE _ _ _=_
     unfold ZfE
     simp only [Zav,ZuK,Int.toNat_natCast]
     rw [if_pos (show (i:Int)<(l.length:Int) by omega),if_pos (show (0:Int)<=(i:Int) by omega),if_pos (show (i:Int)<(l.length:Int) by omega)]
     by_cases h0:Zbl c (l.getD i ZaE)=0
     . rw [if_pos h0,ZfT h0,Zaq (by omega) (by omega)];rfl
     . rw [if_neg h0,Zfk h0];rfl
   rw [e1]
   by_cases h0:Zbl c (l.getD i ZaE)=0
   . rw [if_pos h0] at hs ⊢
     exact whileM_some.2 (.more _ _ _ hs (whileM_some.1 (ZqH hl k (i+1) (by omega))))
   . rw [if_neg h0] at hs ⊢
     exact whileM_some.2 (.done _ _ hs)
theorem Zxu (c:Config) (l:List SEntry):Zlt (c,l)=some (allE c l):=by
 obtain ⟨e,he,hE⟩:=Zfn c
 show Zlo c l=_
 unfold Zlo allE
 simp only [Zft,he,Option.getD_some,Zav]
 by_cases h0:e=0
 . rw [ZfT h0,cond_false,if_neg (show ¬e≠0 from fun h=>h h0)]
   by_cases h1:l.length>65536
   . rw [if_pos h1,if_pos (show (l.length:Int)>65536 by omega)]
   . rw [if_neg h1,if_neg (show ¬(l.length:Int)>65536 by omega)]
     have:=ZqH (c:=c) (l:=l) (by omega) l.length 0 (by omega)
     rw [List.drop_zero] at this
     rw [show ZjH (l,c,0)=_ from this]
     cases ZeU c 0 l <;> rfl
 . rw [Zfk h0,cond_true,if_pos h0]
theorem ZrI:∀ {l:List Event},(∀ e∈l,e.kind=1\/e.kind=2\/e.kind=3)->count l 1+count l 2+count l 3=(l.length:Int)
 | [],_=>rfl
 | e :: l, h => by
   have ih:=ZrI (l:=l) (fun x hx=>h x (List.mem_cons_of_mem _ hx))
   have key:∀ k:Int,count (e::l) k=(if e.kind=k then 1 else 0)+count l k:=by
     intro k
     unfold count
     rw [List.filter_cons]
     by_cases g:e.kind=k
     . rw [if_pos (by simp [g]),if_pos g,List.length_cons];omega
     . rw [if_neg (by simp [g]),if_neg g];omega
   rw [key 1,key 2,key 3,List.length_cons]
   rcases h e (List.mem_cons_self ..) with g | g | g
   . rw [if_pos g,if_neg (by omega),if_neg (by omega)];omega
   . rw [if_neg (by omega),if_pos g,if_neg (by omega)];omega
   . rw [if_neg (by omega),if_neg (by omega),if_pos g];omega
theorem Zhu (a b:List Event) (k:Int):count (a++b) k=count a k+count b k:=by
 unfold count
 rw [List.filter_append,List.length_append]
 omega
theorem Zhx (e:Event) (k:Int):count [e] k=if e.kind=k then 1 else 0:=by
 unfold count
 rw [List.filter_cons]
 by_cases g:e.kind=k
 . rw [if_pos (by simp [g]),if_pos g];rfl
 . rw [if_neg (by simp [g]),if_neg g];rfl
theorem ZxH (w:Wld) (e:SEntry):count (Za0 w e).hist 1+count (Za0 w e).hist 3<=count w.hist 1+count w.hist 3+(if e.kind=1 then 1 else 0):=by
 unfold Za0
 by_cases k1:e.kind=1
 . rw [if_pos k1,if_pos k1]
   unfold invT
   split
   . show count (w.hist++[_]) 1+count (w.hist++[_]) 3<=_
     rw [Zhu,Zhu,Zhx,Zhx,if_neg (show ¬(3:Int)=1 by decide),if_pos (show (3:Int)=3 from rfl)]
     omega
   . show count (w.hist++[_]) 1+count (w.hist++[_]) 3<=_
     rw [Zhu,Zhu,Zhx,Zhx,if_pos (show (1:Int)=1 from rfl),if_neg (show ¬(1:Int)=3 by decide)]
     omega
 rw [if_neg k1,if_neg k1]
 by_cases k2:e.kind=2
 . rw [if_pos k2]
   by_cases hp:(w.t.getD e.t.toNat Zat).phase=0
   . rw [if_pos hp];omega
   . rw [if_neg hp]
     show count (if (ZaJ (Zbh w e.t)).done=true then w.hist++[Zg1 w e.t (ZaJ (Zbh w e.t))] else w.hist) 1+count (if (ZaJ (Zbh w e.t)).done=true then w.hist++[Zg1 w e.t (ZaJ (Zbh w e.t))] else w.hist) 3<=_
     by_cases hd:(ZaJ (Zbh w e.t)).done=true
     . have hk:(Zg1 w e.t (ZaJ (Zbh w e.t))).kind=2:=rfl
       rw [if_pos hd,Zhu,Zhu,Zhx,Zhx,if_neg (by omega),if_neg (by omega)]
       omega
     . rw [if_neg hd];omega
 . rw [if_neg k2]
   split
   . show count w.hist 1+count w.hist 3<=_
     omega
   . omega
theorem Zs8:∀ (l:List SEntry) (w:Wld),count (l.foldl Za0 w).hist 1+count (l.foldl Za0 w).hist 3<=count w.hist 1+count w.hist 3+((l.filter fun e=>e.kind == 1).length:Int)
 | [],w=>by simp
 | e :: l, w => by
   have ih:=Zs8 l (Za0 w e)
   have h1:=ZxH w e
   rw [List.foldl_cons,List.filter_cons]
   by_cases k:e.kind=1
   . rw [if_pos k] at h1
     rw [if_pos (by simp [k]),List.length_cons]
     omega
   . rw [if_neg k] at h1
     rw [if_neg (by simp [k])]
     omega
theorem ZsA {c:Config} (hC:CfgOK c) (h6:c.threads<=6) (h3:c.depth<=3) (h2:c.layers<=2) (h5:c.spin<=5):3*((c.threads*Zk4 c).toNat+1)<=(ZcE c).toNat/\(ZcE c).toNat<=2516:=by
 have hT:=hC.threads
 have hd:=hC.depth
 have hl:=hC.layers
 have hs:=hC.spin
 unfold ZcE Zee Zk4
 have a1:c.layers=0\/c.layers=1\/c.layers=2:=by omega
 have a2:c.threads=1\/c.threads=2\/c.threads=3\/c.threads=4\/c.threads=5\/c.threads=6:=by omega
 rcases a1 with e | e | e <;> rw [e] <;> rcases a2 with f | f | f | f | f | f <;> rw [f] <;> omega
theorem Zsp (c:Config) (l:List SEntry) (d:List Int) (o0:(Zar celConfig).Ok c) (o1:(Zao .sentry).Ok l) (o2:(Zao .int).Ok d):Zht c l d=some true:=by
 obtain ⟨b,hb,hB⟩:=ZBE (c:=c)
 have hsh:ZaK ()=some true:=ZuN
 unfold Zht
 simp only [ZeN,hb,hsh]
 cases b with
 | false=>rfl
 | true =>
 have hC:=hB.1 rfl
 simp only [Bool.not_true,cond_false,Zav]
 by_cases h1:(l.length:Int)>300
 . rw [if_pos h1]
 rw [if_neg h1]
 by_cases h2:(d.length:Int)>200
 . rw [if_pos h2]
 rw [if_neg h2]
 by_cases h3:c.threads>6
 . rw [if_pos h3]
 rw [if_neg h3]
 by_cases h4:c.depth>3
 . rw [if_pos h4]
 rw [if_neg h4]
 by_cases h5:c.layers>2
 . rw [if_pos h5]
 rw [if_neg h5]
 by_cases h6:c.spin>5
 . rw [if_pos h6]
 rw [if_neg h6]
 simp only [ZeT,Zyb (show l.length<=4000000000 by omega),Zxu]
 by_cases hA:(allE c l).2≠0
 . rw [Zfk hA];rfl
 have hA:=Classical.not_not.1 hA
 rw [ZfT hA,cond_false]
 obtain ⟨_,hlen,hchk⟩:=Zr8 hA
 have hc:=ZA7 o0
 have hT:=hC.threads
 obtain ⟨q1,q2⟩:=ZsA hC (by omega) (by omega) (by omega) (by omega)
 have hrb:=ZmT hC
 have hT6:c.threads.toNat<=6:=by omega
 have hm:(ZcE c).toNat*c.threads.toNat<=2516*6:=Nat.mul_le_mul q2 hT6
 have e4:Zdc (c,ZcE c)=some (ZaN c.threads.toNat ((ZcE c).toNat*c.threads.toNat)):=by
   show Zg8 c (ZcE c)=_
   rw [ZuA hC _ (by omega),Nat.min_eq_left (by omega)]
 rw [Zbu (by omega),cond_true]
 simp only [ZdU,Zu0 hC,e4]
 obtain ⟨ps,hps⟩:∃ ps,ps=ZaN c.threads.toNat ((ZcE c).toNat*c.threads.toNat):=⟨_,rfl⟩
 have hpl:ps.length=(ZcE c).toNat*c.threads.toNat:=by rw [hps];exact ZdA
 have hpe:∀ e∈ps,e.kind=2/\InT c e.t/\Zbl c e=0/\Num e.op.v:=by rw [hps];exact Zem hC
 rw [<- hps]
 have hn:l.length+ps.length<=20000:=by omega
 rw [Zbu (show l.length+List.length ps<=4294967296 by omega),cond_true]
 have hall:∀ e∈l++ps,Zbl c e=0/\Num e.op.v:=by
   intro e he
   rcases List.mem_append.1 he with h | h
   . exact ⟨hchk e h,ZoP o1 e h⟩
   . exact ⟨(hpe e h).2.2.1,(hpe e h).2.2.2⟩
 rcases ZA9 (c:=c) (l:=l++ps) (d:=d) hc (fun e he=>(hall e he).2) (by omega) with ⟨r1,r2⟩ | ⟨r1,r2,_,r3,r4,ro,pa,rt,co,W,Li⟩
 . exact (r2 (by rw [ZqX hC (by rw [List.length_append];omega) (fun e he=>(hall e he).1)])).elim
 have hidle:∀ j,InT c j->((vw c ((l++ps).foldl Za0 (newW c d)).m ((l++ps).foldl Za0 (newW c d)).t).th j).phase=0:=by
   have G0:=ZBj hC hc.1 (d:=d) (by omega)
   have G1:=Gd.entries hC hc.2.1 hc.2.2 G0 (l:=l) (by omega) (fun e he=>⟨hchk e he,ZoP o1 e he⟩)
   rw [List.foldl_append]
   obtain ⟨w1,hw1⟩:∃ w1,w1=l.foldl Za0 (newW c d):=⟨_,rfl⟩
   rw [<- hw1] at G1 ⊢
   have hphi:phi c (vw c w1.m w1.t).th c.threads.toNat<=(((c.threads*Zk4 c).toNat:Nat):Int):=by
     obtain ⟨ro',pa',rt',co',W'⟩:=G1.inv
     have:=(ZnY (c:=c) (th:=(vw c w1.m w1.t).th) (X:=Zk4 c) (fun j hj=>Zuc W'.inv hC hj (G1.own j hj)) c.threads.toNat (by omega)).2
     rw [show ((c.threads.toNat:Nat):Int)=c.threads by omega] at this
     omega
   obtain ⟨K,hK⟩:∃ K,K=(c.threads*Zk4 c).toNat:=⟨_,rfl⟩
   rw [<- hK] at q1 hphi
   have hm2:(3*(K+1))*c.threads.toNat<=2516*6:=Nat.mul_le_mul (by omega) hT6
   have hend:=ends hC hc.2.1 hc.2.2 K G1 hphi (by omega)
   have hsplit:ps=ZaN c.threads.toNat ((3*(K+1))*c.threads.toNat)++ZaN c.threads.toNat (((ZcE c).toNat-3*(K+1))*c.threads.toNat):=by
     rw [hps,<- Zme,<- Nat.add_mul,show 3*(K+1)+((ZcE c).toNat-3*(K+1))=(ZcE c).toNat by omega]
   rw [hsplit,List.foldl_append,Zmb hend (fun e h=>⟨(Zem hC e h).1,(Zem hC e h).2.1⟩)]
   exact hend
 obtain ⟨w,hw⟩:∃ w,w=(l++ps).foldl Za0 (newW c d):=⟨_,rfl⟩
 have hrun:=Zs8 (l++ps) (newW c d)
 rw [<- hw] at r1 W Li hidle hrun
 rw [show ZgT (c,l++ps,d)=some (w,0,0) from r1]
 have hO:=Li.ok W hC hc (by rw [List.length_append];omega)
 have hL:Zhp w=some true:=by
   show Zfm w=_
   rw [Zrk hO,decide_eq_true (Li.linear W hC)]
 have hh:=W.hist
 rw [List.length_append] at hh
 have hlT:=W.lenT
 have hcnt:=(Li.counts W hC).1
 have hbusy:Zhb w.t=0:=by
   apply Zw1
   intro t ht
   obtain ⟨i,hi,rfl⟩:=List.mem_iff_getElem.1 ht
   have hin:InT c (i:Int):=⟨by omega,by omega⟩
   have:=hidle i hin
   rw [ZfW hin,Int.toNat_natCast,List.getD_eq_getElem?_getD,List.getElem?_eq_getElem hi] at this
   exact this
 have hb0:ZeV w=some (0:Int):=by
   have:ZeV w=some (Zhb w.t:Int):=Zwb (by omega)
   rw [this,hbusy];rfl
 have e1:=count_le w.hist 1
 have e2:=count_le w.hist 2
 have e3:=count_le w.hist 3
 have e5:=ZrI (l:=w.hist) (fun e he=>(Li.ehist e he).2.1)
 have hcs:Zfq w.hist=some (count w.hist 1,count w.hist 2,count w.hist 3):=Zrj (by omega)
 have hf:((l++ps).filter fun e=>e.kind == 1).length<=300:=by
   rw [List.filter_append,List.length_append]
   have f1:(l.filter fun e=>e.kind == 1).length<=l.length:=List.length_filter_le _ _
   have f2:ps.filter (fun e=>e.kind == 1)=[]:=by
     rw [List.filter_eq_nil_iff]
     intro e he
     rw [(hpe e he).1]
     decide
   rw [f2,List.length_nil]
   omega
 have hz:count (newW c d).hist 1=0/\count (newW c d).hist 3=0:=⟨rfl,rfl⟩
 rw [hbusy] at hcnt
 simp only [bne_self_eq_false,cond_false,hcs,hb0,hL]
 rw [if_neg (by omega),Zbb rfl,cond_true,Zbb (show count w.hist 1=count w.hist 2 by omega),cond_true,Zaq (by omega) (by omega),if_pos (by omega)]
end Go.Proofs.Mill
