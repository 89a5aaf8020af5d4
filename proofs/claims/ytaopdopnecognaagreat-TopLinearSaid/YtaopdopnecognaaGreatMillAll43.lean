/- Parts of the proof: MillQWorld, MillQMCell, MillQAlone, MillQView, MillQTr, MillQInv, MillQInvT, MillQInvO, MillQInvA. -/
import Derived.Test.YtaopdopnecognaaGreatMillAll42
set_option linter.all false
noncomputable section
namespace Go.Proofs.Mill
def kept (u:Turn):Config×Int×Int×Op×Int×Int:=(u.c,u.t,u.now,u.th.op,u.th.item,u.th.until_)
theorem Zii (u:Turn):kept (Zcj u)=kept u:=by unfold Zcj;split <;> rfl
theorem Zvi (u:Turn):kept (ZfN u)=kept u:=by
 unfold ZfN
 repeat' split
 all_goals rfl
theorem Zwt (u:Turn) (w:Int):kept (ZhJ u w)=kept u:=by
 unfold ZhJ
 repeat' split
 all_goals rfl
theorem Zu5 (u:Turn):kept (Zen u)=kept u:=by unfold Zen;split <;> rfl
theorem Zoq (u:Turn):kept (Zdy u)=kept u:=by unfold Zdy;split <;> rfl
theorem Zu6 (u:Turn):kept (Zca u).1=kept u:=by
 unfold Zca
 split
 . exact Zvi _
 . rfl
theorem ZvL (u:Turn):kept (Zb4 u).1=kept u:=by
 unfold Zb4
 split
 . show kept (if _ then _ else _:Turn)=_
   split <;> rfl
 split
 . exact Zii _
 split
 . show kept (if _ then _ else _:Turn)=_
   split
   . rfl
   . split <;> rfl
 split
 . show kept (if _ then _ else _:Turn)=_
   split
   . rfl
   . split
     . rfl
     . exact Zii _
 rfl
theorem ZtY (u:Turn):kept (ZbV u).1=kept u:=by
 unfold ZbV
 split
 . show kept (Zef u)=_
   unfold Zef
   split
   . exact Zii _
   . rfl
 split
 . show kept (if _ then _ else _:Turn)=_
   split
   . exact Zii _
   . split
     . exact Zoq _
     . rfl
 rfl
theorem Zu2 (u:Turn):kept (Zcs u).1=kept u:=by
 unfold Zcs
 split
 . show kept (if _ then _ else _:Turn)=_
   split
   . rfl
   . exact Zwt _ _
 split
 . show kept (if _ then _ else _:Turn)=_
   split
   . rfl
   . split
     . exact Zu5 _
     . rfl
 split
 . show kept (if _ then _ else _:Turn)=_
   split
   . rfl
   . split <;> rfl
 rfl
theorem Zt2 (u:Turn):kept (Zci u).1=kept u:=by
 unfold Zci
 repeat' split
 all_goals rfl
theorem Zs1 (u:Turn):kept (ZbY u).1=kept u:=by
 unfold ZbY
 split
 . rfl
 split
 . rfl
 split
 . show kept (swapT u)=_
   unfold swapT
   repeat' split
   all_goals rfl
 split
 . show kept (ZbW u u.t 21 13)=_
   unfold ZbW
   repeat' split
   all_goals rfl
 split
 . show kept (ZbW u u.th.who 22 24)=_
   unfold ZbW
   repeat' split
   all_goals rfl
 split
 . show kept (ZfS u)=_
   unfold ZfS
   split <;> rfl
 split
 . show kept (Zja u)=_
   unfold Zja
   repeat' split
   all_goals rfl
 split
 . rfl
 split
 . show kept (Zhd u)=_
   unfold Zhd
   split
   . exact Zoq _
   . rfl
 rfl
theorem Znl (u:Turn):kept (ZaR u)=kept u:=by
 unfold ZaR
 split
 . rfl
 split
 . exact Zu6 (begT u)
 split
 . exact ZvL (begT u)
 split
 . exact ZtY (begT u)
 split
 . exact Zu2 (begT u)
 split
 . exact Zt2 (begT u)
 split
 . exact Zs1 (begT u)
 rfl
theorem Zwl {u v:Turn} (h:kept u=kept v):u.th.op=v.th.op:=congrArg (fun x=>x.2.2.2.1) h
theorem ZyR {u v:Turn} (h:kept u=kept v):u.th.item=v.th.item:=congrArg (fun x=>x.2.2.2.2.1) h
def Zex (w:Wld):Int:=Zac IntKind.i64 (w.steps+(1:Int))
def ZcH (s:Int) (k:Mark):Mark:={ k with step:=s }
def Zkm (w:Wld) (t:Int) (u:Turn):Event:=⟨2,t,u.th.item,u.th.op,u.th.x,(App u.th.op u.th.x w.c.lo w.c.hi).2,Zex w⟩
def ZdQ (w:Wld) (t:Int) (u:Turn):Wld :=
 { w with m:=u.m,t:=w.t.set t.toNat u.th,steps:=Zex w,tape:=u.tape,log:=w.log++u.log.map (ZcH (Zex w)),hist:=if u.done=true then w.hist++[Zkm w t u] else w.hist }
theorem Zxj {w:Wld} {t:Int} {u:Turn} {ms:List Mark} (hl:w.log.length+ms.length<=4294967296) :
   ZaA ZcK (w,t,u,ms,(ms.length:Int),0)=some ({ w with log:=w.log++ms.map (ZcH w.steps) },t,u):=by
 have h0:=ZeL (step:=ZcK) (fun i=>({ w with log:=w.log++(ms.take i).map (ZcH w.steps) },t,u,ms,(ms.length:Int),(i:Int))) ms.length (y:=({ w with log:=w.log++ms.map (ZcH w.steps) },t,u)) (fun i hi=>?_) ?_
 . rw [List.take_zero,List.map_nil,List.append_nil] at h0
   exact h0
 . unfold ZcK
   simp only [Zat]
   have e2:(ms.take i).map (ZcH w.steps)++[{ ms.getD i ZaO with step:=w.steps }]=(ms.take (i+1)).map (ZcH w.steps):=by
     rw [<- Zso ms ZaO i hi,List.map_append];rfl
   rw [if_pos (show (i:Int)<(ms.length:Int) by omega),if_pos (show (0:Int)<=(i:Int) by omega),if_pos (show (i:Int)<(ms.length:Int) by omega),Int.toNat_natCast,Zbb (by simp;omega),cond_true,List.append_assoc,e2,Zas (by omega) (by omega)]
   rfl
 . unfold ZcK
   simp only [Zat]
   rw [if_neg (by omega),List.take_length]
theorem Zyi {w:Wld} {t:Int} (h0:0<=t) (h1:t<(w.t.length:Int)) (hp:(w.t.getD t.toNat Zaw).phase=0):Zb6 w t=some w:=by
 have e:Zct w t=some none:=by
   unfold Zct
   simp only [Zat,ZbE,ZeD]
   rw [if_pos h0,if_pos h1,Zf7 hp]
   rfl
 unfold Zb6
 rw [e]
theorem Zx9 {w:Wld} {t:Int} {u:Turn} (h0:0<=t) (h1:t<(w.t.length:Int)) (hp:(w.t.getD t.toNat Zaw).phase≠0) (hf:FitM (ZbK w t)) (hu:ZaR (ZbK w t)=u)
   (hx:u.done=true->Num u.th.x/\Num u.th.op.v) (hlog:w.log.length+u.log.length<=4294967296) (hh:w.hist.length+1<=4294967296):Zb6 w t=some (ZdQ w t u):=by
 have e:Zct w t=some (some u):=by
   unfold Zct
   simp only [Zat,ZbE,ZeD,Ze2,ZuL hf,hu]
   rw [if_pos h0,if_pos h1,ZeV hp]
   rfl
 have e2:Zhc w t u=some ({ w with m:=u.m,t:=w.t.set t.toNat u.th,steps:=Zex w,tape:=u.tape },t,u,u.log,(u.log.length:Int),(0:Int)):=by
   unfold Zhc
   simp only [Zat]
   rw [if_pos h0,if_pos h1]
   rfl
 have e3:=Zxj (w:={ w with m:=u.m,t:=w.t.set t.toNat u.th,steps:=Zex w,tape:=u.tape }) (t:=t) (u:=u) (ms:=u.log) hlog
 unfold Zb6
 rw [e]
 simp only [e2,e3]
 unfold Zhf ZdQ
 cases hd:u.done with
 | false=>rfl
 | true =>
   obtain ⟨nx,no⟩:=hx hd
   simp only [cond_true]
   have ea:Zcf (u.th.op,u.th.x,w.c.lo,w.c.hi)=some (App u.th.op u.th.x w.c.lo w.c.hi):=Zkd nx no hf.lo hf.hi
   rw [ea]
   simp only []
   rw [Zbb (by simp;omega)]
   rfl
def invT (w:Wld) (e:SEntry):Wld := if (w.t.getD e.t.toNat Zaw).phase≠0 then { w with hist:=w.hist++[⟨3,e.t,e.item,e.op,0,false,w.steps⟩] } else { w with t:=w.t.set e.t.toNat (Zji w.c e.t e.item e.op w.now (w.t.getD e.t.toNat Zaw).width),hist:=w.hist++[⟨1,e.t,e.item,e.op,0,false,w.steps⟩] }
def Zfz (w:Wld) (e:SEntry):Option Wld := if e.kind=1 then (if 0<=e.t/\e.t<(w.t.length:Int)/\w.hist.length+1<=4294967296 then some (invT w e) else none) else if e.kind=2 then Zb6 w e.t else if e.kind=3 then some { w with now:=Zac .i64 (w.now+1) } else some w
theorem ZAd {w w' w0:Wld} {x:Int} {l:List SEntry} {i:Nat} (hc:CfgOK w.c) (hi:i<l.length) (hl:l.length<=4294967296) (h:Zfz w (l.getD i ZaE)=some w') :
   Zho (w0,w,x,l,(l.length:Int),(i:Int))=some (.inl (w0,w',x,l,(l.length:Int),((i+1:Nat):Int))):=by
 show ZfD _ _ _ _ _ _=_
 unfold ZfD
 simp only [Zat]
 rw [if_pos (show (i:Int)<(l.length:Int) by omega),if_pos (show (0:Int)<=(i:Int) by omega),if_pos (show (i:Int)<(l.length:Int) by omega),Int.toNat_natCast]
 obtain ⟨e,he⟩:∃ e,e=l.getD i ZaE:=⟨_,rfl⟩
 rw [<- he] at h ⊢
 have hw:Zac IntKind.i64 ((i:Int)+1)=((i+1:Nat):Int):=by rw [Zas (by omega) (by omega)];omega
 rw [hw]
 unfold Zfz at h
 by_cases k1:e.kind=1
 . rw [if_pos k1] at h
   by_cases g:0<=e.t/\e.t<(w.t.length:Int)/\w.hist.length+1<=4294967296
   . rw [if_pos g] at h
     have h:=Option.some.inj h
     rw [Zbf k1,cond_true,if_pos g.1,if_pos g.2.1]
     simp only [ZbE,ZeD]
     unfold invT at h
     by_cases p:(w.t.getD e.t.toNat Zaw).phase=0
     . rw [if_neg (fun h=>h p)] at h
       rw [Zf7 p,cond_false]
       have hb:ZgI (w.c,e.t,w.t.getD e.t.toNat Zaw,e.item,e.op,w.now)=some (Zji w.c e.t e.item e.op w.now (w.t.getD e.t.toNat Zaw).width):=Zuz hc _ _ _ _ _
       rw [hb]
       simp only []
       rw [Zbb (by simp;omega),cond_true,<- h]
     . rw [if_pos p] at h
       rw [ZeV p,cond_true,Zbb (by simp;omega),cond_true,<- h]
   . rw [if_neg g] at h;cases h
 . rw [if_neg k1] at h
   rw [ZaS k1,cond_false]
   by_cases k2:e.kind=2
   . rw [if_pos k2] at h
     rw [Zbf k2,cond_true,h]
   . rw [if_neg k2] at h
     rw [ZaS k2,cond_false]
     by_cases k3:e.kind=3
     . rw [if_pos k3] at h
       rw [Zbf k3,cond_true,<- Option.some.inj h]
     . rw [if_neg k3] at h
       rw [ZaS k3,cond_false,<- Option.some.inj h]
def Zgw:Wld->List SEntry->Option Wld
 | w,[]=>some w
 | w, e :: l => match Zfz w e with
  | some w=>Zgw w l
  | none=>none
theorem Ztd {w v:Wld} {e:SEntry} {l:List SEntry} (h:Zfz w e=some v):Zgw w (e::l)=Zgw v l:=by
 show (match Zfz w e with | some w=>Zgw w l | none=>none)=_
 rw [h]
theorem ZzQ {w w':Wld} {e:SEntry} (h:Zfz w e=some w'):w'.c=w.c:=by
 unfold Zfz at h
 split at h
 . split at h
   . rw [<- Option.some.inj h];unfold invT;split <;> rfl
   . cases h
 . split at h
   . unfold Zb6 at h
     split at h
     . rename_i u hu
       split at h
       . rename_i st hst
         have e1:st.1.c=w.c:=by
           unfold Zhc at hst
           simp only [Zat] at hst
           split at hst
           . split at hst
             . rw [<- Option.some.inj hst]
             . cases hst
           . cases hst
         split at h
         . rename_i st2 hst2
           have e2:st2.1.c=w.c:=by
             have:=whileM_some.1 hst2
             clear hst2 hst h
             have key:∀ {a:Wld×Int×Turn×List Mark×Int×Int} {b:Wld×Int×Turn},Loops ZcK a b->a.1.c=w.c->b.1.c=w.c:=by
               intro a b hl
               induction hl with
               | done a b h1 =>
                 intro ha
                 unfold ZcK at h1
                 simp only [Zat] at h1
                 split at h1
                 . split at h1
                   . split at h1
                     . cases hb:fewB (a.1.log.length+[{ a.2.2.2.1.getD a.2.2.2.2.2.toNat ZaO with step:=a.1.steps }].length) with
                       | true=>rw [hb] at h1;cases h1
                       | false=>rw [hb] at h1;cases h1
                     . cases h1
                   . cases h1
                 . have:=Sum.inr.inj (Option.some.inj h1)
                   rw [<- this];exact ha
               | more a b c h1 h2 ih =>
                 intro ha
                 apply ih
                 unfold ZcK at h1
                 simp only [Zat] at h1
                 split at h1
                 . split at h1
                   . split at h1
                     . cases hb:fewB (a.1.log.length+[{ a.2.2.2.1.getD a.2.2.2.2.2.toNat ZaO with step:=a.1.steps }].length) with
                       | true =>
                         rw [hb] at h1
                         have:=Sum.inl.inj (Option.some.inj h1)
                         rw [<- this];exact ha
                       | false=>rw [hb] at h1;cases h1
                     . cases h1
                   . cases h1
                 . cases h1
             exact key this e1
           unfold Zhf at h
           cases hd:st2.2.2.done with
           | false=>rw [hd] at h;rw [<- Option.some.inj h];exact e2
           | true =>
             rw [hd,cond_true] at h
             split at h
             . rename_i y1 hy
               cases hb:fewB (st2.1.hist.length+[(⟨(2:Int),st2.2.1,st2.2.2.th.item,st2.2.2.th.op,st2.2.2.th.x,y1.snd,st2.1.steps⟩:Event)].length) with
               | true=>rw [hb] at h;rw [<- Option.some.inj h];exact e2
               | false=>rw [hb] at h;cases h
             . cases h
         . cases h
       . cases h
     . rw [<- Option.some.inj h]
     . cases h
   . split at h
     . rw [<- Option.some.inj h]
     . rw [<- Option.some.inj h]
theorem Ztx {w0:Wld} {x:Int} {l:List SEntry} (hl:l.length<=4294967296):∀ (k i:Nat) (w w':Wld),CfgOK w.c->i+k=l.length->Zgw w (l.drop i)=some w'->ZjQ (w0,w,x,l,(l.length:Int),(i:Int))=some (w0,w',x)
 | 0, i, w, w', hc, hk, h => by
   rw [List.drop_of_length_le (by omega)] at h
   have h:=Option.some.inj h
   subst h
   refine whileM_some.2 (.done _ _ ?_)
   show ZfD _ _ _ _ _ _=_
   unfold ZfD
   simp only [Zat]
   rw [if_neg (by omega)]
 | k + 1, i, w, w', hc, hk, h => by
   have hi:i<l.length:=by omega
   rw [List.drop_eq_getElem_cons hi] at h
   unfold Zgw at h
   cases h1:Zfz w l[i] with
   | none=>rw [h1] at h;cases h
   | some v =>
     rw [h1] at h
     have e:l.getD i ZaE=l[i]:=by rw [List.getD_eq_getElem?_getD,List.getElem?_eq_getElem hi];rfl
     rw [<- e] at h1
     have hs:=ZAd (w0:=w0) (x:=x) hc hi hl h1
     have:=Ztx (w0:=w0) (x:=x) hl k (i+1) v w' (by rw [ZzQ h1];exact hc) (by omega) h
     exact whileM_some.2 (.more _ _ _ hs (whileM_some.1 this))
def newT:Thread:=⟨0,0,⟨0,0⟩,[],[],[],0,0,0,0,0,1,0,0,0,0⟩
def newW (c:Config) (d:List Int):Wld:=⟨c,Zc2 c,List.replicate c.threads.toNat newT,0,0,⟨d,0⟩,[],[]⟩
abbrev tab (c:Config):Int×Int×Int×Int×Int×Int×Int×Int×Int×Int×Int×Int×Int×Int×Int×Int×Int×Int×Int×Int×Int×Int×Int×Int :=
 (c.threads,1,16,c.items,1,4,c.backend,1,3,c.depth,0,4,c.layers,0,3,c.width,1,8,c.spin,0,20,c.wait,0,1000)
theorem Zeg {c:Config} {j j' v lo hi e:Int} (r:Zeu (c,tab c,j)=bif decide (v<lo) then some (.inr (.inr e)) else bif decide (v>hi) then some (.inr (.inr e)) else some (.inl (c,tab c,j'))) :
   ZcY (c,tab c,j)=if v<lo\/v>hi then some (.inr e) else ZcY (c,tab c,j'):=by
 have h:=Zb2 Zeu (c,tab c,j)
 rw [r] at h
 unfold ZcY
 by_cases a:v<lo
 . rw [decide_eq_true a] at h
   rw [h,if_pos (.inl a)]
   rfl
 . by_cases b:v>hi
   . rw [decide_eq_false a,decide_eq_true b] at h
     rw [h,if_pos (.inr b)]
     rfl
   . rw [decide_eq_false a,decide_eq_false b] at h
     rw [h,if_neg (fun h=>h.elim a b)]
     rfl
theorem Zk4 (c:Config):Ziw c=ZdZ c:=by
 unfold ZdZ
 simp only [Zat]
 have hF:Ziw c=(match ZcY (c,tab c,0) with
   | some (.inl y1)=>bif y1.bounded then bif decide (y1.init<y1.lo) then some 58 else bif decide (y1.hi<y1.init) then some 58 else some 0 else some 0
   | some (.inr y2)=>some y2
   | none=>none:Option Int):=rfl
 have h8:ZcY (c,tab c,8)=some (.inl c):=by
   unfold ZcY
   rw [Zb2]
   rfl
 rw [hF,Zeg (c:=c) (j:=0) (j':=1) (v:=c.threads) (lo:=1) (hi:=16) (e:=50) (by show _=_;kernel_rfl),Zeg (c:=c) (j:=1) (j':=2) (v:=c.items) (lo:=1) (hi:=4) (e:=51) (by show _=_;kernel_rfl),
   Zeg (c:=c) (j:=2) (j':=3) (v:=c.backend) (lo:=1) (hi:=3) (e:=52) (by show _=_;kernel_rfl),Zeg (c:=c) (j:=3) (j':=4) (v:=c.depth) (lo:=0) (hi:=4) (e:=53) (by show _=_;kernel_rfl),
   Zeg (c:=c) (j:=4) (j':=5) (v:=c.layers) (lo:=0) (hi:=3) (e:=54) (by show _=_;kernel_rfl),Zeg (c:=c) (j:=5) (j':=6) (v:=c.width) (lo:=1) (hi:=8) (e:=55) (by show _=_;kernel_rfl),
   Zeg (c:=c) (j:=6) (j':=7) (v:=c.spin) (lo:=0) (hi:=20) (e:=56) (by show _=_;kernel_rfl),Zeg (c:=c) (j:=7) (j':=8) (v:=c.wait) (lo:=0) (hi:=1000) (e:=57) (by show _=_;kernel_rfl),h8]
 by_cases a0:c.threads<1
 . rw [if_pos (.inl a0),if_pos a0]
 by_cases b0:c.threads>16
 . rw [if_pos (.inr b0),if_neg a0,if_pos b0]
 rw [if_neg (fun h=>h.elim a0 b0),if_neg a0,if_neg b0]
 by_cases a1:c.items<1
 . rw [if_pos (.inl a1),if_pos a1]
 by_cases b1:c.items>4
 . rw [if_pos (.inr b1),if_neg a1,if_pos b1]
 rw [if_neg (fun h=>h.elim a1 b1),if_neg a1,if_neg b1]
 by_cases a2:c.backend<1
 . rw [if_pos (.inl a2),if_pos a2]
 by_cases b2:c.backend>3
 . rw [if_pos (.inr b2),if_neg a2,if_pos b2]
 rw [if_neg (fun h=>h.elim a2 b2),if_neg a2,if_neg b2]
 by_cases a3:c.depth<0
 . rw [if_pos (.inl a3),if_pos a3]
 by_cases b3:c.depth>4
 . rw [if_pos (.inr b3),if_neg a3,if_pos b3]
 rw [if_neg (fun h=>h.elim a3 b3),if_neg a3,if_neg b3]
 by_cases a4:c.layers<0
 . rw [if_pos (.inl a4),if_pos a4]
 by_cases b4:c.layers>3
 . rw [if_pos (.inr b4),if_neg a4,if_pos b4]
 rw [if_neg (fun h=>h.elim a4 b4),if_neg a4,if_neg b4]
 by_cases a5:c.width<1
 . rw [if_pos (.inl a5),if_pos a5]
 by_cases b5:c.width>8
 . rw [if_pos (.inr b5),if_neg a5,if_pos b5]
 rw [if_neg (fun h=>h.elim a5 b5),if_neg a5,if_neg b5]
 by_cases a6:c.spin<0
 . rw [if_pos (.inl a6),if_pos a6]
 by_cases b6:c.spin>20
 . rw [if_pos (.inr b6),if_neg a6,if_pos b6]
 rw [if_neg (fun h=>h.elim a6 b6),if_neg a6,if_neg b6]
 by_cases a7:c.wait<0
 . rw [if_pos (.inl a7),if_pos a7]
 by_cases b7:c.wait>1000
 . rw [if_pos (.inr b7),if_neg a7,if_pos b7]
 rw [if_neg (fun h=>h.elim a7 b7),if_neg a7,if_neg b7]
 simp only
 cases hb:c.bounded with
 | false=>rfl
 | true =>
   simp only [cond_true]
   by_cases k1:c.init<c.lo
   . rw [decide_eq_true k1,if_pos k1];rfl
   rw [decide_eq_false k1,if_neg k1]
   by_cases k2:c.hi<c.init
   . rw [decide_eq_true k2,if_pos k2];rfl
   rw [decide_eq_false k2,if_neg k2]
   rfl
theorem ZB2:((List.range 17).all fun (k:Nat)=>decide (ZdT (IntKind.u64.wrap (1:Int),IntKind.u64.wrap (k:Int))=some (0,(k:Int))))=true:=by kernel_rfl
theorem Zxw {n:Int} (y:Thread) (h0:1<=n) (h1:n<=16):ZbF [y] n=some (List.replicate n.toNat y):=by
 have hm:∀ k:Nat,k<=16->ZdT (IntKind.u64.wrap (1:Int),IntKind.u64.wrap (k:Int))=some (0,(k:Int)):=by
   intro k hk
   have key:=ZB2
   rw [List.all_eq_true] at key
   have:=key k (by simp;omega)
   simpa using this
 obtain ⟨k,hk⟩:∃ k:Nat,n=(k:Int):=⟨n.toNat,by omega⟩
 subst hk
 unfold ZbF
 simp only [Zat,hm k (by omega)]
 have hw:IntKind.i64.wrap (k:Int)=(k:Int):=by rw [<- Zbv,Zas (by omega) (by omega)]
 rw [if_neg (by omega),if_neg (by omega),if_neg (by omega),hw,if_pos (by omega),if_pos (by unfold Zbt;omega)]
theorem Zzl {c:Config} (h:CfgOK c) {d:List Int} (hd:d.length<=4294967296):ZlU c d=some (newW c d,0):=by
 obtain ⟨e,he,hE⟩:=ZgU c
 have he0:=hE.2 h
 subst he0
 have e1:Zdo c=some 0:=(Zk4 c).trans he
 have e2:Zj3 c=some (Zc2 c):=Zu0 h
 have e3:Zky ()=some newT:=rfl
 have e4:Zdk ([newT],c.threads)=some (List.replicate c.threads.toNat newT):=Zxw newT h.threads.1 h.threads.2
 have e5:Zbs d=some d:=by
   show ZdF d=_
   unfold ZdF
   rw [Zbb (by omega)]
   rfl
 unfold ZlU
 simp only [e1,e2,e3,e4,e5,bne_self_eq_false,cond_false]
 rfl
end Go.Proofs.Mill
namespace Go.Proofs.Mill
theorem Zur {u:Turn} (p:u.th.phase=2\/u.th.phase=3\/u.th.phase=25):ZaR u=(ZbV (begT u)).1:=by
 unfold ZaR
 have c1:¬(Zca (begT u)).2=true:=by
   unfold Zca
   rw [if_neg (show ¬(begT u).th.phase=1 from fun h=>by have h:u.th.phase=1:=h;omega)]
   simp
 have c2:¬(Zb4 (begT u)).2=true:=by
   have e:(begT u).th.phase=u.th.phase:=rfl
   unfold Zb4
   rw [e,if_neg (by omega),if_neg (by omega),if_neg (by omega),if_neg (by omega)]
   simp
 have c3:(ZbV (begT u)).2=true:=by
   have e:(begT u).th.phase=u.th.phase:=rfl
   unfold ZbV
   rw [e]
   by_cases p3:u.th.phase=3
   . rw [if_pos p3]
   . rw [if_neg p3,if_pos (by omega)]
 rw [if_neg (by omega),if_neg c1,if_neg c2,if_pos c3]
theorem ZcL {l:List Int} {i j:Nat} {a:Int} (h:i≠j):(l.set i a).getD j 0=l.getD j 0:=by
 rw [List.getD_eq_getElem?_getD,List.getD_eq_getElem?_getD,List.getElem?_set_ne h]
end Go.Proofs.Mill
namespace Go.Proofs.Mill
theorem ZCd {B a b r s:Int} (hr:0<=r/\r<B) (hs:0<=s/\s<B) (h:a*B+r=b*B+s):a=b/\r=s:=by
 have h1:(a*B+r) / B=a:=by rw [Int.add_comm,Int.add_mul_ediv_right _ _ (by omega),Int.ediv_eq_zero_of_lt hr.1 hr.2,Int.zero_add]
 have h2:(b*B+s) / B=b:=by rw [Int.add_comm,Int.add_mul_ediv_right _ _ (by omega),Int.ediv_eq_zero_of_lt hs.1 hs.2,Int.zero_add]
 have e:a=b:=by rw [<- h1,h,h2]
 subst e
 exact ⟨rfl,by omega⟩
abbrev pl (c:Config) (it r:Int):Int:=it*Zaz c+r
theorem Zjw {c:Config} (h:CfgOK c) {it r:Int} (h0:0<=it) (h1:it<c.items) (r0:0<=r) (r1:r<Zaz c):0<=pl c it r/\pl c it r<Za0 c/\pl c it r<sizeOf c:=by
 have a:=Zdv h (i:=it+1) (by omega) (by omega)
 have b:=Zdv h (i:=it) h0 (by omega)
 have e:(it+1)*Zaz c=it*Zaz c+Zaz c:=by rw [Int.add_mul,Int.one_mul]
 have:=h.threads
 unfold sizeOf
 show 0<=it*Zaz c+r/\it*Zaz c+r<Za0 c/\it*Zaz c+r<Za0 c+2*c.threads
 omega
structure Mem1 (c:Config) (t i:Int) (S:List Int) (lw:Int) (ws:List Int):Prop where
  len:(ws.length:Int)=sizeOf c
  nums:∀ n∈ws,Num n
  cells:∀ it,0<=it->it<c.items->ws.getD (pl c it 0).toNat 0=c.init
  nodes:∀ it n,0<=it->it<c.items->1<=n->n<=ZaI c->ws.getD (pl c it n).toNat 0=if it=i/\n∈S then 8*(t+1)+1 else 0
  slots:∀ it r,0<=it->it<c.items->ZaI c<r->r<Zaz c->ws.getD (pl c it r).toNat 0=0\/ws.getD (pl c it r).toNat 0=t+1
  line:ws.getD (ZaX c t).toNat 0=lw
theorem ZiD {l:List Int} {i:Nat} {a:Int} (h:i<l.length):(l.set i a).getD i 0=a:=by
 rw [List.getD_eq_getElem?_getD,List.getElem?_set_self h,Option.getD_some]
section
variable {c:Config} {t i:Int} {S S':List Int} {lw:Int} {ws:List Int}
theorem ZBi (h:CfgOK c) {a b r s:Int} (ha:0<=a/\a<c.items) (hb:0<=b/\b<c.items) (hr:0<=r/\r<Zaz c) (hs:0<=s/\s<Zaz c) (hne:¬(a=b/\r=s)):(pl c a r).toNat≠(pl c b s).toNat:=by
 have h1:=Zjw h ha.1 ha.2 hr.1 hr.2
 have h2:=Zjw h hb.1 hb.2 hs.1 hs.2
 intro e
 exact hne (ZCd hr hs (show a*Zaz c+r=b*Zaz c+s by
                                                                         have:pl c a r=pl c b s:=by omega
                                                                         exact this))
theorem ZlK (h:CfgOK c):ZaI c<Zaz c:=by
 have:=Zgp h
 unfold Zaz
 omega
end
structure Al (c:Config) (t i:Int) (op:Op) (S:List Int) (lw:Int) (u:Turn):Prop where
  fit:FitM u
  cE:u.c=c
  tE:u.t=t
  item:u.th.item=i
  batch:u.th.batch=[⟨t,op⟩]
  kids:u.th.kids=[]
  stop:u.th.stop=0
  log:u.log=[]
  done:u.done=false
  late:¬Late u
  wd:u.th.width=1
  mem:Mem1 c t i S lw u.m.words
structure Like (u v:Turn):Prop where
  c:v.c=u.c
  t:v.t=u.t
  now:v.now=u.now
  item:v.th.item=u.th.item
  batch:v.th.batch=u.th.batch
  kids:v.th.kids=u.th.kids
  stop:v.th.stop=u.th.stop
  log:v.log=u.log
  done:v.done=u.done
  until_:v.th.until_=u.th.until_
  tape:v.tape=u.tape\/(Num v.tape.at_/\v.tape.l.length<=4294967296)
inductive EndsIn (G:Turn->Prop):Turn->Int->Prop
  | last {u:Turn} (hf:FitM u) (hp:u.th.phase≠0) (hd:(ZaR u).done=true) (hg:G (ZaR u)):EndsIn G u 1
  | step {u v:Turn} {k:Int} (hf:FitM u) (hp:u.th.phase≠0) (hv:ZaR u=v) (hd:v.done=false) (hl:v.log=[]) (h:EndsIn G v k) (hk:0<=k):EndsIn G u (k+1)
  | more {u:Turn} {k k':Int} (h:EndsIn G u k) (hk:k<=k'):EndsIn G u k'
structure Good (c:Config) (t i:Int) (op:Op) (v:Turn):Prop where
  done:v.done=true
  idle:v.th.phase=0
  x:v.th.x=c.init
  log:v.log=[⟨t,i,op,c.init,0⟩]
  len:(v.m.words.length:Int)=sizeOf c
  cells:∀ it,0<=it->it<c.items->v.m.words.getD (pl c it 0).toNat 0=if it=i then (App op c.init c.lo c.hi).1 else c.init
  nodes:∀ it n,0<=it->it<c.items->1<=n->n<=ZaI c->v.m.words.getD (pl c it n).toNat 0=0
  line:v.m.words.getD (ZaX c t).toNat 0=0
section
variable {c:Config} {t i:Int} {op:Op} {u:Turn} {S:List Int} {lw:Int}
end
end Go.Proofs.Mill
namespace Go.Proofs.Mill
structure Vw where
  b:Int->Int->Int
  l:Int->Int
  r:Int->Int
  bx:Int->List Entry
  th:Int->Thread
def setb (f:Int->Int->Int) (i r w a k:Int):Int:=if a=i/\k=r then w else f a k
theorem Zgf {f:Int->Int->Int} {i r w:Int}:setb f i r w i r=w:=if_pos ⟨rfl,rfl⟩
theorem ZdN {f:Int->Int->Int} {i r w a k:Int} (h:¬(a=i/\k=r)):setb f i r w a k=f a k:=if_neg h
def ZgH (c:Config) (i r:Int):Prop:=(0<=i/\i<c.items)/\(0<=r/\r<Zaz c)
instance (c:Config) (i r:Int):Decidable (ZgH c i r):=inferInstanceAs (Decidable (_/\_))
instance (c:Config) (j:Int):Decidable (InT c j):=inferInstanceAs (Decidable (_/\_))
def vwB (c:Config) (ws:List Int) (i r:Int):Int:=if ZgH c i r then ws.getD (pl c i r).toNat 0 else 0
def vwL (c:Config) (ws:List Int) (j:Int):Int:=if InT c j then ws.getD (Za0 c+2*j).toNat 0 else 0
def vwR (c:Config) (ws:List Int) (j:Int):Int:=if InT c j then ws.getD (Za0 c+2*j+1).toNat 0 else 0
def vwX (c:Config) (bs:List (List Entry)) (j:Int):List Entry:=if InT c j then bs.getD j.toNat [] else []
def vwT (c:Config) (ts:List Thread) (j:Int):Thread:=if InT c j then ts.getD j.toNat Zaw else Zaw
def vw (c:Config) (m:Memo) (ts:List Thread):Vw:=⟨vwB c m.words,vwL c m.words,vwR c m.words,vwX c m.boxes,vwT c ts⟩
section
variable {c:Config} {ws:List Int} {w:Int}
theorem ZyV (h:CfgOK c) (hl:(ws.length:Int)=sizeOf c) {i r:Int} (hi:ZgH c i r) :
   vwB c (ws.set (pl c i r).toNat w)=setb (vwB c ws) i r w/\vwL c (ws.set (pl c i r).toNat w)=vwL c ws/\vwR c (ws.set (pl c i r).toNat w)=vwR c ws:=by
 have hp:=Zjw h hi.1.1 hi.1.2 hi.2.1 hi.2.2
 refine ⟨?_,?_,?_⟩
 . funext a k
   unfold setb vwB
   by_cases hb:ZgH c a k
   . rw [if_pos hb,if_pos hb]
     by_cases e:a=i/\k=r
     . rw [if_pos e,e.1,e.2,ZiD (by omega)]
     . rw [if_neg e,ZcL (ZBi h hi.1 hb.1 hi.2 hb.2 (fun x=>e ⟨x.1.symm,x.2.symm⟩))]
   . rw [if_neg hb,if_neg hb,if_neg (fun e=>hb (by rw [e.1,e.2];exact hi))]
 . funext j
   unfold vwL
   by_cases hj:InT c j
   . rw [if_pos hj,if_pos hj,ZcL (by have:=hj.1;omega)]
   . rw [if_neg hj,if_neg hj]
 . funext j
   unfold vwR
   by_cases hj:InT c j
   . rw [if_pos hj,if_pos hj,ZcL (by have:=hj.1;omega)]
   . rw [if_neg hj,if_neg hj]
theorem Zzv (h:CfgOK c) (hl:(ws.length:Int)=sizeOf c) {t:Int} (ht:InT c t) :
   vwB c (ws.set (Za0 c+2*t).toNat w)=vwB c ws/\vwL c (ws.set (Za0 c+2*t).toNat w)=seta (vwL c ws) t w/\vwR c (ws.set (Za0 c+2*t).toNat w)=vwR c ws:=by
 have hb:=Za8 h
 have h0:=ht.1
 have h1:=ht.2
 unfold sizeOf at hl
 refine ⟨?_,?_,?_⟩
 . funext a k
   unfold vwB
   by_cases hb:ZgH c a k
   . have hp:=Zjw h hb.1.1 hb.1.2 hb.2.1 hb.2.2
     rw [if_pos hb,if_pos hb,ZcL (by omega)]
   . rw [if_neg hb,if_neg hb]
 . funext j
   unfold vwL
   by_cases e:j=t
   . subst e;rw [Zag,if_pos ht,ZiD (by omega)]
   . rw [Zaf e]
     by_cases hj:InT c j
     . rw [if_pos hj,if_pos hj,ZcL (by have:=hj.1;omega)]
     . rw [if_neg hj,if_neg hj]
 . funext j
   unfold vwR
   by_cases hj:InT c j
   . rw [if_pos hj,if_pos hj,ZcL (by have:=hj.1;omega)]
   . rw [if_neg hj,if_neg hj]
theorem ZCn (h:CfgOK c) (hl:(ws.length:Int)=sizeOf c) {t:Int} (ht:InT c t) :
   vwB c (ws.set (Za0 c+2*t+1).toNat w)=vwB c ws/\vwL c (ws.set (Za0 c+2*t+1).toNat w)=vwL c ws/\vwR c (ws.set (Za0 c+2*t+1).toNat w)=seta (vwR c ws) t w:=by
 have hb:=Za8 h
 have h0:=ht.1
 have h1:=ht.2
 unfold sizeOf at hl
 refine ⟨?_,?_,?_⟩
 . funext a k
   unfold vwB
   by_cases hb:ZgH c a k
   . have hp:=Zjw h hb.1.1 hb.1.2 hb.2.1 hb.2.2
     rw [if_pos hb,if_pos hb,ZcL (by omega)]
   . rw [if_neg hb,if_neg hb]
 . funext j
   unfold vwL
   by_cases hj:InT c j
   . rw [if_pos hj,if_pos hj,ZcL (by have:=hj.1;omega)]
   . rw [if_neg hj,if_neg hj]
 . funext j
   unfold vwR
   by_cases e:j=t
   . subst e;rw [Zag,if_pos ht,ZiD (by omega)]
   . rw [Zaf e]
     by_cases hj:InT c j
     . rw [if_pos hj,if_pos hj,ZcL (by have:=hj.1;omega)]
     . rw [if_neg hj,if_neg hj]
theorem ZCh {bs:List (List Entry)} (hl:(bs.length:Int)=c.threads) {t:Int} (ht:InT c t) {b:List Entry}:vwX c (bs.set t.toNat b)=seta (vwX c bs) t b:=by
 have h0:=ht.1
 have h1:=ht.2
 funext j
 unfold vwX
 by_cases e:j=t
 . subst e
   rw [Zag,if_pos ht,List.getD_eq_getElem?_getD,List.getElem?_set_self (by omega)]
   rfl
 . rw [Zaf e]
   by_cases hj:InT c j
   . rw [if_pos hj,if_pos hj,List.getD_eq_getElem?_getD,List.getElem?_set_ne (by have:=hj.1;omega),<- List.getD_eq_getElem?_getD]
   . rw [if_neg hj,if_neg hj]
theorem Zx5 {ts:List Thread} (hl:(ts.length:Int)=c.threads) {t:Int} (ht:InT c t) {x:Thread}:vwT c (ts.set t.toNat x)=seta (vwT c ts) t x:=by
 have h0:=ht.1
 have h1:=ht.2
 funext j
 unfold vwT
 by_cases e:j=t
 . subst e
   rw [Zag,if_pos ht,List.getD_eq_getElem?_getD,List.getElem?_set_self (by omega)]
   rfl
 . rw [Zaf e]
   by_cases hj:InT c j
   . rw [if_pos hj,if_pos hj,List.getD_eq_getElem?_getD,List.getElem?_set_ne (by have:=hj.1;omega),<- List.getD_eq_getElem?_getD]
   . rw [if_neg hj,if_neg hj]
end
def ZbL (h:Thread):Thread:=if h.at_<0\/h.at_>=(h.kids.length:Int) then { h with phase:=0 } else { h with phase:=15 }
def Zey (h:Thread):Bool:=decide (h.at_<0\/h.at_>=(h.kids.length:Int))
def Zft (h:Thread):Thread:={ h with phase:=if 0<=h.at_/\h.at_<(h.held.length:Int) then 7 else if h.stop>0 then 11 else 2 }
def Zke (h:Thread):Thread:=Zft { h with at_:=0 }
def Ztj (h:Thread):Thread:=Zft { h with at_:=Zac IntKind.i64 (h.at_+1) }
def ZfC (h:Thread):Thread:=if h.node / 2>0 then { h with phase:=4,held:=h.held++[h.node],node:=h.node / 2 } else Zke { h with phase:=4,held:=h.held++[h.node],node:=h.node / 2 }
def ZbC (h:Thread):Int:=h.held.getD h.at_.toNat 0
def kidH (h:Thread):Kid:=h.kids.getD h.at_.toNat ⟨0,0⟩
def Zbx (h:Thread):Int:=8*(16*h.item+h.layer+1)+4
def Zgs (c:Config) (h:Thread) (x:Int):List Mark:=List.zipWith (fun (e:Entry) p=>(⟨e.t,h.item,e.op,p,0⟩:Mark)) h.batch (Zei c.lo c.hi h.batch x)
def put (v:Vw) (t:Int) (h:Thread):Vw:={ v with th:=seta v.th t h }
def wB (v:Vw) (i r w:Int):Vw:={ v with b:=setb v.b i r w }
def wL (v:Vw) (j w:Int):Vw:={ v with l:=seta v.l j w }
def wR (v:Vw) (j w:Int):Vw:={ v with r:=seta v.r j w }
def wX (v:Vw) (j:Int) (b:List Entry):Vw:={ v with bx:=seta v.bx j b }
inductive Onw (c:Config) (h:Thread):Thread->Prop
  | up:h.layer<c.layers->Onw c h { h with phase:=17,layer:=Zac .i64 (h.layer+1) }
  | cell:Onw c h { h with phase:=2 }
inductive Start (c:Config) (h:Thread):Thread->Prop
  | climb:c.depth>0->Start c h { h with phase:=4 }
  | funnel:c.layers>0->Start c h { h with phase:=17,layer:=1 }
  | cell:Start c h { h with phase:=2 }
inductive Stuck (c:Config) (t:Int) (v:Vw) (h:Thread):Prop
  | out (p:h.phase<1\/26<h.phase)
  | node (p:4<=h.phase/\h.phase<=6) (e:nodeAt c h.item h.node=-1)
  | full (p:h.phase=4) (k1:Zcc (v.b h.item h.node)≠1) (k0:Zcc (v.b h.item h.node)≠0)
  | held (p:h.phase=7\/h.phase=8\/h.phase=10) (e:¬(0<=h.at_/\h.at_<(h.held.length:Int))\/nodeAt c h.item (ZbC h)=-1)
  | join (p:h.phase=7) (e:v.b h.item (ZbC h)≠8*(t+1)+1) (k:Zcc (v.b h.item (ZbC h))≠3)
  | who (p:h.phase=9\/h.phase=21\/h.phase=22) (e:¬InT c h.who)
  | stop (p:h.phase=12) (e:nodeAt c h.item h.stop=-1)
  | told (p:h.phase=13) (e:v.l t≠5)
  | kid (p:h.phase=15\/h.phase=16) (e:¬(0<=h.at_/\h.at_<(h.kids.length:Int))\/¬InT c (kidH h).t)
  | slot (p:h.phase=19) (e:¬((1<=h.width/\h.width<=c.width)/\(1<=h.layer/\h.layer<=c.layers)/\(0<=h.item/\h.item<c.items)))
inductive Tr (c:Config) (t:Int) (v:Vw) (h:Thread):Vw->List Mark->Bool->Prop
  | nop (s:Stuck c t v h):Tr c t v h v [] false
  | start {h':Thread} (p:h.phase=1) (s:Start c h h'):Tr c t v h (put (wL v t 0) t h') [] false
  | load (p:h.phase=2):Tr c t v h (put v t { h with phase:=3,x:=v.b h.item 0,y:=allT c.lo c.hi h.batch (v.b h.item 0) }) [] false
  | casF {w:Int} (p:h.phase=3) (hw:Num w) (hw2:1<=h.width/\h.width<=c.width->1<=w/\w<=c.width) (e:v.b h.item 0≠h.x):Tr c t v h (put v t { h with phase:=2,width:=w }) [] false
  | same (p:h.phase=2\/h.phase=25) (e:allT c.lo c.hi h.batch (v.b h.item 0)=v.b h.item 0) :
      Tr c t v h (put v t (ZbL { h with at_:=0,x:=v.b h.item 0 })) (Zgs c h (v.b h.item 0)) (Zey { h with at_:=0,x:=v.b h.item 0 })
  | cas (p:h.phase=3) (e:v.b h.item 0=h.x) :
      Tr c t v h (put (wB v h.item 0 h.y) t (ZbL { h with at_:=0,x:=h.x })) (Zgs c h h.x) (Zey { h with at_:=0,x:=h.x })
  | on25 {h':Thread} (p:h.phase=25) (o:Onw c h h'):Tr c t v h (put v t h') [] false
  | look1 (p:h.phase=4) (k:Zcc (v.b h.item h.node)=1):Tr c t v h (put v t { h with phase:=6,x:=v.b h.item h.node }) [] false
  | look0 (p:h.phase=4) (k:Zcc (v.b h.item h.node)=0):Tr c t v h (put v t { h with phase:=5 }) [] false
  | lookL (p:h.phase=4):Tr c t v h (put v t (Zke h)) [] false
  | take (p:h.phase=5) (n:1<=h.node/\h.node<=ZaI c) (e:v.b h.item h.node=0):Tr c t v h (put (wB v h.item h.node (8*(t+1)+1)) t (ZfC h)) [] false
  | takeF (p:h.phase=5) (e:v.b h.item h.node≠0):Tr c t v h (put v t { h with phase:=4 }) [] false
  | join (p:h.phase=6) (n:1<=h.node/\h.node<=ZaI c) (e:v.b h.item h.node=h.x):Tr c t v h (put (wB v h.item h.node (8*(t+1)+2)) t (Zke { h with phase:=4,stop:=h.node })) [] false
  | joinF (p:h.phase=6) (e:v.b h.item h.node≠h.x):Tr c t v h (put v t { h with phase:=4 }) [] false
  | seeF (p:h.phase=7) (a:0<=h.at_/\h.at_<(h.held.length:Int)) (e:v.b h.item (ZbC h)=8*(t+1)+1):Tr c t v h (put v t { h with phase:=8 }) [] false
  | seeD (p:h.phase=7) (a:0<=h.at_/\h.at_<(h.held.length:Int)) (k:Zcc (v.b h.item (ZbC h))=3):Tr c t v h (put v t { h with phase:=9,who:=v.b h.item (ZbC h) / 8-1 }) [] false
  | close (p:h.phase=8) (a:0<=h.at_/\h.at_<(h.held.length:Int)) (e:v.b h.item (ZbC h)=8*(t+1)+1):Tr c t v h (put (wB v h.item (ZbC h) 0) t (Ztj h)) [] false
  | closeF (p:h.phase=8) (e:v.b h.item (ZbC h)≠8*(t+1)+1):Tr c t v h (put v t { h with phase:=7 }) [] false
  | takeB (p:h.phase=9) (w:InT c h.who):Tr c t v h (put v t { h with batch:=h.batch++v.bx h.who,kids:=h.kids++[⟨h.who,h.batch.length⟩],phase:=10 }) [] false
  | clear (p:h.phase=10) (a:0<=h.at_/\h.at_<(h.held.length:Int)):Tr c t v h (put (wB v h.item (ZbC h) 0) t (Ztj h)) [] false
  | box11 (p:h.phase=11):Tr c t v h (put (wX v t h.batch) t { h with phase:=12 }) [] false
  | dep (p:h.phase=12) (n:1<=h.stop/\h.stop<=ZaI c):Tr c t v h (put (wB v h.item h.stop (8*(t+1)+3)) t { h with phase:=13 }) [] false
  | told (p:h.phase=13) (e:v.l t=5):Tr c t v h (put v t { h with phase:=14 }) [] false
  | res (p:h.phase=14):Tr c t v h (put v t (ZbL { h with at_:=0,x:=v.r t })) [] (Zey { h with at_:=0,x:=v.r t })
  | tell1 (p:h.phase=15) (a:0<=h.at_/\h.at_<(h.kids.length:Int)) (w:InT c (kidH h).t) :
      Tr c t v h (put (wR v (kidH h).t (allT c.lo c.hi (h.batch.take (kidH h).ahead.toNat) h.x)) t { h with phase:=16 }) [] false
  | tell2 (p:h.phase=16) (a:0<=h.at_/\h.at_<(h.kids.length:Int)) (w:InT c (kidH h).t) :
      Tr c t v h (put (wL v (kidH h).t 5) t (ZbL { h with at_:=Zac .i64 (h.at_+1) })) [] (Zey { h with at_:=Zac .i64 (h.at_+1) })
  | box17 (p:h.phase=17):Tr c t v h (put (wX v t h.batch) t { h with phase:=18 }) [] false
  | open18 (p:h.phase=18):Tr c t v h (put (wL v t (Zbx h)) t { h with phase:=19 }) [] false
  | swap20 {r q:Int} (p:h.phase=19) (s:ZaI c<r/\r<Zaz c) (w:InT c q/\q≠t):Tr c t v h (put (wB v h.item r (t+1)) t { h with phase:=20,who:=q }) [] false
  | swap23 {r:Int} (p:h.phase=19) (s:ZaI c<r/\r<Zaz c):Tr c t v h (put (wB v h.item r (t+1)) t { h with phase:=23,left:=c.spin }) [] false
  | shut20 (p:h.phase=20) (e:v.l t=Zbx h):Tr c t v h (put (wL v t 0) t { h with phase:=21 }) [] false
  | shutF (p:h.phase=20) (e:v.l t≠Zbx h):Tr c t v h (put v t { h with phase:=13 }) [] false
  | cap21 (p:h.phase=21) (w:InT c h.who) (e:v.l h.who=Zbx h):Tr c t v h (put (wL v h.who 0) t { h with phase:=22 }) [] false
  | capF (p:h.phase=21):Tr c t v h (put v t { h with phase:=24 }) [] false
  | absorb (p:h.phase=22) (w:InT c h.who):Tr c t v h (put v t { h with batch:=h.batch++v.bx h.who,kids:=h.kids++[⟨h.who,h.batch.length⟩],phase:=25 }) [] false
  | spinF (p:h.phase=23) (e:v.l t≠Zbx h):Tr c t v h (put v t { h with phase:=13 }) [] false
  | spinL (p:h.phase=23) (e:v.l t=Zbx h) (g:0<h.left):Tr c t v h (put v t { h with left:=Zac .i64 (h.left-1) }) [] false
  | spinO (p:h.phase=23) (e:v.l t=Zbx h):Tr c t v h (put v t { h with phase:=26 }) [] false
  | open24 (p:h.phase=24):Tr c t v h (put (wL v t (Zbx h)) t { h with phase:=23,left:=c.spin }) [] false
  | leave {h':Thread} {w:Int} (p:h.phase=26) (e:v.l t=Zbx h) (hw:Num w) (hw2:1<=h.width/\h.width<=c.width->1<=w/\w<=c.width) (o:Onw c { h with width:=w } h'):Tr c t v h (put (wL v t 0) t h') [] false
  | leaveF (p:h.phase=26) (e:v.l t≠Zbx h):Tr c t v h (put v t { h with phase:=13 }) [] false
end Go.Proofs.Mill
namespace Go.Proofs.Mill
theorem Zyq {u:Turn} (hb:begT u=u) (p:u.th.phase=1):ZaR u=ZfN (setW u (ZaX u.c u.t) 0):=by
 unfold ZaR
 rw [hb,if_neg (by omega),if_pos (by unfold Zca;rw [if_pos p])]
 unfold Zca
 rw [if_pos p]
theorem Zve {u:Turn} (hb:begT u=u) (p:13<=u.th.phase/\u.th.phase<=16):ZaR u=(Zb4 u).1:=by
 have c1:¬(Zca u).2=true:=by unfold Zca;rw [if_neg (by omega)];simp
 have c2:(Zb4 u).2=true:=by
   unfold Zb4
   (repeat' split) <;> first | rfl | omega
 unfold ZaR
 rw [hb,if_neg (by omega),if_neg c1,if_pos c2]
theorem Zt4 {u:Turn} (hb:begT u=u) (p:u.th.phase=2\/u.th.phase=3\/u.th.phase=25):ZaR u=(ZbV u).1:=by
 have:=Zur p
 rwa [hb] at this
theorem Zua {u:Turn} (hb:begT u=u) (p:7<=u.th.phase/\u.th.phase<=12):ZaR u=(Zci u).1:=by
 have c1:¬(Zca u).2=true:=by unfold Zca;rw [if_neg (by omega)];simp
 have c2:¬(Zb4 u).2=true:=by
   unfold Zb4
   rw [if_neg (by omega),if_neg (by omega),if_neg (by omega),if_neg (by omega)];simp
 have c3:¬(ZbV u).2=true:=by
   unfold ZbV
   rw [if_neg (by omega),if_neg (by omega)];simp
 have c4:¬(Zcs u).2=true:=by
   unfold Zcs
   rw [if_neg (by omega),if_neg (by omega),if_neg (by omega)];simp
 have c5:(Zci u).2=true:=by
   unfold Zci
   (repeat' split) <;> first | rfl | omega
 unfold ZaR
 rw [hb,if_neg (by omega),if_neg c1,if_neg c2,if_neg c3,if_neg c4,if_pos c5]
theorem Zvl {u:Turn} (hb:begT u=u) (p:4<=u.th.phase/\u.th.phase<=6):ZaR u=(Zcs u).1:=by
 have c1:¬(Zca u).2=true:=by unfold Zca;rw [if_neg (by omega)];simp
 have c2:¬(Zb4 u).2=true:=by
   unfold Zb4
   rw [if_neg (by omega),if_neg (by omega),if_neg (by omega),if_neg (by omega)];simp
 have c3:¬(ZbV u).2=true:=by
   unfold ZbV
   rw [if_neg (by omega),if_neg (by omega)];simp
 have c4:(Zcs u).2=true:=by
   unfold Zcs
   (repeat' split) <;> first | rfl | omega
 unfold ZaR
 rw [hb,if_neg (by omega),if_neg c1,if_neg c2,if_neg c3,if_pos c4]
theorem Zte {u:Turn} (hb:begT u=u) (p:17<=u.th.phase/\u.th.phase<=24\/u.th.phase=26):ZaR u=(ZbY u).1:=by
 have c1:¬(Zca u).2=true:=by unfold Zca;rw [if_neg (by omega)];simp
 have c2:¬(Zb4 u).2=true:=by
   unfold Zb4
   rw [if_neg (by omega),if_neg (by omega),if_neg (by omega),if_neg (by omega)];simp
 have c3:¬(ZbV u).2=true:=by
   unfold ZbV
   rw [if_neg (by omega),if_neg (by omega)];simp
 have c4:¬(Zcs u).2=true:=by
   unfold Zcs
   rw [if_neg (by omega),if_neg (by omega),if_neg (by omega)];simp
 have c5:¬(Zci u).2=true:=by
   unfold Zci
   rw [if_neg (by omega),if_neg (by omega),if_neg (by omega),if_neg (by omega),if_neg (by omega),if_neg (by omega)];simp
 have c6:(ZbY u).2=true:=by
   unfold ZbY
   (repeat' split) <;> first | rfl | omega
 unfold ZaR
 rw [hb,if_neg (by omega),if_neg c1,if_neg c2,if_neg c3,if_neg c4,if_neg c5,if_pos c6]
theorem ZwT {u:Turn} (hb:begT u=u) (p:u.th.phase<1\/26<u.th.phase):ZaR u=u:=by
 unfold ZaR
 by_cases p0:u.th.phase=0
 . rw [if_pos p0]
 have c1:¬(Zca u).2=true:=by unfold Zca;rw [if_neg (by omega)];simp
 have c2:¬(Zb4 u).2=true:=by
   unfold Zb4
   rw [if_neg (by omega),if_neg (by omega),if_neg (by omega),if_neg (by omega)];simp
 have c3:¬(ZbV u).2=true:=by
   unfold ZbV
   rw [if_neg (by omega),if_neg (by omega)];simp
 have c4:¬(Zcs u).2=true:=by
   unfold Zcs
   rw [if_neg (by omega),if_neg (by omega),if_neg (by omega)];simp
 have c5:¬(Zci u).2=true:=by
   unfold Zci
   rw [if_neg (by omega),if_neg (by omega),if_neg (by omega),if_neg (by omega),if_neg (by omega),if_neg (by omega)];simp
 have c6:¬(ZbY u).2=true:=by
   unfold ZbY
   rw [if_neg (by omega),if_neg (by omega),if_neg (by omega),if_neg (by omega),if_neg (by omega),if_neg (by omega),if_neg (by omega),if_neg (by omega),if_neg (by omega)];simp
 rw [hb,if_neg p0,if_neg c1,if_neg c2,if_neg c3,if_neg c4,if_neg c5,if_neg c6]
section
variable {c:Config} {m:Memo} {ts:List Thread} {t w:Int} {th:Thread}
theorem ZqP (hl:(ts.length:Int)=c.threads) (ht:InT c t):vw c m (ts.set t.toNat th)=put (vw c m ts) t th:=by
 unfold vw put
 rw [Zx5 hl ht]
theorem vw_B (h:CfgOK c) (hl:(m.words.length:Int)=sizeOf c) {i r:Int} (hi:ZgH c i r):vw c { m with words:=m.words.set (pl c i r).toNat w } ts=wB (vw c m ts) i r w:=by
 obtain ⟨a,b,d⟩:=ZyV (w:=w) h hl hi
 unfold vw wB
 rw [a,b,d]
theorem vw_L (h:CfgOK c) (hl:(m.words.length:Int)=sizeOf c) {j:Int} (hj:InT c j):vw c { m with words:=m.words.set (ZaX c j).toNat w } ts=wL (vw c m ts) j w:=by
 obtain ⟨a,b,d⟩:=Zzv (w:=w) h hl hj
 rw [(ZeG h hj.1 hj.2).1]
 unfold vw wL
 rw [a,b,d]
theorem vw_R (h:CfgOK c) (hl:(m.words.length:Int)=sizeOf c) {j:Int} (hj:InT c j):vw c { m with words:=m.words.set (Zcw c j).toNat w } ts=wR (vw c m ts) j w:=by
 obtain ⟨a,b,d⟩:=ZCn (w:=w) h hl hj
 have e:Zcw c j=Za0 c+2*j+1:=by unfold Zcw;rw [if_neg (by have:=hj.1;have:=hj.2;omega)]
 rw [e]
 unfold vw wR
 rw [a,b,d]
theorem vw_X (hl:(m.boxes.length:Int)=c.threads) {j:Int} (hj:InT c j) {b:List Entry}:vw c { m with boxes:=m.boxes.set j.toNat b } ts=wX (vw c m ts) j b:=by
 unfold vw wX
 rw [ZCh hl hj]
theorem rd_B {i r:Int} (hi:ZgH c i r):(vw c m ts).b i r=m.words.getD (pl c i r).toNat 0:=if_pos hi
theorem rd_L (h:CfgOK c) {j:Int} (hj:InT c j):(vw c m ts).l j=m.words.getD (ZaX c j).toNat 0:=by
 rw [(ZeG h hj.1 hj.2).1]
 exact if_pos hj
theorem rd_R {j:Int} (hj:InT c j):(vw c m ts).r j=m.words.getD (Zcw c j).toNat 0:=by
 have e:Zcw c j=Za0 c+2*j+1:=by unfold Zcw;rw [if_neg (by have:=hj.1;have:=hj.2;omega)]
 rw [e]
 exact if_pos hj
theorem rd_X {j:Int} (hj:InT c j):(vw c m ts).bx j=m.boxes.getD j.toNat []:=if_pos hj
end
theorem Zl2 {c:Config} (h:CfgOK c) {i n:Int} (h0:nodeAt c i n≠-1):ZgH c i n/\(1<=n/\n<=ZaI c)/\nodeAt c i n=pl c i n:=by
 obtain ⟨a,b,d,e,f,g,k⟩:=ZjP h i n h0
 have:=ZlK h
 exact ⟨⟨⟨d,e⟩,by omega,by omega⟩,⟨f,g⟩,k⟩
theorem Zv4 {c:Config} (h:CfgOK c) {j:Int} (h0:ZaX c j≠-1):InT c j:=by
 have:=Zj1 h h0
 exact ⟨this.2.2.1,this.2.2.2.1⟩
theorem ZCB {c:Config} (h:CfgOK c) {i y k:Int} (h0:ZfE c i y k≠-1):∃ r,ZgH c i r/\ZaI c<r/\r<Zaz c/\ZfE c i y k=pl c i r:=by
 obtain ⟨a,b,d,e,f,g⟩:=Znk h h0
 have hlb:=ZhO h e.1 e.2
 have hn:=ZbT c
 refine ⟨1+ZaI c+(y-1)*c.width+k,⟨d,?_,?_⟩,?_,?_,?_⟩
 . omega
 . unfold Zaz;omega
 . omega
 . unfold Zaz;omega
 . rw [g];show _=i*Zaz c+_;omega
section
variable {c:Config} {t now:Int} {m:Memo} {ts:List Thread} {h:Thread} {tp:Tape}
abbrev trn (c:Config) (t now:Int) (m:Memo) (h:Thread) (tp:Tape):Turn:=⟨c,t,now,m,h,tp,[],false⟩
def Steps (c:Config) (t:Int) (m:Memo) (ts:List Thread) (h:Thread) (u:Turn):Prop:=Tr c t (vw c m ts) h (vw c u.m (ts.set t.toNat u.th)) u.log u.done
theorem ZaU (hl:(ts.length:Int)=c.threads) (ht:InT c t) {u:Turn} {v:Vw} (hv:vw c u.m ts=v) (h1:Tr c t (vw c m ts) h (put v t u.th) u.log u.done):Steps c t m ts h u:=by
 unfold Steps
 rw [ZqP hl ht,hv]
 exact h1
theorem Zu9 (hl:(ts.length:Int)=c.threads) (ht:InT c t) (hh:ts.getD t.toNat Zaw=h):ts.set t.toNat h=ts:=by
 have h0:=ht.1
 have h1:=ht.2
 rw [<- hh,List.getD_eq_getElem?_getD]
 apply List.ext_getElem?
 intro i
 rw [List.getElem?_set]
 split
 . rename_i e
   subst e
   rw [if_pos (by omega),List.getElem?_eq_getElem (by omega)]
   rfl
 . rfl
theorem Zjg (hl:(ts.length:Int)=c.threads) (ht:InT c t) (hh:ts.getD t.toNat Zaw=h) (s:Stuck c t (vw c m ts) h):Steps c t m ts h (trn c t now m h tp):=by
 unfold Steps
 rw [show (trn c t now m h tp).th=h from rfl,Zu9 hl ht hh]
 exact Tr.nop s
theorem ZlD (u:Turn) (hd:u.done=false):(Zcj u).m=u.m/\(Zcj u).th=ZbL u.th/\(Zcj u).log=u.log/\(Zcj u).done=Zey u.th:=by
 unfold Zcj ZbL Zey
 split
 . rename_i x;exact ⟨rfl,rfl,rfl,(decide_eq_true x).symm⟩
 . rename_i x;exact ⟨rfl,rfl,rfl,by rw [decide_eq_false x];exact hd⟩
theorem Zz7 (hC:CfgOK c) (hw:(m.words.length:Int)=sizeOf c) (hl:(ts.length:Int)=c.threads) (ht:InT c t) (hh:ts.getD t.toNat Zaw=h) (p:4<=h.phase/\h.phase<=6):Steps c t m ts h (Zcs (trn c t now m h tp)).1:=by
 unfold Zcs
 have np:=@Zjg c t now m ts h tp hl ht hh
 by_cases p4:h.phase=4
 . rw [if_pos p4]
   show Steps c t m ts h (if nodeAt c h.item h.node=-1 then _ else ZhJ _ (m.words.getD (nodeAt c h.item h.node).toNat 0))
   by_cases e:nodeAt c h.item h.node=-1
   . rw [if_pos e];exact np (.node (by omega) e)
   rw [if_neg e]
   obtain ⟨hb,hn,he⟩:=Zl2 hC e
   have hr:=@rd_B c m ts _ _ hb
   rw [he,<- hr]
   unfold ZhJ
   split
   . rename_i k
     exact ZaU hl ht rfl (Tr.look1 p4 k)
   . rename_i k1
     split
     . rename_i k0
       exact ZaU hl ht rfl (Tr.look0 p4 k0)
     . rename_i k0
       split
       . exact ZaU hl ht rfl (Tr.lookL p4)
       . exact np (.full p4 k1 k0)
 rw [if_neg (show ¬(trn c t now m h tp).th.phase=4 from p4)]
 by_cases p5:h.phase=5
 . rw [if_pos p5]
   show Steps c t m ts h (if nodeAt c h.item h.node=-1 then _ else if m.words.getD (nodeAt c h.item h.node).toNat 0=0 then Zen (Zjt (trn c t now m h tp) (nodeAt c h.item h.node) (8*(t+1)+1)) else _)
   by_cases e:nodeAt c h.item h.node=-1
   . rw [if_pos e];exact np (.node (by omega) e)
   rw [if_neg e]
   obtain ⟨hb,hn,he⟩:=Zl2 hC e
   have hr:=@rd_B c m ts _ _ hb
   rw [he,<- hr]
   split
   . rename_i k
     have e2:(Zen (Zjt (trn c t now m h tp) (pl c h.item h.node) (8*(t+1)+1))).th=ZfC h/\(Zen (Zjt (trn c t now m h tp) (pl c h.item h.node) (8*(t+1)+1))).m={ m with words:=m.words.set (pl c h.item h.node).toNat (8*(t+1)+1) }/\(Zen (Zjt (trn c t now m h tp) (pl c h.item h.node) (8*(t+1)+1))).log=[]/\(Zen (Zjt (trn c t now m h tp) (pl c h.item h.node) (8*(t+1)+1))).done=false:=by
       unfold Zen ZfC
       split
       . exact ⟨rfl,rfl,rfl,rfl⟩
       . exact ⟨rfl,rfl,rfl,rfl⟩
     refine ZaU hl ht (v:=wB (vw c m ts) h.item h.node (8*(t+1)+1)) ?_ ?_
     . rw [e2.2.1];exact vw_B hC hw hb
     . rw [e2.1,e2.2.2.1,e2.2.2.2];exact Tr.take p5 hn k
   . rename_i k;exact ZaU hl ht rfl (Tr.takeF p5 k)
 rw [if_neg (show ¬(trn c t now m h tp).th.phase=5 from p5)]
 have p6:h.phase=6:=by omega
 rw [if_pos (show (trn c t now m h tp).th.phase=6 from p6)]
 show Steps c t m ts h (if nodeAt c h.item h.node=-1 then _ else if m.words.getD (nodeAt c h.item h.node).toNat 0=h.x then ZoV (Zjt (trn c t now m h tp) (nodeAt c h.item h.node) (8*(t+1)+2)) else _)
 by_cases e:nodeAt c h.item h.node=-1
 . rw [if_pos e];exact np (.node (by omega) e)
 rw [if_neg e]
 obtain ⟨hb,hn,he⟩:=Zl2 hC e
 have hr:=@rd_B c m ts _ _ hb
 rw [he,<- hr]
 split
 . rename_i k
   exact ZaU hl ht (vw_B hC hw hb) (Tr.join p6 hn k)
 . rename_i k;exact ZaU hl ht rfl (Tr.joinF p6 k)
theorem Zy5 (hC:CfgOK c) (hw:(m.words.length:Int)=sizeOf c) (hx:(m.boxes.length:Int)=c.threads) (hl:(ts.length:Int)=c.threads) (ht:InT c t) (hh:ts.getD t.toNat Zaw=h) (p:7<=h.phase/\h.phase<=12):Steps c t m ts h (Zci (trn c t now m h tp)).1:=by
 have np:=@Zjg c t now m ts h tp hl ht hh
 have hno:Zbl (trn c t now m h tp)=-1->¬(0<=h.at_/\h.at_<(h.held.length:Int))\/nodeAt c h.item (ZbC h)=-1:=by
   intro h0
   unfold Zbl at h0
   by_cases g:(trn c t now m h tp).th.at_<0\/(trn c t now m h tp).th.at_>=((trn c t now m h tp).th.held.length:Int)
   . have g':h.at_<0\/h.at_>=(h.held.length:Int):=g
     exact .inl (by omega)
   . rw [if_neg g] at h0;exact .inr h0
 have hat:Zbl (trn c t now m h tp)≠-1->ZgH c h.item (ZbC h)/\Zbl (trn c t now m h tp)=pl c h.item (ZbC h)/\(0<=h.at_/\h.at_<(h.held.length:Int)):=by
   intro h0
   unfold Zbl at h0 ⊢
   by_cases g:(trn c t now m h tp).th.at_<0\/(trn c t now m h tp).th.at_>=((trn c t now m h tp).th.held.length:Int)
   . rw [if_pos g] at h0;exact (h0 rfl).elim
   . rw [if_neg g] at h0 ⊢
     obtain ⟨a,b,d⟩:=Zl2 hC h0
     have g':¬(h.at_<0\/h.at_>=(h.held.length:Int)):=g
     exact ⟨a,d,by omega⟩
 unfold Zci
 by_cases p7:h.phase=7
 . rw [if_pos p7]
   show Steps c t m ts h (if Zbl (trn c t now m h tp)=-1 then _ else if m.words.getD (Zbl (trn c t now m h tp)).toNat 0=8*(t+1)+1 then _ else if Zcc (m.words.getD (Zbl (trn c t now m h tp)).toNat 0)=3 then { (trn c t now m h tp) with th:={ h with phase:=9,who:=m.words.getD (Zbl (trn c t now m h tp)).toNat 0 / 8-1 } } else _)
   by_cases e:Zbl (trn c t now m h tp)=-1
   . rw [if_pos e];exact np (.held (by omega) (hno e))
   rw [if_neg e]
   obtain ⟨hb,he,ha⟩:=hat e
   have hr:=@rd_B c m ts _ _ hb
   rw [he,<- hr]
   split
   . rename_i k;exact ZaU hl ht rfl (Tr.seeF p7 ha k)
   . rename_i k1
     split
     . rename_i k;exact ZaU hl ht rfl (Tr.seeD p7 ha k)
     . rename_i k3;exact np (.join p7 k1 k3)
 rw [if_neg (show ¬(trn c t now m h tp).th.phase=7 from p7)]
 by_cases p8:h.phase=8
 . rw [if_pos p8]
   show Steps c t m ts h (if Zbl (trn c t now m h tp)=-1 then _ else if m.words.getD (Zbl (trn c t now m h tp)).toNat 0=8*(t+1)+1 then ZoX (setW (trn c t now m h tp) (Zbl (trn c t now m h tp)) 0) else _)
   by_cases e:Zbl (trn c t now m h tp)=-1
   . rw [if_pos e];exact np (.held (by omega) (hno e))
   rw [if_neg e]
   obtain ⟨hb,he,ha⟩:=hat e
   have hr:=@rd_B c m ts _ _ hb
   rw [he,<- hr]
   split
   . rename_i k;exact ZaU hl ht (vw_B hC hw hb) (Tr.close p8 ha k)
   . rename_i k;exact ZaU hl ht rfl (Tr.closeF p8 k)
 rw [if_neg (show ¬(trn c t now m h tp).th.phase=8 from p8)]
 by_cases p9:h.phase=9
 . rw [if_pos p9]
   show Steps c t m ts h (if h.who<0\/h.who>=(m.boxes.length:Int) then _ else _)
   by_cases e:h.who<0\/h.who>=(m.boxes.length:Int)
   . rw [if_pos e];exact np (.who (.inl p9) (fun x=>by unfold InT at x;omega))
   rw [if_neg e]
   have hj:InT c h.who:=⟨by omega,by omega⟩
   have hr:=@rd_X c m ts _ hj
   refine ZaU hl ht rfl ?_
   have:=Tr.takeB (c:=c) (t:=t) (v:=vw c m ts) (h:=h) p9 hj
   rw [hr] at this
   exact this
 rw [if_neg (show ¬(trn c t now m h tp).th.phase=9 from p9)]
 by_cases p10:h.phase=10
 . rw [if_pos p10]
   show Steps c t m ts h (if Zbl (trn c t now m h tp)=-1 then _ else ZoX (setW (trn c t now m h tp) (Zbl (trn c t now m h tp)) 0))
   by_cases e:Zbl (trn c t now m h tp)=-1
   . rw [if_pos e];exact np (.held (by omega) (hno e))
   rw [if_neg e]
   obtain ⟨hb,he,ha⟩:=hat e
   rw [he]
   exact ZaU hl ht (vw_B hC hw hb) (Tr.clear p10 ha)
 rw [if_neg (show ¬(trn c t now m h tp).th.phase=10 from p10)]
 by_cases p11:h.phase=11
 . rw [if_pos p11]
   exact ZaU hl ht (vw_X hx ht) (Tr.box11 p11)
 rw [if_neg (show ¬(trn c t now m h tp).th.phase=11 from p11)]
 have p12:h.phase=12:=by omega
 rw [if_pos (show (trn c t now m h tp).th.phase=12 from p12)]
 show Steps c t m ts h (if nodeAt c h.item h.stop=-1 then _ else { setW (trn c t now m h tp) (nodeAt c h.item h.stop) (8*(t+1)+3) with th:={ h with phase:=13 } })
 by_cases e:nodeAt c h.item h.stop=-1
 . rw [if_pos e];exact np (.stop p12 e)
 rw [if_neg e]
 obtain ⟨hb,hn,he⟩:=Zl2 hC e
 rw [he]
 exact ZaU hl ht (vw_B hC hw hb) (Tr.dep p12 hn)
theorem ZzI (hC:CfgOK c) (hw:(m.words.length:Int)=sizeOf c) (hl:(ts.length:Int)=c.threads) (ht:InT c t) (hh:ts.getD t.toNat Zaw=h) (p:13<=h.phase/\h.phase<=16):Steps c t m ts h (Zb4 (trn c t now m h tp)).1:=by
 have np:=@Zjg c t now m ts h tp hl ht hh
 have kid:¬ZgV (trn c t now m h tp)->(0<=h.at_/\h.at_<(h.kids.length:Int)):=by
   intro g
   have g':¬(h.at_<0\/h.at_>=(h.kids.length:Int)):=g
   omega
 unfold Zb4
 by_cases p13:h.phase=13
 . rw [if_pos p13]
   show Steps c t m ts h (if m.words.getD (ZaX c t).toNat 0=5 then _ else _)
   rw [<- @rd_L c m ts hC t ht]
   split
   . rename_i k;exact ZaU hl ht rfl (Tr.told p13 k)
   . rename_i k;exact np (.told p13 k)
 rw [if_neg (show ¬(trn c t now m h tp).th.phase=13 from p13)]
 by_cases p14:h.phase=14
 . rw [if_pos p14]
   obtain ⟨a,b,d,e⟩:=ZlD { (trn c t now m h tp) with th:={ h with at_:=0,x:=m.words.getD (Zcw c t).toNat 0 } } rfl
   refine ZaU hl ht (v:=vw c m ts) (by rw [show (Zcj { (trn c t now m h tp) with th:={ h with at_:=0,x:=m.words.getD (Zcw c t).toNat 0 } }).m=_ from a]) ?_
   show Tr c t (vw c m ts) h (put (vw c m ts) t (Zcj { (trn c t now m h tp) with th:={ h with at_:=0,x:=m.words.getD (Zcw c t).toNat 0 } }).th) (Zcj _).log (Zcj _).done
   rw [b,d,e,<- @rd_R c m ts t ht]
   exact Tr.res p14
 rw [if_neg (show ¬(trn c t now m h tp).th.phase=14 from p14)]
 by_cases p15:h.phase=15
 . rw [if_pos p15]
   show Steps c t m ts h (if ZgV (trn c t now m h tp) then _ else if Zcw c (kidH h).t=-1 then _ else { setW (trn c t now m h tp) (Zcw c (kidH h).t) (allT c.lo c.hi (h.batch.take (kidH h).ahead.toNat) h.x) with th:={ h with phase:=16 } })
   by_cases g:ZgV (trn c t now m h tp)
   . rw [if_pos g];exact np (.kid (.inl p15) (.inl (fun x=>by have g':h.at_<0\/h.at_>=(h.kids.length:Int):=g;omega)))
   rw [if_neg g]
   by_cases e:Zcw c (kidH h).t=-1
   . rw [if_pos e];exact np (.kid (.inl p15) (.inr (fun x=>by
       have h1:=Za8 hC
       unfold Zcw at e
       rw [if_neg (by unfold InT at x;omega)] at e
       unfold InT at x
       omega)))
   rw [if_neg e]
   have hj:InT c (kidH h).t:=by
     unfold Zcw at e
     split at e
     . exact (e rfl).elim
     . exact ⟨by omega,by omega⟩
   exact ZaU hl ht (vw_R hC hw hj) (Tr.tell1 p15 (kid g) hj)
 rw [if_neg (show ¬(trn c t now m h tp).th.phase=15 from p15)]
 have p16:h.phase=16:=by omega
 rw [if_pos (show (trn c t now m h tp).th.phase=16 from p16)]
 show Steps c t m ts h (if ZgV (trn c t now m h tp) then _ else if ZaX c (kidH h).t=-1 then _ else Zcj { setW (trn c t now m h tp) (ZaX c (kidH h).t) 5 with th:={ h with at_:=Zac .i64 (h.at_+1) } })
 by_cases g:ZgV (trn c t now m h tp)
 . rw [if_pos g];exact np (.kid (.inr p16) (.inl (fun x=>by have g':h.at_<0\/h.at_>=(h.kids.length:Int):=g;omega)))
 rw [if_neg g]
 by_cases e:ZaX c (kidH h).t=-1
 . rw [if_pos e];exact np (.kid (.inr p16) (.inr (fun x=>by
     have h1:=Za8 hC
     have h2:=ZeG hC x.1 x.2
     omega)))
 rw [if_neg e]
 have hj:InT c (kidH h).t:=Zv4 hC e
 obtain ⟨a,b,d,f⟩:=ZlD { setW (trn c t now m h tp) (ZaX c (kidH h).t) 5 with th:={ h with at_:=Zac .i64 (h.at_+1) } } rfl
 refine ZaU hl ht (v:=wL (vw c m ts) (kidH h).t 5) (by rw [a];exact vw_L hC hw hj) ?_
 rw [b,d,f]
 exact Tr.tell2 p16 (kid g) hj
theorem Zyn (hC:CfgOK c) (hw:(m.words.length:Int)=sizeOf c) (hl:(ts.length:Int)=c.threads) (ht:InT c t) (hi:0<=h.item/\h.item<c.items) (hwd:Num h.width) (p:h.phase=2\/h.phase=3\/h.phase=25):Steps c t m ts h (ZbV (trn c t now m h tp)).1:=by
 have hb0:ZgH c h.item 0:=⟨hi,Int.le_refl 0,by have:=ZcJ hC;omega⟩
 have hcell:cellAt c h.item=pl c h.item 0:=by unfold cellAt;rw [if_neg (by omega)];simp [pl]
 have hr:=@rd_B c m ts _ _ hb0
 have hcom:∀ (v:Turn) (x:Int),v.done=false->v.log=[]->v.c=c->v.th=h->(Ze0 v x).m=v.m/\(Ze0 v x).th=ZbL { h with at_:=0,x:=x }/\(Ze0 v x).log=Zgs c h x/\(Ze0 v x).done=Zey { h with at_:=0,x:=x }:=by
   intro v x h1 h2 h3 h4
   obtain ⟨a,b,d,e⟩:=ZlD { v with th:={ v.th with at_:=0,x:=x },log:=v.log++Zqh v x } h1
   refine ⟨a,by rw [<- h4];exact b,?_,by rw [<- h4];exact e⟩
   refine Eq.trans d ?_
   show v.log++Zqh v x=_
   rw [h2,List.nil_append]
   unfold Zqh Zgs
   rw [h3,h4]
 unfold ZbV
 by_cases p3:h.phase=3
 . rw [if_pos p3]
   show Steps c t m ts h (Zef (trn c t now m h tp))
   unfold Zef
   show Steps c t m ts h (if m.words.getD (cellAt c h.item).toNat 0=h.x then Ze0 (setW (trn c t now m h tp) (cellAt c h.item) h.y) h.x else _)
   rw [hcell,<- hr]
   split
   . rename_i k
     obtain ⟨a,b,d,e⟩:=hcom (setW (trn c t now m h tp) (pl c h.item 0) h.y) h.x rfl rfl rfl rfl
     refine ZaU hl ht (v:=wB (vw c m ts) h.item 0 h.y) (by rw [a];exact vw_B hC hw hb0) ?_
     rw [b,d,e]
     exact Tr.cas p3 k
   . rename_i kne
     have hwc:=hC.width
     have hw2:1<=h.width/\h.width<=c.width->1<=(if h.width<c.width then (if c.width<Zac .i64 (h.width*2) then c.width else Zac .i64 (h.width*2)) else (if c.width<h.width then c.width else h.width))/\(if h.width<c.width then (if c.width<Zac .i64 (h.width*2) then c.width else Zac .i64 (h.width*2)) else (if c.width<h.width then c.width else h.width))<=c.width:=by
       intro k
       rw [Zas (n:=h.width*2) (by omega) (by omega)]
       (repeat' split) <;> omega
     refine ZaU hl ht rfl (Tr.casF p3 ?_ hw2 kne)
     have hcw:Num c.width:=⟨by omega,by omega⟩
     split
     . split
       . exact hcw
       . exact ZmS _
     . split
       . exact hcw
       . exact hwd
 rw [if_neg (show ¬(trn c t now m h tp).th.phase=3 from p3),if_pos (show (trn c t now m h tp).th.phase=2\/(trn c t now m h tp).th.phase=25 from by show h.phase=2\/h.phase=25;omega)]
 show Steps c t m ts h (if allT c.lo c.hi h.batch (m.words.getD (cellAt c h.item).toNat 0)=m.words.getD (cellAt c h.item).toNat 0 then Ze0 (trn c t now m h tp) (m.words.getD (cellAt c h.item).toNat 0) else if h.phase=25 then Zdy (trn c t now m h tp) else { (trn c t now m h tp) with th:={ h with phase:=3,x:=m.words.getD (cellAt c h.item).toNat 0,y:=allT c.lo c.hi h.batch (m.words.getD (cellAt c h.item).toNat 0) } })
 rw [hcell,<- hr]
 split
 . rename_i k
   obtain ⟨a,b,d,e⟩:=hcom (trn c t now m h tp) ((vw c m ts).b h.item 0) rfl rfl rfl rfl
   refine ZaU hl ht (v:=vw c m ts) (by rw [a]) ?_
   rw [b,d,e]
   exact Tr.same (by omega) k
 . split
   . rename_i k k2
     unfold Zdy
     split
     . rename_i g;exact ZaU hl ht rfl (Tr.on25 k2 (Onw.up g.1))
     . exact ZaU hl ht rfl (Tr.on25 k2 Onw.cell)
   . exact ZaU hl ht rfl (Tr.load (by omega))
theorem ZAh (hC:CfgOK c) (hw:(m.words.length:Int)=sizeOf c) (hl:(ts.length:Int)=c.threads) (ht:InT c t) (p:h.phase=1):Steps c t m ts h (ZfN (setW (trn c t now m h tp) (ZaX c t) 0)):=by
 have e:=@vw_L c m ts 0 hC hw t ht
 unfold ZfN
 split
 . rename_i g;exact ZaU hl ht e (Tr.start p (Start.climb g.2))
 . split
   . rename_i g;exact ZaU hl ht e (Tr.start p (Start.funnel g.2))
   . exact ZaU hl ht e (Tr.start p Start.cell)
theorem Zzx (tp:Tape) {n:Int} (h0:1<=n) (h1:n<=1000):0<=(ZfJ tp n).1/\(ZfJ tp n).1<n:=by
 unfold ZfJ
 rw [if_neg (by omega)]
 have hm:=Int.tmod_lt_of_pos (Zez tp).1 (show 0<n by omega)
 have hm2 : -n<(Zez tp).1.tmod n:=by
   have:=Int.neg_lt_of_neg_lt (show -((Zez tp).1.tmod n)<n by rw [<- Int.neg_tmod];exact Int.tmod_lt_of_pos _ (by omega))
   omega
 show 0<=(if (Zez tp).1.tmod n<0 then Zac .i64 ((Zez tp).1.tmod n+n) else (Zez tp).1.tmod n)/\(if (Zez tp).1.tmod n<0 then Zac .i64 ((Zez tp).1.tmod n+n) else (Zez tp).1.tmod n)<n
 split
 . rw [Zas (by omega) (by omega)];omega
 . omega
theorem ZyF (hC:CfgOK c) {i y k n:Int} (hi:0<=i/\i<c.items) (hy:1<=y/\y<=c.layers) (hk:0<=k/\k<n) (hn:n<=c.width):ZfE c i y k≠-1:=by
 have h1:=Zdv hC (i:=i) hi.1 (by omega)
 have h2:=ZhO hC hy.1 hy.2
 have h3:=ZbT c
 unfold ZfE
 rw [if_neg (by omega)]
 omega
theorem Zxl (hC:CfgOK c) (hw:(m.words.length:Int)=sizeOf c) (hx:(m.boxes.length:Int)=c.threads) (hl:(ts.length:Int)=c.threads) (ht:InT c t) (hh:ts.getD t.toNat Zaw=h) (hwd:Num h.width) (p:17<=h.phase/\h.phase<=24\/h.phase=26):Steps c t m ts h (ZbY (trn c t now m h tp)).1:=by
 have np:=@Zjg c t now m ts h tp hl ht hh
 have hr:=@rd_L c m ts hC t ht
 have hmine:ZeJ (trn c t now m h tp)=ZaX c t:=rfl
 have hne:ZaX c t≠-1:=by
   have h1:=ZeG hC ht.1 ht.2
   have:=Za8 hC
   omega
 unfold ZbY
 by_cases p17:h.phase=17
 . rw [if_pos p17]
   exact ZaU hl ht (vw_X hx ht) (Tr.box17 p17)
 rw [if_neg (show ¬(trn c t now m h tp).th.phase=17 from p17)]
 by_cases p18:h.phase=18
 . rw [if_pos p18]
   exact ZaU hl ht (vw_L hC hw ht) (Tr.open18 p18)
 rw [if_neg (show ¬(trn c t now m h tp).th.phase=18 from p18)]
 by_cases p19:h.phase=19
 . rw [if_pos p19]
   show Steps c t m ts h (swapT (trn c t now m h tp))
   unfold swapT
   by_cases e:Zb8 (trn c t now m h tp)=-1
   . rw [if_pos e];exact np (.slot p19 (fun x=>ZyF hC x.2.2 x.2.1 (Zzx tp x.1.1 (by have:=hC.width;omega)) x.1.2 e))
   rw [if_neg e]
   obtain ⟨r,hb,r0,r1,hs⟩:=ZCB hC e
   have hs:Zb8 (trn c t now m h tp)=pl c h.item r:=hs
   split
   . rename_i g
     obtain ⟨g1,g2,g3⟩:=g
     have g2:Za3 (trn c t now m h tp) (Zb8 (trn c t now m h tp))<=c.threads:=g2
     have g3:Za3 (trn c t now m h tp) (Zb8 (trn c t now m h tp))≠t+1:=g3
     exact ZaU hl ht (by show vw c { m with words:=m.words.set (Zb8 (trn c t now m h tp)).toNat (t+1) } ts=_;rw [hs];exact vw_B hC hw hb) (Tr.swap20 p19 ⟨r0,r1⟩ ⟨⟨by omega,by omega⟩,by omega⟩)
   . exact ZaU hl ht (by show vw c { m with words:=m.words.set (Zb8 (trn c t now m h tp)).toNat (t+1) } ts=_;rw [hs];exact vw_B hC hw hb) (Tr.swap23 p19 ⟨r0,r1⟩)
 rw [if_neg (show ¬(trn c t now m h tp).th.phase=19 from p19)]
 by_cases p20:h.phase=20
 . rw [if_pos p20]
   show Steps c t m ts h (ZbW (trn c t now m h tp) t 21 13)
   unfold ZbW
   show Steps c t m ts h (if ZaX c t=-1 then _ else if m.words.getD (ZaX c t).toNat 0=Zbx h then { setW (trn c t now m h tp) (ZaX c t) 0 with th:={ h with phase:=21 } } else { (trn c t now m h tp) with th:={ h with phase:=13 } })
   rw [if_neg hne,<- hr]
   split
   . rename_i k;exact ZaU hl ht (vw_L hC hw ht) (Tr.shut20 p20 k)
   . rename_i k;exact ZaU hl ht rfl (Tr.shutF p20 k)
 rw [if_neg (show ¬(trn c t now m h tp).th.phase=20 from p20)]
 by_cases p21:h.phase=21
 . rw [if_pos p21]
   show Steps c t m ts h (ZbW (trn c t now m h tp) h.who 22 24)
   unfold ZbW
   show Steps c t m ts h (if ZaX c h.who=-1 then _ else if m.words.getD (ZaX c h.who).toNat 0=Zbx h then { setW (trn c t now m h tp) (ZaX c h.who) 0 with th:={ h with phase:=22 } } else { (trn c t now m h tp) with th:={ h with phase:=24 } })
   by_cases e:ZaX c h.who=-1
   . rw [if_pos e];exact np (.who (.inr (.inl p21)) (fun x=>by
       have h1:=Za8 hC
       have h2:=ZeG hC x.1 x.2
       omega))
   rw [if_neg e]
   have hj:=Zv4 hC e
   rw [<- @rd_L c m ts hC h.who hj]
   split
   . rename_i k;exact ZaU hl ht (vw_L hC hw hj) (Tr.cap21 p21 hj k)
   . exact ZaU hl ht rfl (Tr.capF p21)
 rw [if_neg (show ¬(trn c t now m h tp).th.phase=21 from p21)]
 by_cases p22:h.phase=22
 . rw [if_pos p22]
   show Steps c t m ts h (ZfS (trn c t now m h tp))
   unfold ZfS
   by_cases e:h.who<0\/h.who>=(m.boxes.length:Int)
   . rw [if_pos (show (trn c t now m h tp).th.who<0\/(trn c t now m h tp).th.who>=((trn c t now m h tp).m.boxes.length:Int) from e)];exact np (.who (.inr (.inr p22)) (fun x=>by unfold InT at x;omega))
   rw [if_neg (show ¬((trn c t now m h tp).th.who<0\/(trn c t now m h tp).th.who>=((trn c t now m h tp).m.boxes.length:Int)) from e)]
   have hj:InT c h.who:=⟨by omega,by omega⟩
   have hr2:=@rd_X c m ts _ hj
   refine ZaU hl ht rfl ?_
   have:=Tr.absorb (c:=c) (t:=t) (v:=vw c m ts) (h:=h) p22 hj
   rw [hr2] at this
   exact this
 rw [if_neg (show ¬(trn c t now m h tp).th.phase=22 from p22)]
 by_cases p23:h.phase=23
 . rw [if_pos p23]
   show Steps c t m ts h (Zja (trn c t now m h tp))
   unfold Zja
   show Steps c t m ts h (if m.words.getD (ZaX c t).toNat 0≠Zbx h then { (trn c t now m h tp) with th:={ h with phase:=13 } } else _)
   rw [<- hr]
   split
   . rename_i k;exact ZaU hl ht rfl (Tr.spinF p23 k)
   . rename_i k
     have k:=Classical.not_not.1 k
     split
     . rename_i g;exact ZaU hl ht rfl (Tr.spinL p23 k g.1)
     . exact ZaU hl ht rfl (Tr.spinO p23 k)
 rw [if_neg (show ¬(trn c t now m h tp).th.phase=23 from p23)]
 by_cases p24:h.phase=24
 . rw [if_pos p24]
   exact ZaU hl ht (vw_L hC hw ht) (Tr.open24 p24)
 rw [if_neg (show ¬(trn c t now m h tp).th.phase=24 from p24)]
 have p26:h.phase=26:=by omega
 rw [if_pos (show (trn c t now m h tp).th.phase=26 from p26)]
 show Steps c t m ts h (Zhd (trn c t now m h tp))
 unfold Zhd
 show Steps c t m ts h (if m.words.getD (ZaX c t).toNat 0=Zbx h then Zdy { setW (trn c t now m h tp) (ZaX c t) 0 with th:={ h with phase:=26,width:=if h.width / 2>1 then h.width / 2 else 1 } } else { (trn c t now m h tp) with th:={ h with phase:=13 } })
 rw [<- hr]
 have hnw:Num (if h.width / 2>1 then h.width / 2 else 1):=by
   obtain ⟨a,b⟩:=hwd
   split
   . exact ⟨by omega,by omega⟩
   . exact ⟨by omega,by omega⟩
 have hnw2:1<=h.width/\h.width<=c.width->1<=(if h.width / 2>1 then h.width / 2 else 1)/\(if h.width / 2>1 then h.width / 2 else 1)<=c.width:=by
   intro k
   split <;> omega
 obtain ⟨wd,hwd2⟩:∃ wd,wd=if h.width / 2>1 then h.width / 2 else 1:=⟨_,rfl⟩
 rw [<- hwd2] at hnw hnw2 ⊢
 split
 . rename_i k
   unfold Zdy
   split
   . rename_i g;exact ZaU hl ht (vw_L hC hw ht) (Tr.leave p26 k hnw hnw2 (Onw.up g.1))
   . exact ZaU hl ht (vw_L hC hw ht) (Tr.leave p26 k hnw hnw2 Onw.cell)
 . rename_i k;exact ZaU hl ht rfl (Tr.leaveF p26 k)
theorem Zwx (hC:CfgOK c) (hw:(m.words.length:Int)=sizeOf c) (hx:(m.boxes.length:Int)=c.threads) (hl:(ts.length:Int)=c.threads) (ht:InT c t) (hh:ts.getD t.toNat Zaw=h) (hi:0<=h.item/\h.item<c.items) (hwd:Num h.width):Steps c t m ts h (ZaR (trn c t now m h tp)):=by
 have hb:begT (trn c t now m h tp)=trn c t now m h tp:=rfl
 by_cases q0:h.phase<1\/26<h.phase
 . rw [ZwT hb q0];exact Zjg hl ht hh (.out q0)
 by_cases q1:h.phase=1
 . rw [Zyq hb q1];exact ZAh hC hw hl ht q1
 by_cases q2:h.phase=2\/h.phase=3\/h.phase=25
 . rw [Zt4 hb q2];exact Zyn hC hw hl ht hi hwd q2
 by_cases q3:4<=h.phase/\h.phase<=6
 . rw [Zvl hb q3];exact Zz7 hC hw hl ht hh q3
 by_cases q4:7<=h.phase/\h.phase<=12
 . rw [Zua hb q4];exact Zy5 hC hw hx hl ht hh q4
 by_cases q5:13<=h.phase/\h.phase<=16
 . rw [Zve hb q5];exact ZzI hC hw hl ht hh q5
 . have q6:17<=h.phase/\h.phase<=24\/h.phase=26:=by omega
   rw [Zte hb q6];exact Zxl hC hw hx hl ht hh hwd (by omega)
end
end Go.Proofs.Mill
namespace Go.Proofs.Mill
def ZaV (h:Thread):List Kid:=if h.phase=0 then [] else if h.phase=15\/h.phase=16 then h.kids.drop h.at_.toNat else h.kids
def Za7 (h:Thread):List Int:=if 4<=h.phase/\h.phase<=6 then h.held else if 7<=h.phase/\h.phase<=10 then h.held.drop h.at_.toNat else []
def Tab (ro p l o:Int):Prop := (ro=0/\p=0/\(l=0\/l=5))\/(ro=1/\((1<=p/\p<=12)\/p=17\/p=18\/p=21\/p=22\/p=24\/p=25)/\(l=0\/(p=1/\l=5)))\/(ro=2/\p=13/\l=0) \/ (ro=3/\(p=19\/p=20\/p=23\/p=26)/\l=o)\/((ro=4\/ro=5)/\(p=13\/p=19\/p=20\/p=23\/p=26)/\l=0) \/ (ro=6/\(p=13\/p=14\/p=19\/p=20\/p=23\/p=26)/\l=5)\/(ro=7/\(p=15\/p=16)/\(l=0\/l=5))
def Ari (c:Config) (h:Thread) (l ro:Int):Prop := Tab ro h.phase l (Zbx h)/\(h.phase≠0->0<=h.item/\h.item<c.items)/\(17<=h.phase->1<=h.layer/\h.layer<=c.layers) /\ (h.phase≠0->(0<=h.stop/\h.stop<=ZaI c))/\((4<=h.phase/\h.phase<=6\/h.phase=1)->h.stop=0)/\(h.phase=11\/h.phase=12\/ro=2->1<=h.stop) /\ (7<=h.phase/\h.phase<=10->0<=h.at_/\h.at_<(h.held.length:Int))/\(h.phase=15\/h.phase=16->0<=h.at_/\h.at_<(h.kids.length:Int))
structure LocT (c:Config) (h:Thread) (l r:Int) (bx:List Entry) (ro:Int) (co:Option Int):Prop where
  ari:Ari c h l ro
  box:((2<=ro/\ro<=4)\/(ro=1/\(h.phase=12\/h.phase=18\/h.phase=21\/h.phase=24)))->bx=h.batch
  boxl:bx.length<=16
  y:h.phase=3->h.y=allT c.lo c.hi h.batch h.x
  nx:Num h.x
  nw:Num h.width
  held:h.phase≠0->h.held.Pairwise (· > ·)/\∀ m∈h.held,1<=m/\m<=ZaI c
  node:4<=h.phase/\h.phase<=6->(1<=h.node/\h.node<=ZaI c)/\∀ m∈h.held,h.node<m
  x6:h.phase=6->∃ k,InT c k/\h.x=8*(k+1)+1
  one:h.phase=1->h.held=[]/\h.kids=[]/\(c.depth>0->1<=h.node/\h.node<=ZaI c)
  tell:ro=7->co=some h.x
  told:ro=6->co=some r
  kidsN:h.phase≠0->h.kids.length+1<=h.batch.length
  ops:h.phase≠0->∀ e∈h.batch,Num e.op.v
theorem LocT.tab {c:Config} {h:Thread} {l r:Int} {bx:List Entry} {ro:Int} {co:Option Int} (L:LocT c h l r bx ro co):Tab ro h.phase l (Zbx h):=L.ari.1
theorem LocT.item {c:Config} {h:Thread} {l r:Int} {bx:List Entry} {ro:Int} {co:Option Int} (L:LocT c h l r bx ro co) (hp:h.phase≠0):0<=h.item/\h.item<c.items:=L.ari.2.1 hp
structure Tree (c:Config) (b:Int->Int->Int) (th:Int->Thread) (ro pa:Int->Int):Prop where
  t1:∀ i m,0<=i->i<c.items->1<=m->m<=ZaI c->b i m=0\/∃ h k,InT c h/\(1<=k/\k<=3)/\b i m=8*(h+1)+k
  t2:∀ j,InT c j->∀ m∈Za7 (th j),b (th j).item m≠0/\∀ h,b (th j).item m=8*(h+1)+1->h=j
  t3:∀ j k m,InT c j->InT c k->(th j).item=(th k).item->m∈Za7 (th j)->m∈Za7 (th k)->j=k
  t4:∀ j,InT c j->7<=(th j).phase/\(th j).phase<=12/\0<(th j).stop->b (th j).item (th j).stop=8*(j+1)+2
  t5:∀ j,InT c j->ro j=2->b (th j).item (th j).stop=8*(j+1)+3
  t6:∀ i m j,0<=i->i<c.items->1<=m->m<=ZaI c->InT c j->b i m=8*(j+1)+3->(ro j=2/\(th j).item=i/\(th j).stop=m)\/∃ h,InT c h/\(th h).item=i/\(th h).phase=10/\ZbC (th h)=m
  t7:∀ j,InT c j->(th j).phase=9\/(th j).phase=10->InT c (th j).who/\b (th j).item (ZbC (th j))=8*((th j).who+1)+3/\((th j).phase=10->ro (th j).who=5/\pa (th j).who=j)
def VN (v:Vw):Prop:=(∀ i r,Num (v.b i r))/\(∀ j,Num (v.l j))/\∀ j,Num (v.r j)
structure Inv (c:Config) (v:Vw) (ro pa rt:Int->Int) (co:Int->Option Int):Prop where
  core:Core c (fun j=>(v.th j).batch) (fun j=>ZaV (v.th j)) (fun j=>(v.th j).op) (fun j=>(v.th j).item) ro pa rt co
  loc:∀ j,InT c j->LocT c (v.th j) (v.l j) (v.r j) (v.bx j) (ro j) (co j)
  pnd1:∀ j,ro j=4->InT c (pa j)/\(v.th (pa j)).phase=22/\(v.th (pa j)).who=j/\(v.th (pa j)).item=(v.th j).item
  pnd2:∀ p,InT c p->(v.th p).phase=22->ro (v.th p).who=4/\pa (v.th p).who=p
  r16:∀ p,InT c p->(v.th p).phase=16->co (kidH (v.th p)).t=some (v.r (kidH (v.th p)).t)
  tree:Tree c v.b v.th ro pa
  num:VN v
def td (h:Thread):Int×Int×Bool×List Int:=(h.item,h.stop,decide (7<=h.phase/\h.phase<=12/\0<h.stop),Za7 h)
section
variable {c:Config} {b b':Int->Int->Int} {th th':Int->Thread} {ro ro' pa pa':Int->Int}
theorem ZeB {h h':Thread} (e:td h'=td h):h'.item=h.item:=congrArg (·.1) e
theorem Zkq {h h':Thread} (e:td h'=td h):h'.stop=h.stop:=congrArg (·.2.1) e
theorem Zv2 {h h':Thread} (e:td h'=td h):(7<=h'.phase/\h'.phase<=12/\0<h'.stop)↔(7<=h.phase/\h.phase<=12/\0<h.stop):=by
 have:decide (7<=h'.phase/\h'.phase<=12/\0<h'.stop)=decide (7<=h.phase/\h.phase<=12/\0<h.stop):=congrArg (·.2.2.1) e
 exact decide_eq_decide.1 this
theorem ZiK {h h':Thread} (e:td h'=td h):Za7 h'=Za7 h:=congrArg (·.2.2.2) e
theorem Zhw {h:Thread} (p:7<=h.phase/\h.phase<=10) (a:0<=h.at_/\h.at_<(h.held.length:Int)):ZbC h∈Za7 h:=by
 unfold Za7 ZbC
 rw [if_neg (by omega),if_pos p]
 have h1:h.at_.toNat<h.held.length:=by omega
 rw [List.getD_eq_getElem?_getD,List.getElem?_eq_getElem h1,Option.getD_some]
 rw [List.drop_eq_getElem_cons h1]
 exact List.mem_cons_self ..
theorem Tree.same (T:Tree c b th ro pa) (hb:∀ i m,1<=m->m<=ZaI c->b' i m=b i m) (hN:∀ j,InT c j->(∀ m∈Za7 (th j),1<=m/\m<=ZaI c)/\(7<=(th j).phase/\(th j).phase<=12/\0<(th j).stop\/ro j=2->1<=(th j).stop/\(th j).stop<=ZaI c)/\((th j).phase=9\/(th j).phase=10->1<=ZbC (th j)/\ZbC (th j)<=ZaI c))
   (ht:∀ j,td (th' j)=td (th j)) (hr:∀ j,ro' j=2↔ro j=2) (h9:∀ j,th' j=th j\/((th' j).phase≠9/\(th' j).phase≠10/\(th j).phase≠10))
   (h5:∀ j k,(th j).phase=10->ro k=5->pa k=j->ro' k=5/\pa' k=j):Tree c b' th' ro' pa':=by
 refine ⟨fun i m a1 a2 a3 a4=>by rw [hb i m a3 a4];exact T.t1 i m a1 a2 a3 a4,fun j hj m hm=>?_,fun j k m hj hk hi h1 h2=>?_,fun j hj hp=>?_,fun j hj hr2=>?_,fun i m j a1 a2 a3 a4 hj hD=>?_,fun j hj hp=>?_⟩
 . rw [ZiK (ht j)] at hm
   have:=(hN j hj).1 m hm
   rw [ZeB (ht j),hb _ _ this.1 this.2]
   exact T.t2 j hj m hm
 . rw [ZiK (ht j)] at h1
   rw [ZiK (ht k)] at h2
   rw [ZeB (ht j),ZeB (ht k)] at hi
   exact T.t3 j k m hj hk hi h1 h2
 . have hp':=(Zv2 (ht j)).1 hp
   have:=(hN j hj).2.1 (.inl hp')
   rw [ZeB (ht j),Zkq (ht j),hb _ _ this.1 this.2]
   exact T.t4 j hj hp'
 . have hp':=(hr j).1 hr2
   have:=(hN j hj).2.1 (.inr hp')
   rw [ZeB (ht j),Zkq (ht j),hb _ _ this.1 this.2]
   exact T.t5 j hj hp'
 . rw [hb i m a3 a4] at hD
   rcases T.t6 i m j a1 a2 a3 a4 hj hD with ⟨x,y,z⟩ | ⟨h,hh,x,y,z⟩
   . exact .inl ⟨(hr j).2 x,by rw [ZeB (ht j)];exact y,by rw [Zkq (ht j)];exact z⟩
   . refine .inr ⟨h,hh,?_⟩
     rcases h9 h with e | e
     . rw [e];exact ⟨x,y,z⟩
     . exact (e.2.2 y).elim
 . rcases h9 j with e | e
   . rw [e] at hp ⊢
     obtain ⟨x,y,z⟩:=T.t7 j hj hp
     have:=(hN j hj).2.2 hp
     refine ⟨x,by rw [hb _ _ this.1 this.2];exact y,fun p10=>?_⟩
     obtain ⟨z1,z2⟩:=z p10
     exact h5 j _ p10 z1 z2
   . omega
end
section
variable {c:Config} {v:Vw} {ro pa rt:Int->Int} {co:Int->Option Int} {t:Int}
theorem Inv.busy (I:Inv c v ro pa rt co) {j:Int} (hj:InT c j):ro j=0↔(v.th j).phase=0:=by
 have:=(I.loc j hj).tab
 unfold Tab at this
 omega
theorem Inv.nodes (I:Inv c v ro pa rt co) (j:Int) (hj:InT c j):(∀ m∈Za7 (v.th j),1<=m/\m<=ZaI c)/\(7<=(v.th j).phase/\(v.th j).phase<=12/\0<(v.th j).stop\/ro j=2->1<=(v.th j).stop/\(v.th j).stop<=ZaI c)/\((v.th j).phase=9\/(v.th j).phase=10->1<=ZbC (v.th j)/\ZbC (v.th j)<=ZaI c):=by
 have L:=I.loc j hj
 have un:∀ m∈Za7 (v.th j),1<=m/\m<=ZaI c:=by
   intro m hm
   unfold Za7 at hm
   split at hm
   . exact (L.held (by omega)).2 m hm
   . split at hm
     . exact (L.held (by omega)).2 m (List.mem_of_mem_drop hm)
     . cases hm
 refine ⟨un,fun hp=>?_,fun hp=>?_⟩
 . obtain ⟨a1,a2,a3,a4,a5,a6,a7,a8⟩:=L.ari
   unfold Tab at a1
   have:=a4 (by omega)
   rcases hp with hp | hp
   . omega
   . have:=a6 (.inr (.inr hp));omega
 . obtain ⟨a1,a2,a3,a4,a5,a6,a7,a8⟩:=L.ari
   exact un _ (Zhw (by omega) (a7 (by omega)))
theorem Inv.own (I:Inv c v ro pa rt co) (ht:InT c t) {h':Thread} {l':Int} {bx':List Entry} {b':Int->Int->Int} {q:Int}
   (hb:h'.batch=(v.th t).batch) (ho:h'.op=(v.th t).op) (hi:h'.item=(v.th t).item) (hk:ZaV h'=ZaV (v.th t))
   (hp:(v.th t).phase≠22/\h'.phase≠22/\h'.phase≠16)
   (hq:q=ro t\/((1<=ro t/\ro t<=3)/\1<=q/\q<=3)) (hl:LocT c h' l' (v.r t) bx' q (co t)) (hT:Tree c b' (seta v.th t h') (seta ro t q) pa)
   (hnb:∀ i r,Num (b' i r)) (hnl:Num l'):Inv c ⟨b',seta v.l t l',v.r,seta v.bx t bx',seta v.th t h'⟩ (seta ro t q) pa rt co:=by
 have e1:(fun j=>(seta v.th t h' j).batch)=fun j=>(v.th j).batch:=by
   funext j;unfold seta;split
   . rename_i e;rw [e];exact hb
   . rfl
 have e2:(fun j=>ZaV (seta v.th t h' j))=fun j=>ZaV (v.th j):=by
   funext j;unfold seta;split
   . rename_i e;rw [e];exact hk
   . rfl
 have e3:(fun j=>(seta v.th t h' j).op)=fun j=>(v.th j).op:=by
   funext j;unfold seta;split
   . rename_i e;rw [e];exact ho
   . rfl
 have e4:(fun j=>(seta v.th t h' j).item)=fun j=>(v.th j).item:=by
   funext j;unfold seta;split
   . rename_i e;rw [e];exact hi
   . rfl
 have e4':∀ j,(seta v.th t h' j).item=(v.th j).item:=fun j=>congrFun e4 j
 have hr4:∀ j,seta ro t q j=4↔ro j=4:=fun j=>by
   by_cases e:j=t
   . subst e;rw [Zag];omega
   . rw [Zaf e]
 refine ⟨?_,fun j hj=>?_,fun j hj=>?_,fun p hp1 hp2=>?_,fun p hp1 hp2=>?_,hT,hnb,fun j=>?_,I.num.2.2⟩
 . show Core c (fun j=>(seta v.th t h' j).batch) (fun j=>ZaV (seta v.th t h' j)) (fun j=>(seta v.th t h' j).op) (fun j=>(seta v.th t h' j).item) _ _ _ _
   rw [e1,e2,e3,e4]
   refine I.core.roles (fun j=>?_) (fun j _=>rfl)
   by_cases e:j=t
   . subst e;rw [Zag];omega
   . rw [Zaf e];exact .inl rfl
 . show LocT c (seta v.th t h' j) (seta v.l t l' j) (v.r j) (seta v.bx t bx' j) (seta ro t q j) (co j)
   by_cases e:j=t
   . subst e;simp only [Zag];exact hl
   . simp only [Zaf e];exact I.loc j hj
 . obtain ⟨a,b,d,f⟩:=I.pnd1 j ((hr4 j).1 hj)
   have e:pa j≠t:=by intro e;rw [e] at b;exact hp.1 b
   show InT c (pa j)/\(seta v.th t h' (pa j)).phase=22/\(seta v.th t h' (pa j)).who=j/\(seta v.th t h' (pa j)).item=(seta v.th t h' j).item
   rw [e4',e4',Zaf e]
   exact ⟨a,b,d,f⟩
 . have hp2:(seta v.th t h' p).phase=22:=hp2
   have e:p≠t:=by intro e;rw [e,Zag] at hp2;exact hp.2.1 hp2
   rw [Zaf e] at hp2
   show seta ro t q (seta v.th t h' p).who=4/\pa (seta v.th t h' p).who=p
   rw [Zaf e]
   obtain ⟨a,b⟩:=I.pnd2 p hp1 hp2
   exact ⟨(hr4 _).2 a,b⟩
 . have hp2:(seta v.th t h' p).phase=16:=hp2
   have e:p≠t:=by intro e;rw [e,Zag] at hp2;exact hp.2.2 hp2
   rw [Zaf e] at hp2
   show co (kidH (seta v.th t h' p)).t=some (v.r (kidH (seta v.th t h' p)).t)
   rw [Zaf e]
   exact I.r16 p hp1 hp2
 . show Num (seta v.l t l' j)
   by_cases e:j=t
   . subst e;rw [Zag];exact hnl
   . rw [Zaf e];exact I.num.2.1 j
theorem Inv.treeSame (I:Inv c v ro pa rt co) {h':Thread} {b':Int->Int->Int} {q:Int} (hb:∀ i m,1<=m->m<=ZaI c->b' i m=v.b i m) (hd:td h'=td (v.th t)) (hq:q=2↔ro t=2) (hq5:ro t=5->q=5)
   (h9:h'.phase≠9/\h'.phase≠10/\(v.th t).phase≠10):Tree c b' (seta v.th t h') (seta ro t q) pa:=by
 refine I.tree.same hb I.nodes (fun j=>?_) (fun j=>?_) (fun j=>?_) (fun j k hj hk hp=>?_)
 . by_cases e:j=t
   . subst e;rw [Zag];exact hd
   . rw [Zaf e]
 . by_cases e:j=t
   . subst e;rw [Zag];exact hq
   . rw [Zaf e]
 . by_cases e:j=t
   . subst e;rw [Zag];exact .inr h9
   . rw [Zaf e];exact .inl rfl
 . by_cases e:k=t
   . subst e;rw [Zag];exact ⟨hq5 hk,hp⟩
   . rw [Zaf e];exact ⟨hk,hp⟩
end
end Go.Proofs.Mill
namespace Go.Proofs.Mill
section
variable {c:Config} {b:Int->Int->Int} {th:Int->Thread} {ro pa ro' pa':Int->Int} {t:Int} {h':Thread}
theorem Tree.write (T:Tree c b th ro pa) (ht:InT c t) {i0 m0 w:Int} (hi0:(th t).item=i0) (hi:h'.item=i0) (hm0:1<=m0/\m0<=ZaI c)
   (hr:∀ j,j≠t->ro' j=ro j/\pa' j=pa j) (hr5:ro t=5->ro' t=5/\pa' t=pa t)
   (w1:w=0\/∃ h k,InT c h/\(1<=k/\k<=3)/\w=8*(h+1)+k)
   (w2:∀ j,InT c j->j≠t->(th j).item=i0->m0∈Za7 (th j)->w≠0/\∀ h,w=8*(h+1)+1->h=j)
   (w4:∀ j,InT c j->j≠t->b i0 m0≠8*(j+1)+2)
   (w5:∀ j,InT c j->j≠t->ro j=2->b i0 m0≠8*(j+1)+3)
   (w6:∀ j,InT c j->w=8*(j+1)+3->j=t/\ro' t=2/\h'.stop=m0)
   (w6':ro t≠2) (w6'':(th t).phase=10->ZbC (th t)=m0)
   (w7:∀ j,InT c j->j≠t->(th j).phase=9\/(th j).phase=10->(th j).item=i0->ZbC (th j)≠m0)
   (s2:∀ m∈Za7 h',setb b i0 m0 w i0 m≠0/\∀ h,setb b i0 m0 w i0 m=8*(h+1)+1->h=t)
   (s3:∀ j m,InT c j->j≠t->(th j).item=i0->m∈Za7 h'->m∈Za7 (th j)->False)
   (s4:7<=h'.phase/\h'.phase<=12/\0<h'.stop->setb b i0 m0 w i0 h'.stop=8*(t+1)+2)
   (s5:ro' t=2->setb b i0 m0 w i0 h'.stop=8*(t+1)+3)
   (s7:h'.phase≠9/\h'.phase≠10):Tree c (setb b i0 m0 w) (seta th t h') ro' pa':=by
 have T5:∀ j k,InT c j->j≠t->ro k=5/\pa k=j->ro' k=5/\pa' k=j:=by
   intro j k hj hjt hk
   by_cases e:k=t
   . subst e;obtain ⟨a,b⟩:=hr5 hk.1;exact ⟨a,by rw [b];exact hk.2⟩
   . obtain ⟨a,b⟩:=hr k e;rw [a,b];exact hk
 refine ⟨fun i m a1 a2 a3 a4=>?_,fun j hj m hm=>?_,fun j k m hj hk hii h1 h2=>?_,fun j hj hp=>?_,fun j hj hr2=>?_,fun i m j a1 a2 a3 a4 hj hD=>?_,fun j hj hp=>?_⟩
 . by_cases e:i=i0/\m=m0
   . obtain ⟨rfl,rfl⟩:=e;rw [Zgf];exact w1
   . rw [ZdN e];exact T.t1 i m a1 a2 a3 a4
 . by_cases e:j=t
   . subst e
     rw [Zag] at hm ⊢
     rw [hi]
     exact s2 m hm
   . rw [Zaf e] at hm ⊢
     by_cases e2:(th j).item=i0/\m=m0
     . obtain ⟨x,y⟩:=e2
       rw [x,y,Zgf]
       rw [y] at hm
       exact w2 j hj e x hm
     . rw [ZdN e2];exact T.t2 j hj m hm
 . by_cases e1:j=t
   . by_cases e2:k=t
     . rw [e1,e2]
     . subst e1
       rw [Zag] at hii h1
       rw [Zaf e2] at hii h2
       exact (s3 k m hk e2 (by rw [<- hii];exact hi) h1 h2).elim
   . by_cases e2:k=t
     . subst e2
       rw [Zag] at hii h2
       rw [Zaf e1] at hii h1
       exact (s3 j m hj e1 (by rw [hii];exact hi) h2 h1).elim
     . rw [Zaf e1] at hii h1
       rw [Zaf e2] at hii h2
       exact T.t3 j k m hj hk hii h1 h2
 . by_cases e:j=t
   . subst e
     rw [Zag] at hp ⊢
     rw [hi]
     exact s4 hp
   . rw [Zaf e] at hp ⊢
     have old:=T.t4 j hj hp
     rw [ZdN (fun x=>w4 j hj e (by rw [<- x.1,<- x.2];exact old))]
     exact old
 . by_cases e:j=t
   . subst e
     rw [Zag,hi]
     exact s5 hr2
   . rw [Zaf e]
     have hr2':ro j=2:=by rw [<- (hr j e).1];exact hr2
     have old:=T.t5 j hj hr2'
     rw [ZdN (fun x=>w5 j hj e hr2' (by rw [<- x.1,<- x.2];exact old))]
     exact old
 . by_cases e:i=i0/\m=m0
   . obtain ⟨rfl,rfl⟩:=e
     rw [Zgf] at hD
     obtain ⟨x,y,z⟩:=w6 j hj hD
     subst x
     rw [Zag]
     exact .inl ⟨y,hi,z⟩
   . rw [ZdN e] at hD
     rcases T.t6 i m j a1 a2 a3 a4 hj hD with ⟨x,y,z⟩ | ⟨h,hh,x,y,z⟩
     . have e1:j≠t:=by intro e1;rw [e1] at x;exact w6' x
       exact .inl ⟨by rw [(hr j e1).1];exact x,by rw [Zaf e1];exact y,by rw [Zaf e1];exact z⟩
     . have e1:h≠t:=by
         intro e1
         rw [e1] at x y z
         exact e ⟨by rw [<- x];exact hi0,by rw [<- z];exact w6'' y⟩
       exact .inr ⟨h,hh,by rw [Zaf e1];exact ⟨x,y,z⟩⟩
 . by_cases e:j=t
   . subst e
     rw [Zag] at hp
     omega
   . rw [Zaf e] at hp ⊢
     obtain ⟨x,y,z⟩:=T.t7 j hj hp
     refine ⟨x,by rw [ZdN (fun u=>w7 j hj e hp u.1 u.2)];exact y,fun p10=>T5 j _ hj e (z p10)⟩
end
end Go.Proofs.Mill
namespace Go.Proofs.Mill
theorem Zxg {c:Config} {l:List Int} (hp:l.Pairwise (· > ·)) (hl:∀ x∈l,1<=x/\x<=ZaI c):l.length<=15:=by
 have key:∀ (n:Nat) (l:List Int),l.Pairwise (· > ·)->(∀ x∈l,1<=x/\x<=(n:Int))->l.length<=n:=by
   intro n
   induction n with
   | zero => intro l _ hl; cases l with
     | nil=>simp
     | cons a r=>have:=hl a (List.mem_cons_self ..);omega
   | succ n ih => intro l hp hl; cases l with
     | nil=>simp
     | cons a r =>
       rw [List.pairwise_cons] at hp
       have:=ih r hp.2 (fun x hx=>by
         have h1:=hl x (List.mem_cons_of_mem _ hx)
         have h2:=hp.1 x hx
         have h3:=hl a (List.mem_cons_self ..)
         omega)
       rw [List.length_cons];omega
 have hnb:=ZbT c
 exact key 15 l hp (fun x hx=>by have:=hl x hx;omega)
section
variable {c:Config} {h h':Thread} {l l' r:Int} {bx bx':List Entry} {ro ro':Int} {co:Option Int}
theorem LocT.mod (L:LocT c h l r bx ro co) (e:h'.batch=h.batch/\h'.kids=h.kids/\h'.held=h.held) (p:h.phase≠0) (ari:Ari c h' l' ro')
   (box:((2<=ro'/\ro'<=4)\/(ro'=1/\(h'.phase=12\/h'.phase=18\/h'.phase=21\/h'.phase=24)))->bx'=h.batch) (boxl:bx'.length<=16)
   (y:h'.phase=3->h'.y=allT c.lo c.hi h'.batch h'.x) (nx:Num h'.x) (nw:Num h'.width)
   (node:4<=h'.phase/\h'.phase<=6->(1<=h'.node/\h'.node<=ZaI c)/\∀ m∈h'.held,h'.node<m) (x6:h'.phase=6->∃ k,InT c k/\h'.x=8*(k+1)+1)
   (one:h'.phase≠1) (tell:ro'=7->co=some h'.x) (told:ro'=6->ro=6):LocT c h' l' r bx' ro' co :=
 ⟨ari,fun k=>by rw [e.1];exact box k,boxl,y,nx,nw,fun _=>by rw [e.2.2];exact L.held p,node,x6,fun k=>(one k).elim,tell,fun k=>L.told (told k),fun _=>by rw [e.1,e.2.1];exact L.kidsN p,fun _=>by rw [e.1];exact L.ops p⟩
theorem Zeb {h h':Thread} (hk:h'.kids=h.kids) (p:h.phase≠0/\h.phase≠15/\h.phase≠16) (p':h'.phase≠0/\h'.phase≠15/\h'.phase≠16):ZaV h'=ZaV h:=by
 unfold ZaV
 rw [if_neg p'.1,if_neg (show ¬(h'.phase=15\/h'.phase=16) by omega),if_neg p.1,if_neg (show ¬(h.phase=15\/h.phase=16) by omega),hk]
theorem ZaK {h:Thread} (p:h.phase<4\/10<h.phase):Za7 h=[]:=by
 unfold Za7
 rw [if_neg (by omega),if_neg (by omega)]
theorem Zhq {h:Thread} (p:4<=h.phase/\h.phase<=6):Za7 h=h.held:=if_pos p
theorem Zdb {h:Thread} (p:7<=h.phase/\h.phase<=10):Za7 h=h.held.drop h.at_.toNat:=by
 unfold Za7
 rw [if_neg (by omega),if_pos p]
theorem ZhS {h h':Thread} (hi:h'.item=h.item) (hs:h'.stop=h.stop) (hj:(7<=h'.phase/\h'.phase<=12/\0<h.stop)↔(7<=h.phase/\h.phase<=12/\0<h.stop)) (hu:Za7 h'=Za7 h):td h'=td h:=by
 unfold td
 rw [hi,hs,hu]
 have:decide (7<=h'.phase/\h'.phase<=12/\0<h.stop)=decide (7<=h.phase/\h.phase<=12/\0<h.stop):=decide_eq_decide.2 hj
 rw [this]
end
def Info (c:Config) (v v':Vw) (ro rt:Int->Int) (co co1:Int->Option Int) (t:Int) (log:List Mark) (done:Bool):Prop :=
 ((log=[]/\co1=co)\/(ro t=1/\log=Zgs c (v.th t) (v.b (v.th t).item 0)/\co1=Zlf c (fun j=>(v.th j).batch) ro rt co t (v.b (v.th t).item 0)))/\(done=true->co1 t=some (v'.th t).x)
def Kept (c:Config) (v v':Vw) (ro pa rt:Int->Int) (co:Int->Option Int) (t:Int) (log:List Mark) (done:Bool):Prop :=
 ∃ ro' pa' rt' co1,Inv c v' ro' pa' rt' (if done=true then seta co1 t none else co1)/\Info c v v' ro rt co co1 t log done
section
variable {c:Config} {v:Vw} {ro pa rt:Int->Int} {co:Int->Option Int} {t:Int}
theorem ZAe (I:Inv c v ro pa rt co):Kept c v v ro pa rt co t [] false:=⟨ro,pa,rt,co,I,.inl ⟨rfl,rfl⟩,fun h=>by cases h⟩
theorem Zge (I:Inv c v ro pa rt co) (ht:InT c t) {v':Vw} {h':Thread} {l':Int} {bx':List Entry} {b':Int->Int->Int} {q:Int} (hv:v'=⟨b',seta v.l t l',v.r,seta v.bx t bx',seta v.th t h'⟩)
   (hb:h'.batch=(v.th t).batch) (ho:h'.op=(v.th t).op) (hi:h'.item=(v.th t).item) (hk:ZaV h'=ZaV (v.th t))
   (hp:(v.th t).phase≠22/\h'.phase≠22/\h'.phase≠16)
   (hq:q=ro t\/((1<=ro t/\ro t<=3)/\1<=q/\q<=3)) (hl:LocT c h' l' (v.r t) bx' q (co t)) (hT:Tree c b' (seta v.th t h') (seta ro t q) pa)
   (hnb:∀ i r,Num (b' i r)) (hnl:Num l'):Kept c v v' ro pa rt co t [] false :=
 ⟨seta ro t q,pa,rt,co,by rw [hv];exact I.own ht hb ho hi hk hp hq hl hT hnb hnl,.inl ⟨rfl,rfl⟩,fun h=>by cases h⟩
theorem ZBz {v:Vw} {t:Int} {h':Thread}:put v t h'=⟨v.b,seta v.l t (v.l t),v.r,seta v.bx t (v.bx t),seta v.th t h'⟩:=by
 unfold put;rw [Zdi,Zdi]
theorem ZBF {v:Vw} {t w:Int} {h':Thread}:put (wL v t w) t h'=⟨v.b,seta v.l t w,v.r,seta v.bx t (v.bx t),seta v.th t h'⟩:=by
 unfold put wL;rw [Zdi]
theorem ZCz {v:Vw} {t:Int} {b:List Entry} {h':Thread}:put (wX v t b) t h'=⟨v.b,seta v.l t (v.l t),v.r,seta v.bx t b,seta v.th t h'⟩:=by
 unfold put wX;rw [Zdi]
theorem Zla {v:Vw} {t i r w:Int} {h':Thread}:put (wB v i r w) t h'=⟨setb v.b i r w,seta v.l t (v.l t),v.r,seta v.bx t (v.bx t),seta v.th t h'⟩:=by
 unfold put wB;rw [Zdi,Zdi]
theorem Inv.short' (I:Inv c v ro pa rt co) (hC:CfgOK c) {j:Int} (hr:ro j≠0):((v.th j).batch.length:Int)<=c.threads:=by
 have hT:=hC.threads
 have h1:=I.core.nod j hr
 have h2:=I.core.ent j hr
 have key:∀ (n:Nat) (l:List Int),l.Nodup->(∀ x∈l,0<=x/\x<(n:Int))->l.length<=n:=by
   intro n
   induction n with
   | zero =>
     intro l _ hl
     cases l with
     | nil=>simp
     | cons a r=>have:=hl a (List.mem_cons_self ..);omega
   | succ n ih =>
     intro l hn hl
     have h3:=ih (l.filter (fun x=>x != (n:Int))) (hn.filter _) (fun x hx=>by
       rw [List.mem_filter] at hx
       have:=hl x hx.1
       have h4:x≠(n:Int):=by simpa using hx.2
       omega)
     have h5:l.length<=(l.filter (fun x=>x != (n:Int))).length+1:=by
       clear h3 ih hl
       induction l with
       | nil=>simp
       | cons a r ih2 =>
         rw [List.nodup_cons] at hn
         rw [List.filter_cons]
         split
         . rw [List.length_cons,List.length_cons];have:=ih2 hn.2;omega
         . rename_i ha
           have ha:a=(n:Int):=by simpa using ha
           have:r.filter (fun x=>x != (n:Int))=r:=by
             rw [List.filter_eq_self]
             intro x hx
             have:x≠(n:Int):=by intro e;rw [e,<- ha] at hx;exact hn.1 hx
             simpa using this
           rw [this,List.length_cons]
           exact Nat.le_refl _
     omega
 have h3:=key c.threads.toNat ((v.th j).batch.map (·.t)) h1 (fun x hx=>by
   obtain ⟨e,he,rfl⟩:=List.mem_map.1 hx
   have:=h2 e he
   unfold InT at this
   omega)
 rw [List.length_map] at h3
 omega
theorem Inv.short (I:Inv c v ro pa rt co) (hC:CfgOK c) {j:Int} (hr:ro j≠0):(v.th j).batch.length<=16:=by
 have:=I.short' hC hr
 have:=hC.threads
 omega
theorem Zh1 (I:Inv c v ro pa rt co) (hC:CfgOK c) (ht:InT c t) {h':Thread} {l' q:Int}
   (e:h'.batch=(v.th t).batch/\h'.kids=(v.th t).kids/\h'.held=(v.th t).held/\h'.op=(v.th t).op/\h'.item=(v.th t).item/\h'.stop=(v.th t).stop)
   (p:(v.th t).phase≠0/\(v.th t).phase≠15/\(v.th t).phase≠16/\(v.th t).phase≠22/\(v.th t).phase≠10) (p':h'.phase≠0/\h'.phase≠1/\h'.phase≠15/\h'.phase≠16/\h'.phase≠22/\h'.phase≠9/\h'.phase≠10)
   (hq:q=ro t\/((1<=ro t/\ro t<=3/\ro t≠2)/\1<=q/\q<=3/\q≠2)) (ari:Ari c h' l' q)
   (box:((2<=q/\q<=4)\/(q=1/\(h'.phase=12\/h'.phase=18\/h'.phase=21\/h'.phase=24)))->v.bx t=(v.th t).batch)
   (y:h'.phase=3->h'.y=allT c.lo c.hi h'.batch h'.x) (nx:Num h'.x) (nw:Num h'.width)
   (node:4<=h'.phase/\h'.phase<=6->(1<=h'.node/\h'.node<=ZaI c)/\∀ m∈h'.held,h'.node<m) (x6:h'.phase=6->∃ k,InT c k/\h'.x=8*(k+1)+1)
   (hj:(7<=h'.phase/\h'.phase<=12/\0<(v.th t).stop)↔(7<=(v.th t).phase/\(v.th t).phase<=12/\0<(v.th t).stop)) (hu:Za7 h'=Za7 (v.th t)) (hnl:Num l') :
   Kept c v (put (wL v t l') t h') ro pa rt co t [] false:=by
 obtain ⟨e1,e2,e3,e4,e5,e6⟩:=e
 have L:=I.loc t ht
 have hro:ro t≠7:=by
   have:=L.tab
   clear x6 y node box hj hq ari
   unfold Tab at this
   omega
 have hq7:q≠7:=by clear x6 y node box hj ari;omega
 have hq6:q=6->ro t=6:=by clear x6 y node box hj ari;omega
 have hq2:q=2↔ro t=2:=by clear x6 y node box hj ari;omega
 have hq5:ro t=5->q=5:=by clear x6 y node box hj ari;omega
 refine Zge I ht ZBF e1 e4 e5 (Zeb e2 ⟨p.1,p.2.1,p.2.2.1⟩ ⟨p'.1,p'.2.2.1,p'.2.2.2.1⟩) ⟨p.2.2.2.1,p'.2.2.2.2.1,p'.2.2.2.1⟩ (hq.imp id fun x=>⟨⟨x.1.1,x.1.2.1⟩,x.2.1,x.2.2.1⟩)
   (L.mod ⟨e1,e2,e3⟩ p.1 ari box L.boxl y nx nw node x6 p'.2.1 (fun h7=>(hq7 h7).elim) hq6) ?_ I.num.1 hnl
 exact I.treeSame (fun _ _ _ _=>rfl) (ZhS e5 e6 hj hu) hq2 hq5 ⟨p'.2.2.2.2.2.1,p'.2.2.2.2.2.2,p.2.2.2.2⟩
theorem Zrt {v:Vw} {t:Int}:wL v t (v.l t)=v:=by unfold wL;rw [Zdi]
theorem Zbg {n:Int} (h : -1000000<=n/\n<=1000000):Num n:=⟨by omega,by omega⟩
theorem Ari.mod {c:Config} {h h':Thread} {l l' ro q:Int} (A:Ari c h l ro) (p:h.phase≠0) (e:h'.item=h.item/\h'.stop=h.stop/\h'.kids=h.kids) (T:Tab q h'.phase l' (Zbx h'))
   (layer:17<=h'.phase->1<=h'.layer/\h'.layer<=c.layers) (s0:(4<=h'.phase/\h'.phase<=6\/h'.phase=1)->h.stop=0) (s1:h'.phase=11\/h'.phase=12\/q=2->1<=h.stop)
   (a1:7<=h'.phase/\h'.phase<=10->0<=h'.at_/\h'.at_<(h'.held.length:Int)) (a2:h'.phase=15\/h'.phase=16->0<=h'.at_/\h'.at_<(h.kids.length:Int)):Ari c h' l' q:=by
 obtain ⟨x1,x2,x3,x4,x5,x6,x7,x8⟩:=A
 refine ⟨T,fun _=>by rw [e.1];exact x2 p,layer,fun _=>by rw [e.2.1];exact x4 p,fun k=>by rw [e.2.1];exact s0 k,fun k=>by rw [e.2.1];exact s1 k,a1,fun k=>by rw [e.2.2];exact a2 k⟩
theorem Zdr {ro p l o:Int} (T:Tab ro p l o) (h:(1<=p/\p<=12)\/p=17\/p=18\/p=21\/p=22\/p=24\/p=25):ro=1/\(l=0\/(p=1/\l=5)):=by unfold Tab at T;omega
theorem ZhP {p o:Int} (h:(1<=p/\p<=12)\/p=17\/p=18\/p=21\/p=22\/p=24\/p=25):Tab 1 p 0 o:=.inr (.inl ⟨rfl,h,.inl rfl⟩)
theorem ZzE {ro p l o:Int} (T:Tab ro p l o) (ho:12<=o) (e:l=o):ro=3/\(p=19\/p=20\/p=23\/p=26):=by unfold Tab at T;omega
theorem Zus {ro p l o:Int} (T:Tab ro p l o) (h:p=19\/p=20\/p=23\/p=26):(ro=3/\l=o)\/(ro=4\/ro=5)/\l=0\/ro=6/\l=5:=by unfold Tab at T;omega
theorem ZmD (I:Inv c v ro pa rt co) (hC:CfgOK c) (ht:InT c t) {h':Thread}
   (e:h'.batch=(v.th t).batch/\h'.kids=(v.th t).kids/\h'.held=(v.th t).held/\h'.op=(v.th t).op/\h'.item=(v.th t).item/\h'.stop=(v.th t).stop)
   (p:(1<=(v.th t).phase/\(v.th t).phase<=12)\/(v.th t).phase=17\/(v.th t).phase=18\/(v.th t).phase=21\/(v.th t).phase=24\/(v.th t).phase=25) (pn:(v.th t).phase≠10)
   (p':(2<=h'.phase/\h'.phase<=12)\/h'.phase=17\/h'.phase=18\/h'.phase=21\/h'.phase=24\/h'.phase=25) (pn':h'.phase≠9/\h'.phase≠10)
   (layer:17<=h'.phase->1<=h'.layer/\h'.layer<=c.layers) (s0:4<=h'.phase/\h'.phase<=6->(v.th t).stop=0) (s1:h'.phase=11\/h'.phase=12->1<=(v.th t).stop)
   (a1:7<=h'.phase/\h'.phase<=10->0<=h'.at_/\h'.at_<(h'.held.length:Int))
   (box:(h'.phase=12\/h'.phase=18\/h'.phase=21\/h'.phase=24)->v.bx t=(v.th t).batch)
   (y:h'.phase=3->h'.y=allT c.lo c.hi h'.batch h'.x) (nx:Num h'.x) (nw:Num h'.width)
   (node:4<=h'.phase/\h'.phase<=6->(1<=h'.node/\h'.node<=ZaI c)/\∀ m∈h'.held,h'.node<m) (x6:h'.phase=6->∃ k,InT c k/\h'.x=8*(k+1)+1)
   (hj:(7<=h'.phase/\h'.phase<=12/\0<(v.th t).stop)↔(7<=(v.th t).phase/\(v.th t).phase<=12/\0<(v.th t).stop)) (hu:Za7 h'=Za7 (v.th t)) :
   Kept c v (put (wL v t 0) t h') ro pa rt co t [] false:=by
 have L:=I.loc t ht
 have hr:=(Zdr L.tab (by clear x6 y node box hj s0 s1 a1 layer;omega)).1
 have e':=e
 obtain ⟨e1,e2,e3,e4,e5,e6⟩:=e'
 refine Zh1 I hC ht (q:=1) e (by clear x6 y node box hj s0 s1 a1 layer;omega) (by clear x6 y node box hj s0 s1 a1 layer;omega) (.inl hr.symm) ?_ ?_ y nx nw node x6 hj hu (Zbg (by decide))
 . refine L.ari.mod (by clear x6 y node box hj s0 s1 a1 layer;omega) ⟨e5,e6,e2⟩ (ZhP (by clear x6 y node box hj s0 s1 a1 layer;omega)) layer (fun k=>s0 (by clear x6 y node box hj s0 s1 a1 layer;omega)) (fun k=>s1 (by clear x6 y node box hj s0 s1 a1 layer;omega)) a1 (fun k=>by clear x6 y node box hj s0 s1 a1 layer;omega)
 . intro k
   exact box (by clear x6 y node box hj s0 s1 a1 layer;omega)
theorem ZdC (I:Inv c v ro pa rt co) (hC:CfgOK c) (ht:InT c t) {h':Thread}
   (e:h'.batch=(v.th t).batch/\h'.kids=(v.th t).kids/\h'.held=(v.th t).held/\h'.op=(v.th t).op/\h'.item=(v.th t).item/\h'.stop=(v.th t).stop)
   (p:(2<=(v.th t).phase/\(v.th t).phase<=12)\/(v.th t).phase=17\/(v.th t).phase=18\/(v.th t).phase=21\/(v.th t).phase=24\/(v.th t).phase=25) (pn:(v.th t).phase≠10)
   (p':(2<=h'.phase/\h'.phase<=12)\/h'.phase=17\/h'.phase=18\/h'.phase=21\/h'.phase=24\/h'.phase=25) (pn':h'.phase≠9/\h'.phase≠10)
   (layer:17<=h'.phase->1<=h'.layer/\h'.layer<=c.layers) (s0:4<=h'.phase/\h'.phase<=6->(v.th t).stop=0) (s1:h'.phase=11\/h'.phase=12->1<=(v.th t).stop)
   (a1:7<=h'.phase/\h'.phase<=10->0<=h'.at_/\h'.at_<(h'.held.length:Int))
   (box:(h'.phase=12\/h'.phase=18\/h'.phase=21\/h'.phase=24)->v.bx t=(v.th t).batch)
   (y:h'.phase=3->h'.y=allT c.lo c.hi h'.batch h'.x) (nx:Num h'.x) (nw:Num h'.width)
   (node:4<=h'.phase/\h'.phase<=6->(1<=h'.node/\h'.node<=ZaI c)/\∀ m∈h'.held,h'.node<m) (x6:h'.phase=6->∃ k,InT c k/\h'.x=8*(k+1)+1)
   (hj:(7<=h'.phase/\h'.phase<=12/\0<(v.th t).stop)↔(7<=(v.th t).phase/\(v.th t).phase<=12/\0<(v.th t).stop)) (hu:Za7 h'=Za7 (v.th t)) :
   Kept c v (put v t h') ro pa rt co t [] false:=by
 have L:=I.loc t ht
 have hl:=(Zdr L.tab (by clear x6 y node box hj s0 s1 a1 layer;omega)).2
 have hl:v.l t=0:=by clear x6 y node box hj s0 s1 a1 layer;omega
 have:=ZmD I hC ht e (by clear x6 y node box hj s0 s1 a1 layer;omega) pn p' pn' layer s0 s1 a1 box y nx nw node x6 hj hu
 rwa [<- hl,Zrt] at this
theorem Zwo (I:Inv c v ro pa rt co) (hC:CfgOK c) (ht:InT c t) (p:(v.th t).phase=1) {h':Thread} (s:Start c (v.th t) h'):Kept c v (put (wL v t 0) t h') ro pa rt co t [] false:=by
 have L:=I.loc t ht
 have O:=L.one p
 have hs:(v.th t).stop=0:=L.ari.2.2.2.2.1 (.inr p)
 have hun:Za7 (v.th t)=[]:=ZaK (by omega)
 cases s with
 | climb d =>
   exact ZmD I hC ht ⟨rfl,rfl,rfl,rfl,rfl,rfl⟩ (by omega) (by omega) (.inl ⟨by show (2:Int)<=4;decide,by show (4:Int)<=12;decide⟩) ⟨by show (4:Int)≠9;decide,by show (4:Int)≠10;decide⟩ (fun k=>absurd (show (17:Int)<=4 from k) (by decide))
     (fun _=>hs) (fun k=>absurd (show (4:Int)=11\/(4:Int)=12 from k) (by decide)) (fun k=>absurd (show (7:Int)<=4 from k.1) (by decide)) (fun k=>absurd (show (4:Int)=12\/(4:Int)=18\/(4:Int)=21\/(4:Int)=24 from k) (by decide))
     (fun k=>absurd (show (4:Int)=3 from k) (by decide)) L.nx L.nw (fun _=>⟨O.2.2 d,fun m hm=>by have hm:m∈(v.th t).held:=hm;rw [O.1] at hm;cases hm⟩) (fun k=>absurd (show (4:Int)=6 from k) (by decide))
     ⟨fun k=>absurd (show (7:Int)<=4 from k.1) (by decide),fun k=>absurd k.1 (by omega)⟩ (by rw [hun,Zhq ⟨by show (4:Int)<=4;decide,by show (4:Int)<=6;decide⟩];exact O.1)
 | funnel d =>
   exact ZmD I hC ht ⟨rfl,rfl,rfl,rfl,rfl,rfl⟩ (by omega) (by omega) (.inr (.inl rfl)) ⟨by show (17:Int)≠9;decide,by show (17:Int)≠10;decide⟩ (fun k=>⟨Int.le_refl 1,by show 1<=c.layers;omega⟩)
     (fun k=>absurd (show (17:Int)<=6 from k.2) (by decide)) (fun k=>absurd (show (17:Int)=11\/(17:Int)=12 from k) (by decide)) (fun k=>absurd (show (17:Int)<=10 from k.2) (by decide)) (fun k=>absurd (show (17:Int)=12\/(17:Int)=18\/(17:Int)=21\/(17:Int)=24 from k) (by decide))
     (fun k=>absurd (show (17:Int)=3 from k) (by decide)) L.nx L.nw (fun k=>absurd (show (17:Int)<=6 from k.2) (by decide)) (fun k=>absurd (show (17:Int)=6 from k) (by decide))
     ⟨fun k=>absurd (show (17:Int)<=12 from k.2.1) (by decide),fun k=>absurd k.1 (by omega)⟩ (by rw [hun,ZaK (.inr (by show (10:Int)<17;decide))])
 | cell =>
   exact ZmD I hC ht ⟨rfl,rfl,rfl,rfl,rfl,rfl⟩ (by omega) (by omega) (.inl ⟨by show (2:Int)<=2;decide,by show (2:Int)<=12;decide⟩) ⟨by show (2:Int)≠9;decide,by show (2:Int)≠10;decide⟩ (fun k=>absurd (show (17:Int)<=2 from k) (by decide))
     (fun k=>absurd (show (4:Int)<=2 from k.1) (by decide)) (fun k=>absurd (show (2:Int)=11\/(2:Int)=12 from k) (by decide)) (fun k=>absurd (show (7:Int)<=2 from k.1) (by decide)) (fun k=>absurd (show (2:Int)=12\/(2:Int)=18\/(2:Int)=21\/(2:Int)=24 from k) (by decide))
     (fun k=>absurd (show (2:Int)=3 from k) (by decide)) L.nx L.nw (fun k=>absurd (show (4:Int)<=2 from k.1) (by decide)) (fun k=>absurd (show (2:Int)=6 from k) (by decide))
     ⟨fun k=>absurd (show (7:Int)<=2 from k.1) (by decide),fun k=>absurd k.1 (by omega)⟩ (by rw [hun,ZaK (.inl (by show (2:Int)<4;decide))])
end
end Go.Proofs.Mill
namespace Go.Proofs.Mill
section
variable {c:Config} {v:Vw} {ro pa rt:Int->Int} {co:Int->Option Int} {t:Int}
theorem Zoc {h:Thread} {k:Int} (p:4<=h.phase/\h.phase<=6) (k':4<=k/\k<=6) {h':Thread} (e:h'.phase=k) (eh:h'.held=h.held):Za7 h'=Za7 h:=by
 rw [Zhq p,Zhq (by omega),eh]
theorem ZyX (I:Inv c v ro pa rt co) (hC:CfgOK c) (ht:InT c t) (p:(v.th t).phase=2) :
   Kept c v (put v t { (v.th t) with phase:=3,x:=v.b (v.th t).item 0,y:=allT c.lo c.hi (v.th t).batch (v.b (v.th t).item 0) }) ro pa rt co t [] false:=by
 have L:=I.loc t ht
 have nx:=I.num.1 (v.th t).item 0
 refine ZdC I hC ht ⟨rfl,rfl,rfl,rfl,rfl,rfl⟩ (by omega) (by omega) ?_ ?_ ?_ ?_ ?_ ?_ ?_ (fun _=>rfl) nx L.nw ?_ ?_ ?_ (by rw [ZaK (by dsimp only;omega),ZaK (by omega)])
 all_goals dsimp only
 all_goals first | omega | (intro k;omega)
theorem Zye (I:Inv c v ro pa rt co) (hC:CfgOK c) (ht:InT c t) {w:Int} (p:(v.th t).phase=3) (hw:Num w) :
   Kept c v (put v t { (v.th t) with phase:=2,width:=w }) ro pa rt co t [] false:=by
 have L:=I.loc t ht
 refine ZdC I hC ht ⟨rfl,rfl,rfl,rfl,rfl,rfl⟩ (by omega) (by omega) ?_ ?_ ?_ ?_ ?_ ?_ ?_ ?_ L.nx hw ?_ ?_ ?_ (by rw [ZaK (by dsimp only;omega),ZaK (by omega)])
 all_goals dsimp only
 all_goals first | omega | (intro k;omega)
theorem ZyW (I:Inv c v ro pa rt co) (hC:CfgOK c) (ht:InT c t) (p:(v.th t).phase=25) {h':Thread} (o:Onw c (v.th t) h'):Kept c v (put v t h') ro pa rt co t [] false:=by
 have L:=I.loc t ht
 have hly:=L.ari.2.2.1 (by omega)
 have hcl:=hC.layers
 cases o with
 | up g =>
   have hw:Zac .i64 ((v.th t).layer+1)=(v.th t).layer+1:=Zas (by omega) (by omega)
   refine ZdC I hC ht ⟨rfl,rfl,rfl,rfl,rfl,rfl⟩ (by omega) (by omega) ?_ ?_ (fun _=>?_) ?_ ?_ ?_ ?_ ?_ L.nx L.nw ?_ ?_ ?_ (by rw [ZaK (by dsimp only;omega),ZaK (by omega)])
   all_goals dsimp only
   all_goals first | omega | (intro k;omega)
 | cell =>
   refine ZdC I hC ht ⟨rfl,rfl,rfl,rfl,rfl,rfl⟩ (by omega) (by omega) ?_ ?_ ?_ ?_ ?_ ?_ ?_ ?_ L.nx L.nw ?_ ?_ ?_ (by rw [ZaK (by dsimp only;omega),ZaK (by omega)])
   all_goals dsimp only
   all_goals first | omega | (intro k;omega)
theorem ZxY (I:Inv c v ro pa rt co) (hC:CfgOK c) (ht:InT c t) (p:(v.th t).phase=21):Kept c v (put v t { (v.th t) with phase:=24 }) ro pa rt co t [] false:=by
 have L:=I.loc t ht
 have hly:=L.ari.2.2.1 (by omega)
 have hr:=(Zdr L.tab (by omega)).1
 have hbox:=L.box (.inr ⟨hr,by omega⟩)
 refine ZdC I hC ht ⟨rfl,rfl,rfl,rfl,rfl,rfl⟩ (by omega) (by omega) ?_ ?_ (fun _=>hly) ?_ ?_ ?_ (fun _=>hbox) ?_ L.nx L.nw ?_ ?_ ?_ (by rw [ZaK (by dsimp only;omega),ZaK (by omega)])
 all_goals dsimp only
 all_goals first | omega | (intro k;omega)
theorem Zw4 (I:Inv c v ro pa rt co) (hC:CfgOK c) {i m:Int} (h0:0<=i) (h1:i<c.items) (m0:1<=m) (m1:m<=ZaI c) (k:Zcc (v.b i m)=1):∃ h,InT c h/\v.b i m=8*(h+1)+1:=by
 have hT:=hC.threads
 rcases I.tree.t1 i m h0 h1 m0 m1 with e | ⟨h,k',hh,hk,e⟩
 . rw [e] at k;exact absurd k (by decide)
 . refine ⟨h,hh,?_⟩
   unfold InT at hh
   rw [e] at k ⊢
   unfold Zcc at k
   rw [if_neg (by omega),if_neg (by omega),if_pos (by omega)] at k
   omega
theorem ZyZ (I:Inv c v ro pa rt co) (hC:CfgOK c) {i m:Int} (h0:0<=i) (h1:i<c.items) (m0:1<=m) (m1:m<=ZaI c) (k:Zcc (v.b i m)=3):InT c (v.b i m / 8-1)/\v.b i m=8*((v.b i m / 8-1)+1)+3:=by
 have hT:=hC.threads
 rcases I.tree.t1 i m h0 h1 m0 m1 with e | ⟨h,k',hh,hk,e⟩
 . rw [e] at k;exact absurd k (by decide)
 . unfold InT at hh
   rw [e] at k ⊢
   unfold Zcc at k
   rw [if_neg (by omega),if_neg (by omega),if_pos (by omega)] at k
   unfold InT
   omega
theorem Zyp (I:Inv c v ro pa rt co) (hC:CfgOK c) (ht:InT c t) (p:(v.th t).phase=4) (k:Zcc (v.b (v.th t).item (v.th t).node)=1) :
   Kept c v (put v t { (v.th t) with phase:=6,x:=v.b (v.th t).item (v.th t).node }) ro pa rt co t [] false:=by
 have L:=I.loc t ht
 have hi:=L.item (by omega)
 have hn:=L.node (by omega)
 obtain ⟨w,hw,e⟩:=Zw4 I hC hi.1 hi.2 hn.1.1 hn.1.2 k
 have hs:=L.ari.2.2.2.2.1 (by omega)
 refine ZdC I hC ht ⟨rfl,rfl,rfl,rfl,rfl,rfl⟩ (by omega) (by omega) ?_ ?_ ?_ (fun _=>hs) ?_ ?_ ?_ ?_ (I.num.1 _ _) L.nw (fun _=>hn) (fun _=>⟨w,hw,e⟩) ?_ (Zoc (by omega) ⟨by omega,by omega⟩ (show _=(6:Int) from rfl) rfl)
 all_goals dsimp only
 all_goals first | omega | (intro k;omega)
theorem ZwV (I:Inv c v ro pa rt co) (hC:CfgOK c) (ht:InT c t) (p:(v.th t).phase=4):Kept c v (put v t { (v.th t) with phase:=5 }) ro pa rt co t [] false:=by
 have L:=I.loc t ht
 have hn:=L.node (by omega)
 have hs:=L.ari.2.2.2.2.1 (by omega)
 refine ZdC I hC ht ⟨rfl,rfl,rfl,rfl,rfl,rfl⟩ (by omega) (by omega) ?_ ?_ ?_ (fun _=>hs) ?_ ?_ ?_ ?_ L.nx L.nw (fun _=>hn) ?_ ?_ (Zoc (by omega) ⟨by omega,by omega⟩ (show _=(5:Int) from rfl) rfl)
 all_goals dsimp only
 all_goals first | omega | (intro k;omega)
theorem ZuM (I:Inv c v ro pa rt co) (hC:CfgOK c) (ht:InT c t) (p:(v.th t).phase=5\/(v.th t).phase=6):Kept c v (put v t { (v.th t) with phase:=4 }) ro pa rt co t [] false:=by
 have L:=I.loc t ht
 have hn:=L.node (by omega)
 have hs:=L.ari.2.2.2.2.1 (by omega)
 refine ZdC I hC ht ⟨rfl,rfl,rfl,rfl,rfl,rfl⟩ (by omega) (by omega) ?_ ?_ ?_ (fun _=>hs) ?_ ?_ ?_ ?_ L.nx L.nw (fun _=>hn) ?_ ?_ (Zoc (by omega) ⟨by omega,by omega⟩ (show _=(4:Int) from rfl) rfl)
 all_goals dsimp only
 all_goals first | omega | (intro k;omega)
theorem Zfv (h:Thread):((Zft h).phase=7/\0<=h.at_/\h.at_<(h.held.length:Int))\/(¬(0<=h.at_/\h.at_<(h.held.length:Int))/\(((Zft h).phase=11/\0<h.stop)\/((Zft h).phase=2/\¬0<h.stop))):=by
 unfold Zft
 dsimp only
 by_cases g:0<=h.at_/\h.at_<(h.held.length:Int)
 . rw [if_pos g];exact .inl ⟨rfl,g⟩
 . rw [if_neg g]
   by_cases s:h.stop>0
   . rw [if_pos s];exact .inr ⟨g,.inl ⟨rfl,s⟩⟩
   . rw [if_neg s];exact .inr ⟨g,.inr ⟨rfl,s⟩⟩
theorem Zmu {h:Thread} (hl:0<=h.at_):Za7 (Zft h)=h.held.drop h.at_.toNat:=by
 rcases Zfv h with ⟨p,g⟩ | ⟨g,q⟩
 . rw [Zdb (by omega)];rfl
 . rw [ZaK (by omega),List.drop_of_length_le (by omega)]
theorem ZxZ (I:Inv c v ro pa rt co) (hC:CfgOK c) (ht:InT c t) (p:(v.th t).phase=4):Kept c v (put v t (Zke (v.th t))) ro pa rt co t [] false:=by
 have L:=I.loc t ht
 have hs:=L.ari.2.2.2.2.1 (by omega)
 have hu:Za7 (Zke (v.th t))=Za7 (v.th t):=by
   rw [Zhq (h:=v.th t) (by omega)]
   exact (Zmu (h:={ (v.th t) with at_:=0 }) (Int.le_refl 0)).trans rfl
 have hd:=Zfv { (v.th t) with at_:=0 }
 dsimp only at hd
 obtain ⟨h',hh'⟩:∃ h',h'=Zke (v.th t):=⟨_,rfl⟩
 have hd:(h'.phase=7/\(0:Int)<=0/\0<((v.th t).held.length:Int))\/(¬((0:Int)<=0/\0<((v.th t).held.length:Int))/\((h'.phase=11/\0<(v.th t).stop)\/(h'.phase=2/\¬0<(v.th t).stop))):=by rw [hh'];exact hd
 have e:h'.batch=(v.th t).batch/\h'.kids=(v.th t).kids/\h'.held=(v.th t).held/\h'.op=(v.th t).op/\h'.item=(v.th t).item/\h'.stop=(v.th t).stop:=by rw [hh'];exact ⟨rfl,rfl,rfl,rfl,rfl,rfl⟩
 have e2:h'.at_=0/\h'.x=(v.th t).x/\h'.width=(v.th t).width:=by rw [hh'];exact ⟨rfl,rfl,rfl⟩
 rw [<- hh'] at hu ⊢
 refine ZdC I hC ht e (by omega) (by omega) (by omega) (by omega) (by omega) (by omega) (by omega) (fun _=>?_) (by omega) (by omega) (by rw [e2.2.1];exact L.nx) (by rw [e2.2.2];exact L.nw) (fun k=>by omega) (fun k=>by omega) (by omega) hu
 rw [e.2.2.1,e2.1]
 omega
theorem Zze (I:Inv c v ro pa rt co) (hC:CfgOK c) (ht:InT c t) (p:(v.th t).phase=7):Kept c v (put v t { (v.th t) with phase:=8 }) ro pa rt co t [] false:=by
 have L:=I.loc t ht
 have ha:=L.ari.2.2.2.2.2.2.1 (by omega)
 refine ZdC I hC ht ⟨rfl,rfl,rfl,rfl,rfl,rfl⟩ (by omega) (by omega) ?_ ?_ ?_ ?_ ?_ (fun _=>ha) ?_ ?_ L.nx L.nw ?_ ?_ ?_ (by rw [Zdb (by dsimp only;omega),Zdb (by omega)])
 all_goals dsimp only
 all_goals first | omega | (intro k;omega)
theorem ZvE (I:Inv c v ro pa rt co) (hC:CfgOK c) (ht:InT c t) (p:(v.th t).phase=8):Kept c v (put v t { (v.th t) with phase:=7 }) ro pa rt co t [] false:=by
 have L:=I.loc t ht
 have ha:=L.ari.2.2.2.2.2.2.1 (by omega)
 refine ZdC I hC ht ⟨rfl,rfl,rfl,rfl,rfl,rfl⟩ (by omega) (by omega) ?_ ?_ ?_ ?_ ?_ (fun _=>ha) ?_ ?_ L.nx L.nw ?_ ?_ ?_ (by rw [Zdb (by dsimp only;omega),Zdb (by omega)])
 all_goals dsimp only
 all_goals first | omega | (intro k;omega)
theorem Zuf (I:Inv c v ro pa rt co) (hC:CfgOK c) (ht:InT c t) {k:Int} (p:((v.th t).phase=11/\k=12)\/((v.th t).phase=17/\k=18)) :
   Kept c v (put (wX v t (v.th t).batch) t { (v.th t) with phase:=k }) ro pa rt co t [] false:=by
 have L:=I.loc t ht
 have hT:=Zdr L.tab (by omega)
 have hl:v.l t=0:=by omega
 have hsh:=I.short hC (j:=t) (by omega)
 have A:=L.ari
 have hly:17<=k->1<=(v.th t).layer/\(v.th t).layer<=c.layers:=fun _=>A.2.2.1 (by omega)
 have hs1:k=12->1<=(v.th t).stop:=fun _=>A.2.2.2.2.2.1 (by omega)
 refine Zge I ht (q:=ro t) ZCz rfl rfl rfl (Zeb rfl (by omega) (by dsimp only;omega)) (by dsimp only;omega) (.inl rfl)
   (L.mod ⟨rfl,rfl,rfl⟩ (by omega) (A.mod (by omega) ⟨rfl,rfl,rfl⟩ ?_ hly ?_ ?_ ?_ ?_) (fun _=>rfl) hsh ?_ L.nx L.nw ?_ ?_ ?_ ?_ ?_) ?_ I.num.1 (I.num.2.1 t)
 . rw [hT.1,hl];exact ZhP (by dsimp only;omega)
 . dsimp only;omega
 . dsimp only;intro kk;rcases p with p | p
   . exact hs1 p.2
   . omega
 . dsimp only;omega
 . dsimp only;omega
 . dsimp only;omega
 . dsimp only;intro kk;omega
 . dsimp only;intro kk;omega
 . dsimp only;omega
 . intro kk;omega
 . intro kk;omega
 . refine I.treeSame (fun _ _ _ _=>rfl) (ZhS rfl rfl ?_ ?_) (by omega) (by omega) (by dsimp only;omega)
   . dsimp only;omega
   . rw [ZaK (by dsimp only;omega),ZaK (by omega)]
theorem Inv.opn (I:Inv c v ro pa rt co) (hC:CfgOK c) (ht:InT c t) (p:17<=(v.th t).phase):12<=Zbx (v.th t)/\Zbx (v.th t)<=100000:=by
 have L:=I.loc t ht
 have h1:=L.item (by omega)
 have h2:=L.ari.2.2.1 p
 have:=hC.items
 have:=hC.layers
 unfold Zbx
 omega
theorem Zr2 (I:Inv c v ro pa rt co) (hC:CfgOK c) (ht:InT c t) {h':Thread} (p:(v.th t).phase=18\/(v.th t).phase=24)
   (e:h'.batch=(v.th t).batch/\h'.kids=(v.th t).kids/\h'.held=(v.th t).held/\h'.op=(v.th t).op/\h'.item=(v.th t).item/\h'.stop=(v.th t).stop)
   (e2:h'.layer=(v.th t).layer/\h'.x=(v.th t).x/\h'.width=(v.th t).width) (p':h'.phase=19\/h'.phase=23):Kept c v (put (wL v t (Zbx (v.th t))) t h') ro pa rt co t [] false:=by
 have L:=I.loc t ht
 have hr:=(Zdr L.tab (by clear p';omega)).1
 have hly:=L.ari.2.2.1 (by clear p';omega)
 have hbox:=L.box (.inr ⟨hr,by clear p';omega⟩)
 have ho:=I.opn hC ht (by clear p';omega)
 have he:Zbx h'=Zbx (v.th t):=by unfold Zbx;rw [e.2.2.2.2.1,e2.1]
 have hT:Tab 3 h'.phase (Zbx (v.th t)) (Zbx h'):=by rw [he];exact .inr (.inr (.inr (.inl ⟨rfl,by clear p;omega,rfl⟩)))
 have q1:(v.th t).phase≠0/\(v.th t).phase≠15/\(v.th t).phase≠16/\(v.th t).phase≠22/\(v.th t).phase≠10/\12<(v.th t).phase:=by clear p' ;omega
 have q2:h'.phase≠0/\h'.phase≠1/\h'.phase≠15/\h'.phase≠16/\h'.phase≠22/\h'.phase≠9/\h'.phase≠10/\12<h'.phase:=by clear p q1;omega
 clear p p'
 exact Zh1 I hC ht (q:=3) e ⟨q1.1,q1.2.1,q1.2.2.1,q1.2.2.2.1,q1.2.2.2.2.1⟩ ⟨q2.1,q2.2.1,q2.2.2.1,q2.2.2.2.1,q2.2.2.2.2.1,q2.2.2.2.2.2.1,q2.2.2.2.2.2.2.1⟩ (.inr (by omega))
   (L.ari.mod q1.1 ⟨e.2.2.2.2.1,e.2.2.2.2.2,e.2.1⟩ hT (fun _=>by rw [e2.1];exact hly) (fun k=>by omega) (fun k=>by omega) (fun k=>by omega) (fun k=>by omega)) (fun _=>hbox) (fun k=>by omega) (by rw [e2.2.1];exact L.nx) (by rw [e2.2.2];exact L.nw) (fun k=>by omega) (fun k=>by omega) ⟨fun k=>by omega,fun k=>by omega⟩ (by rw [ZaK (by omega),ZaK (by omega)]) (Zbg (by omega))
theorem ZyJ {ro p p' l o:Int} (T:Tab ro p l o) (h:p=19\/p=20\/p=23\/p=26) (h':(p'=19\/p'=20\/p'=23\/p'=26)\/(p'=13/\l≠o)):Tab ro p' l o:=by
 have:=Zus T h
 clear T h
 rcases this with ⟨a,b⟩ | ⟨a,b⟩ | ⟨a,b⟩
 . exact .inr (.inr (.inr (.inl ⟨a,h'.elim id (fun x=>(x.2 b).elim),b⟩)))
 . exact .inr (.inr (.inr (.inr (.inl ⟨a,h'.elim .inr (fun x=>.inl x.1),b⟩))))
 . exact .inr (.inr (.inr (.inr (.inr (.inl ⟨a,h'.elim (fun x=>.inr (.inr x)) (fun x=>.inl x.1),b⟩)))))
theorem Zg5 (I:Inv c v ro pa rt co) (hC:CfgOK c) (ht:InT c t) {h':Thread} (p:(v.th t).phase=19\/(v.th t).phase=20\/(v.th t).phase=23\/(v.th t).phase=26)
   (e:h'.batch=(v.th t).batch/\h'.kids=(v.th t).kids/\h'.held=(v.th t).held/\h'.op=(v.th t).op/\h'.item=(v.th t).item/\h'.stop=(v.th t).stop)
   (e2:h'.layer=(v.th t).layer/\h'.x=(v.th t).x/\h'.width=(v.th t).width) (p':(h'.phase=19\/h'.phase=20\/h'.phase=23\/h'.phase=26)\/(h'.phase=13/\v.l t≠Zbx (v.th t))):Kept c v (put v t h') ro pa rt co t [] false:=by
 have L:=I.loc t ht
 have hro:(ro t=3\/ro t=4\/ro t=5\/ro t=6):=by
   have:=Zus L.tab p
   clear p p'
   omega
 have q1:(v.th t).phase≠0/\(v.th t).phase≠15/\(v.th t).phase≠16/\(v.th t).phase≠22/\(v.th t).phase≠10/\12<(v.th t).phase/\17<=(v.th t).phase:=by clear p' hro;omega
 have q2:h'.phase≠0/\h'.phase≠1/\h'.phase≠15/\h'.phase≠16/\h'.phase≠22/\h'.phase≠9/\h'.phase≠10/\12<h'.phase/\h'.phase≠18/\h'.phase≠21/\h'.phase≠24:=by
   have:(h'.phase=19\/h'.phase=20\/h'.phase=23\/h'.phase=26)\/h'.phase=13:=p'.imp id (·.1)
   clear p p' hro q1;omega
 have hly:=L.ari.2.2.1 q1.2.2.2.2.2.2
 have he:Zbx h'=Zbx (v.th t):=by unfold Zbx;rw [e.2.2.2.2.1,e2.1]
 have hT:Tab (ro t) h'.phase (v.l t) (Zbx h'):=by rw [he];exact ZyJ L.tab p p'
 clear p p'
 have:=Zh1 I hC ht (h':=h') (l':=v.l t) (q:=ro t) e ⟨q1.1,q1.2.1,q1.2.2.1,q1.2.2.2.1,q1.2.2.2.2.1⟩ ⟨q2.1,q2.2.1,q2.2.2.1,q2.2.2.2.1,q2.2.2.2.2.1,q2.2.2.2.2.2.1,q2.2.2.2.2.2.2.1⟩ (.inl rfl)
   (L.ari.mod q1.1 ⟨e.2.2.2.2.1,e.2.2.2.2.2,e.2.1⟩ hT (fun _=>by rw [e2.1];exact hly) (fun k=>by omega) (fun k=>by omega) (fun k=>by omega) (fun k=>by omega)) (fun k=>L.box (by omega)) (fun k=>by omega) (by rw [e2.2.1];exact L.nx) (by rw [e2.2.2];exact L.nw) (fun k=>by omega) (fun k=>by omega) ⟨fun k=>by omega,fun k=>by omega⟩ (by rw [ZaK (by omega),ZaK (by omega)]) (I.num.2.1 t)
 rwa [Zrt] at this
theorem ZnG (I:Inv c v ro pa rt co) (hC:CfgOK c) (ht:InT c t) {h':Thread} (p:(v.th t).phase=19\/(v.th t).phase=20\/(v.th t).phase=23\/(v.th t).phase=26) (hl:v.l t=Zbx (v.th t))
   (e:h'.batch=(v.th t).batch/\h'.kids=(v.th t).kids/\h'.held=(v.th t).held/\h'.op=(v.th t).op/\h'.item=(v.th t).item/\h'.stop=(v.th t).stop)
   (hx:h'.x=(v.th t).x) (hw:Num h'.width) (hly:17<=h'.phase->1<=h'.layer/\h'.layer<=c.layers) (p':h'.phase=21\/h'.phase=17\/h'.phase=2):Kept c v (put (wL v t 0) t h') ro pa rt co t [] false:=by
 have L:=I.loc t ht
 have hr:=(ZzE L.tab (I.opn hC ht (by clear p' hly;omega)).1 hl).1
 have hbox:=L.box (.inl (by clear p' p hly;omega))
 have hT:Tab 1 h'.phase 0 (Zbx h'):=ZhP (by clear p hly;omega)
 have q1:(v.th t).phase≠0/\(v.th t).phase≠15/\(v.th t).phase≠16/\(v.th t).phase≠22/\(v.th t).phase≠10/\12<(v.th t).phase:=by clear p' hly;omega
 have q2:h'.phase≠0/\h'.phase≠1/\h'.phase≠15/\h'.phase≠16/\h'.phase≠22/\h'.phase≠9/\h'.phase≠10/\(12<h'.phase\/h'.phase=2):=by clear p q1 hly;omega
 clear p p'
 exact Zh1 I hC ht (q:=1) e ⟨q1.1,q1.2.1,q1.2.2.1,q1.2.2.2.1,q1.2.2.2.2.1⟩ ⟨q2.1,q2.2.1,q2.2.2.1,q2.2.2.2.1,q2.2.2.2.2.1,q2.2.2.2.2.2.1,q2.2.2.2.2.2.2.1⟩ (.inr (by omega))
   (L.ari.mod q1.1 ⟨e.2.2.2.2.1,e.2.2.2.2.2,e.2.1⟩ hT hly (fun k=>by omega) (fun k=>by omega) (fun k=>by omega) (fun k=>by omega)) (fun _=>hbox) (fun k=>by omega) (by rw [hx];exact L.nx) hw (fun k=>by omega) (fun k=>by omega) ⟨fun k=>by omega,fun k=>by omega⟩ (by rw [ZaK (by omega),ZaK (by omega)]) (Zbg (by decide))
theorem Zyb (I:Inv c v ro pa rt co) (hC:CfgOK c) (ht:InT c t) (p:(v.th t).phase=13) (hl:v.l t=5):Kept c v (put v t { (v.th t) with phase:=14 }) ro pa rt co t [] false:=by
 have L:=I.loc t ht
 have hT:ro t=6:=by have:=L.tab;unfold Tab at this;omega
 have:=Zh1 I hC ht (h':={ (v.th t) with phase:=14 }) (l':=v.l t) (q:=ro t) ⟨rfl,rfl,rfl,rfl,rfl,rfl⟩ (by omega) (by dsimp only;omega) (.inl rfl) (L.ari.mod (by omega) ⟨rfl,rfl,rfl⟩ ?_ ?_ ?_ ?_ ?_ ?_) (fun k=>?_) ?_ L.nx L.nw ?_ ?_ ?_ ?_ (I.num.2.1 t)
 . rwa [Zrt] at this
 . dsimp only;unfold Tab;omega
 . dsimp only;omega
 . dsimp only;omega
 . dsimp only;omega
 . dsimp only;omega
 . dsimp only;omega
 . omega
 . dsimp only;omega
 . dsimp only;intro k;omega
 . dsimp only;intro k;omega
 . dsimp only;omega
 . rw [ZaK (by dsimp only;omega),ZaK (by omega)]
end
end Go.Proofs.Mill
