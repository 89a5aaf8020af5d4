/- Parts of the proof: MillQRun, MillQWInv, MillQLin, MillQLin2, MillQRunAll, MillQFair, MillQEnds, MillQHist, MillQHist2, MillQHist3, MillQFair2. -/
import Derived.Test.YtaopdopnecognaaGreatMillAll39
import Derived.Test.YtaopdopnecognaaGreatMillAll40
import Derived.Test.YtaopdopnecognaaGreatMillAll4
import Derived.Test.YtaopdopnecognaaGreatMillAll38
import Derived.Test.YtaopdopnecognaaGreatMillFDb
import Derived.KernelRfl
set_option linter.all false
noncomputable section
/- Which scripts are run, and how. -/
namespace Go.Proofs.Mill
def Zg9 (op:Op) (b:Bool):Bool:=bif b then (op.tag == 8 || (op.tag == 9 && decide (op.v>=0))) else (decide (1<=op.tag) && decide (op.tag<=7))
theorem Zzj (op:Op) (b:Bool):Zmj op b=some (Zg9 op b):=by
 unfold Zmj Zg9
 cases b with
 | true =>
   simp only [Bool.not_true,cond_false,cond_true]
   by_cases h:op.tag=9
   . rw [Zbg h,cond_true,ZaR (show ¬op.tag=8 by omega)];rfl
   . rw [ZaR h,cond_false]
     cases op.tag == 8 <;> rfl
 | false =>
   simp only [Bool.not_false,cond_false,cond_true,ZkN,Znv,Zaw]
   by_cases h1:1<=op.tag
   . rw [if_pos h1,decide_eq_true h1]
     by_cases h2:op.tag<=9
     . rw [decide_eq_true h2]
       simp only [cond_true,Bool.true_and]
       congr 1
       by_cases h3:op.tag<=7
       . rw [decide_eq_true h3,decide_eq_true (by omega)]
       . rw [decide_eq_false h3,decide_eq_false (by omega)]
     . rw [decide_eq_false h2,decide_eq_false (show ¬op.tag<=7 by omega)];rfl
   . rw [if_neg h1,decide_eq_false h1];rfl
def Zbb (c:Config) (e:SEntry):Int := if e.kind<1\/e.kind>3 then 90 else if e.kind=3 then 0 else if e.t<0\/e.t>=c.threads then 91 else if e.kind=2 then 0 else if e.item<0\/e.item>=c.items then 92 else if Zg9 e.op c.bounded=true then 0 else 93
theorem ZxU (x n:Int):ZdI (x,n)=some (decide (0<=x/\x<n)):=by
 show ZhZ x n=_
 unfold ZhZ
 rw [Zaw]
 by_cases h:0<=x
 . rw [if_pos h];simp [h]
 . rw [if_neg h];simp [h]
theorem ZnX (c:Config) (e:SEntry):ZiH c e=some (Zbb c e):=by
 unfold ZiH Zbb
 simp only [ZxU,Zj1,Zzj]
 by_cases k1:e.kind=1
 . rw [Zbg k1,ZaR (show ¬e.kind=2 by omega),if_neg (show ¬(e.kind<1\/e.kind>3) by omega),if_neg (show ¬e.kind=3 by omega),if_neg (show ¬e.kind=2 by omega)]
   simp only [cond_true,cond_false]
   by_cases ht:0<=e.t/\e.t<c.threads
   . rw [decide_eq_true ht,if_neg (show ¬(e.t<0\/e.t>=c.threads) by omega)]
     simp only [Bool.not_true,cond_false]
     by_cases hi:0<=e.item/\e.item<c.items
     . rw [decide_eq_true hi,if_neg (show ¬(e.item<0\/e.item>=c.items) by omega)]
       simp only [Bool.not_true,cond_false]
       cases Zg9 e.op c.bounded <;> rfl
     . rw [decide_eq_false hi,if_pos (show e.item<0\/e.item>=c.items by omega)];rfl
   . rw [decide_eq_false ht,if_pos (show e.t<0\/e.t>=c.threads by omega)];rfl
 . rw [ZaR k1]
   by_cases k2:e.kind=2
   . rw [Zbg k2,if_neg (show ¬(e.kind<1\/e.kind>3) by omega),if_neg (show ¬e.kind=3 by omega),if_pos k2]
     simp only [cond_true,cond_false]
     by_cases ht:0<=e.t/\e.t<c.threads
     . rw [decide_eq_true ht,if_neg (show ¬(e.t<0\/e.t>=c.threads) by omega)];rfl
     . rw [decide_eq_false ht,if_pos (show e.t<0\/e.t>=c.threads by omega)];rfl
   . rw [ZaR k2]
     by_cases k3:e.kind=3
     . rw [Zbg k3,if_neg (show ¬(e.kind<1\/e.kind>3) by omega),if_pos k3];rfl
     . rw [ZaR k3,if_pos (show e.kind<1\/e.kind>3 by omega)];rfl
def Zg8 (c:Config):Nat->List SEntry->Option (Int×Int)
 | _,[]=>none
 | i,e::l=>if Zbb c e=0 then Zg8 c (i+1) l else some ((i:Int),Zbb c e)
theorem ZqE {c:Config}:∀ {l:List SEntry} {i:Nat},(∀ e∈l,Zbb c e=0)->Zg8 c i l=none
 | [],_,_=>rfl
 | e :: l, i, h => by
   unfold Zg8
   rw [if_pos (h e (List.mem_cons_self ..))]
   exact ZqE fun x hx=>h x (List.mem_cons_of_mem _ hx)
theorem Zr8 {c:Config}:∀ {l:List SEntry} {i:Nat},Zg8 c i l=none->∀ e∈l,Zbb c e=0
 | [],_,_=>fun _ h=>by cases h
 | e :: l, i, h => by
   unfold Zg8 at h
   by_cases h0:Zbb c e=0
   . rw [if_pos h0] at h
     intro x hx
     rcases List.mem_cons.1 hx with rfl | hx
     . exact h0
     . exact Zr8 h x hx
   . rw [if_neg h0] at h;cases h
theorem Zt1 {c:Config} {l:List SEntry} (hl:l.length<=4294967296):∀ (k i:Nat),i+k=l.length->Ziv (c,l,(l.length:Int),(i:Int))=some (match Zg8 c i (l.drop i) with | none=>.inl () | some y=>.inr y)
 | 0, i, hk => by
   rw [List.drop_of_length_le (by omega)]
   refine whileM_some.2 (.done _ _ ?_)
   show ZeZ _ _ _ _=_
   unfold ZeZ
   simp only [Zaw]
   rw [if_neg (by omega)]
   rfl
 | k + 1, i, hk => by
   have hi:i<l.length:=by omega
   rw [List.drop_eq_getElem_cons hi]
   have e:l.getD i ZaG=l[i]:=by rw [List.getD_eq_getElem?_getD,List.getElem?_eq_getElem hi];rfl
   unfold Zg8
   have hs:Zgv (c,l,(l.length:Int),(i:Int))=if Zbb c l[i]=0 then some (.inl (c,l,(l.length:Int),((i+1:Nat):Int))) else some (.inr (.inr ((i:Int),Zbb c l[i]))):=by
     show ZeZ _ _ _ _=_
     unfold ZeZ
     simp only [Zaw,Zfe,ZnX,Int.toNat_natCast,e]
     rw [if_pos (show (i:Int)<(l.length:Int) by omega),if_pos (show (0:Int)<=(i:Int) by omega),if_pos (show (i:Int)<(l.length:Int) by omega)]
     by_cases h0:Zbb c l[i]=0
     . rw [if_pos h0,ZgB h0,Zat (by omega) (by omega)];rfl
     . rw [if_neg h0,Zha h0];rfl
   by_cases h0:Zbb c l[i]=0
   . rw [if_pos h0] at hs ⊢
     exact whileM_some.2 (.more _ _ _ hs (whileM_some.1 (Zt1 hl k (i+1) (by omega))))
   . rw [if_neg h0] at hs ⊢
     exact whileM_some.2 (.done _ _ hs)
def allE (c:Config) (l:List SEntry):Int×Int :=
 if (ZdY c).getD 0≠0 then (0,(ZdY c).getD 0) else if l.length>65536 then (0,2) else (Zg8 c 0 l).getD (0,0)
theorem Zq0 (c:Config) (l:List SEntry):Zke c l=some (allE c l):=by
 obtain ⟨e,he,hE⟩:=ZhH c
 unfold Zke allE
 simp only [Zef,ZnB,he,Option.getD_some,Zaw]
 by_cases h0:e=0
 . rw [ZgB h0,cond_false,if_neg (show ¬e≠0 from fun h=>h h0)]
   by_cases h1:l.length>65536
   . rw [if_pos h1,if_pos (show (l.length:Int)>65536 by omega)]
   . rw [if_neg h1,if_neg (show ¬(l.length:Int)>65536 by omega)]
     have:=Zt1 (c:=c) (l:=l) (by omega) l.length 0 (by omega)
     rw [List.drop_zero] at this
     rw [show Ziv (c,l,(l.length:Int),0)=_ from this]
     cases Zg8 c 0 l <;> rfl
 . rw [Zha h0,cond_true,if_pos h0]
theorem Zrv {c:Config} (h:CfgOK c) {l:List SEntry} (hl:l.length<=65536) (ho:∀ e∈l,Zbb c e=0):allE c l=(0,0):=by
 obtain ⟨e,he,hE⟩:=ZhH c
 have he0:=hE.2 h
 subst he0
 unfold allE
 rw [he,Option.getD_some,if_neg (fun h=>h rfl),if_neg (by omega),ZqE ho]
 rfl
theorem ZxX {c:Config} (h:CfgOK c) {l:List SEntry} {d:List Int} {w:Wld} (hl:l.length<=65536) (ho:∀ e∈l,Zbb c e=0) (hd:d.length<=4294967296) (hw:Zf0 (newW c d) l=some w):Zeb c l d=some (w,0,0):=by
 unfold Zeb
 have e1:ZhJ (c,l)=some (0,0):=(Zq0 c l).trans (by rw [Zrv h hl ho])
 have e2:ZgP (c,d)=some (newW c d,0):=Zsg h hd
 rw [e1]
 simp only [bne_self_eq_false,cond_false,e2]
 have e3:=Ztm (l:=l) (by omega) l.length 0 (newW c d) w h (by omega) (by rw [List.drop_zero];exact hw)
   (w0:=Wld.mk (Config.mk (0:Int) (0:Int) (0:Int) (0:Int) (0:Int) (0:Int) (0:Int) (0:Int) false (0:Int) (0:Int) (0:Int)) (Memo.mk ([]:List Int) ([]:List (List Entry))) ([]:List Thread) (0:Int) (0:Int) (Tape.mk ([]:List Int) (0:Int)) ([]:List Mark) ([]:List Event)) (x:=0)
 rw [show ZjR (_,newW c d,0,l,(l.length:Int),0)=_ from e3]
def Zml (l:List Thread):Nat:=(l.filter fun t=>t.phase != 0).length
theorem Zss {l:List Thread} (hl:l.length<=4294967296):∀ (k i:Nat) (n:Nat),i+k=l.length->n<=i->ZiI ((n:Int),l,(l.length:Int),(i:Int))=some ((n+Zml (l.drop i):Nat):Int)
 | 0, i, n, hk, hn => by
   rw [List.drop_of_length_le (by omega)]
   refine whileM_some.2 (.done _ _ ?_)
   show Ze1 _ _ _ _=_
   unfold Ze1
   simp only [Zaw]
   rw [if_neg (by omega)]
   rfl
 | k + 1, i, n, hk, hn => by
   have hi:i<l.length:=by omega
   rw [List.drop_eq_getElem_cons hi]
   have e:l.getD i Zas=l[i]:=by rw [List.getD_eq_getElem?_getD,List.getElem?_eq_getElem hi];rfl
   unfold Zml
   rw [List.filter_cons]
   have hs:ZgH ((n:Int),l,(l.length:Int),(i:Int))=some (.inl ((((if l[i].phase != 0 then n+1 else n):Nat):Int),l,(l.length:Int),((i+1:Nat):Int))):=by
     show Ze1 _ _ _ _=_
     unfold Ze1
     simp only [Zaw,Zbt,ZdP,Int.toNat_natCast,e]
     rw [if_pos (show (i:Int)<(l.length:Int) by omega),if_pos (show (0:Int)<=(i:Int) by omega),if_pos (show (i:Int)<(l.length:Int) by omega),Zat (n:=(i:Int)+1) (by omega) (by omega),Zat (n:=(n:Int)+1) (by omega) (by omega)]
     cases l[i].phase != 0 <;> rfl
   have:=Zss hl k (i+1) (if l[i].phase != 0 then n+1 else n) (by omega) (by split <;> omega)
   refine whileM_some.2 (.more _ _ _ hs ?_)
   have h2:=whileM_some.1 this
   unfold Zml at h2
   cases hb:(l[i].phase != 0) with
   | true =>
     rw [hb] at h2
     simp only [if_true] at h2 ⊢
     rw [List.length_cons,show n+((l.drop (i+1)).filter (fun t=>t.phase != 0)).length.succ=n+1+((l.drop (i+1)).filter (fun t=>t.phase != 0)).length by omega]
     exact h2
   | false =>
     rw [hb] at h2
     exact h2
theorem Zwk {w:Wld} (hl:w.t.length<=4294967296):Zki w=some (Zml w.t:Int):=by
 unfold Zki
 have:=Zss hl w.t.length 0 0 (by omega) (Nat.le_refl _)
 rw [List.drop_zero,Nat.zero_add] at this
 rw [show ZiI (0,w.t,(w.t.length:Int),0)=_ from this]
theorem ZxY {l:List Thread} (h:∀ t∈l,t.phase=0):Zml l=0:=by
 unfold Zml
 rw [List.length_eq_zero_iff,List.filter_eq_nil_iff]
 intro t ht
 rw [h t ht]
 decide
end Go.Proofs.Mill
/- What is kept of a world, entry by entry. -/
namespace Go.Proofs.Mill
def Zbs (u:Turn):Tape:=u.tape
def Zui (u v:Turn):Prop:=Zbs v=Zbs u\/Zbs v=(Zfu u.tape u.th.width).2
theorem Zif (u:Turn):Zbs (Zch u)=Zbs u:=by unfold Zch;split <;> rfl
theorem ZuG (u:Turn):Zbs (Zfv u)=Zbs u:=by
 unfold Zfv
 repeat' split
 all_goals rfl
theorem Zw6 (u:Turn) (w:Int):Zbs (ZhN u w)=Zbs u:=by
 unfold ZhN
 repeat' split
 all_goals rfl
theorem Zu7 (u:Turn):Zbs (Zeq u)=Zbs u:=by unfold Zeq;split <;> rfl
theorem Znx (u:Turn):Zbs (Zdl u)=Zbs u:=by unfold Zdl;split <;> rfl
theorem Zu4 (u:Turn):Zbs (Zcb u).1=Zbs u:=by
 unfold Zcb
 split
 . exact ZuG _
 . rfl
theorem Zvd (u:Turn):Zbs (Zb5 u).1=Zbs u:=by
 unfold Zb5
 split
 . show Zbs (if _ then _ else _:Turn)=_
   split <;> rfl
 split
 . exact Zif _
 split
 . show Zbs (if _ then _ else _:Turn)=_
   split
   . rfl
   . split <;> rfl
 split
 . show Zbs (if _ then _ else _:Turn)=_
   split
   . rfl
   . split
     . rfl
     . exact Zif _
 rfl
theorem Ztw (u:Turn):Zbs (ZbP u).1=Zbs u:=by
 unfold ZbP
 split
 . show Zbs (Zec u)=_
   unfold Zec
   split
   . exact Zif _
   . rfl
 split
 . show Zbs (if _ then _ else _:Turn)=_
   split
   . exact Zif _
   . split
     . exact Znx _
     . rfl
 rfl
theorem ZuT (u:Turn):Zbs (Zcs u).1=Zbs u:=by
 unfold Zcs
 split
 . show Zbs (if _ then _ else _:Turn)=_
   split
   . rfl
   . exact Zw6 _ _
 split
 . show Zbs (if _ then _ else _:Turn)=_
   split
   . rfl
   . split
     . exact Zu7 _
     . rfl
 split
 . show Zbs (if _ then _ else _:Turn)=_
   split
   . rfl
   . split <;> rfl
 rfl
theorem Zua (u:Turn):Zbs (Zcg u).1=Zbs u:=by
 unfold Zcg
 repeat' split
 all_goals rfl
theorem ZsI (u:Turn):Zui u (ZbR u).1:=by
 unfold ZbR
 split
 . exact .inl rfl
 split
 . exact .inl rfl
 split
 . show Zui u (swapT u)
   unfold swapT
   repeat' split
   all_goals first | exact .inl rfl | exact .inr rfl
 split
 . refine .inl ?_
   show Zbs (ZbO u u.t 21 13)=_
   unfold ZbO
   repeat' split
   all_goals rfl
 split
 . refine .inl ?_
   show Zbs (ZbO u u.th.who 22 24)=_
   unfold ZbO
   repeat' split
   all_goals rfl
 split
 . refine .inl ?_
   show Zbs (ZfH u)=_
   unfold ZfH
   split <;> rfl
 split
 . refine .inl ?_
   show Zbs (ZiY u)=_
   unfold ZiY
   repeat' split
   all_goals rfl
 split
 . exact .inl rfl
 split
 . refine .inl ?_
   show Zbs (ZgT u)=_
   unfold ZgT
   split
   . exact Znx _
   . rfl
 exact .inl rfl
theorem ZsG (u:Turn):Zui u (ZaM u):=by
 unfold ZaM
 split
 . exact .inl rfl
 split
 . exact .inl (Zu4 (begT u))
 split
 . exact .inl (Zvd (begT u))
 split
 . exact .inl (Ztw (begT u))
 split
 . exact .inl (ZuT (begT u))
 split
 . exact .inl (Zua (begT u))
 split
 . exact ZsI (begT u)
 exact .inl rfl
theorem ZyM {t:Tape} (n:Int) (h1:Num t.at_) (h2:t.l.length<=4294967296):Num (Zfu t n).2.at_/\(Zfu t n).2.l.length<=4294967296:=by
 unfold Zfu
 split
 . exact ⟨h1,h2⟩
 . exact Zxt h1 h2
structure WInv (c:Config) (w:Wld) (n:Nat) (ro pa rt:Int->Int) (co:Int->Option Int):Prop where
  cE:w.c=c
  lenT:(w.t.length:Int)=c.threads
  lenW:(w.m.words.length:Int)=sizeOf c
  lenB:(w.m.boxes.length:Int)=c.threads
  tape:Num w.tape.at_/\w.tape.l.length<=4294967296
  log:w.log.length<=16*n
  hist:w.hist.length<=n
  steps:0<=w.steps/\w.steps<=n
  now:0<=w.now/\w.now<=n
  inv:Inv c (vw c w.m w.t) ro pa rt co
section
variable {c:Config} {w:Wld} {n:Nat} {ro pa rt:Int->Int} {co:Int->Option Int} {t:Int}
theorem ZyA (hC:CfgOK c) {m:Memo} {ts:List Thread} (hl:(m.words.length:Int)=sizeOf c) (h:VN (vw c m ts)):∀ x∈m.words,Num x:=by
 intro x hx
 obtain ⟨i,hi,rfl⟩:=List.mem_iff_getElem.1 hx
 have hg:m.words.getD i 0=m.words[i]:=by rw [List.getD_eq_getElem?_getD,List.getElem?_eq_getElem hi];rfl
 rw [<- hg]
 have hb:=ZdB hC
 have hlb:=Za9 hC
 have hth:=hC.threads
 unfold sizeOf at hl
 by_cases hk:(i:Int)<Za1 c
 . have h1:(i:Int) / Zay c*Zay c+(i:Int) % Zay c=i:=by rw [Int.mul_comm];exact Int.mul_ediv_add_emod ..
   have h2:=Int.emod_nonneg (i:Int) (show Zay c≠0 by omega)
   have h3:=Int.emod_lt_of_pos (i:Int) (show 0<Zay c by omega)
   have h4:0<=(i:Int) / Zay c:=Int.ediv_nonneg (by omega) (by omega)
   have h5:(i:Int) / Zay c<c.items:=by
     apply Int.ediv_lt_of_lt_mul (by omega)
     exact hk
   have hin:Zgp c ((i:Int) / Zay c) ((i:Int) % Zay c):=⟨⟨h4,h5⟩,h2,h3⟩
   have:=h.1 ((i:Int) / Zay c) ((i:Int) % Zay c)
   rw [rd_B hin] at this
   have e:(pl c ((i:Int) / Zay c) ((i:Int) % Zay c)).toNat=i:=by
     show ((i:Int) / Zay c*Zay c+(i:Int) % Zay c).toNat=i
     rw [h1];rfl
   rwa [e] at this
 . have hj:InT c (((i:Int)-Za1 c) / 2):=⟨by omega,by omega⟩
   by_cases he:((i:Int)-Za1 c) % 2=0
   . have:=h.2.1 (((i:Int)-Za1 c) / 2)
     rw [rd_L hC hj,(Zdy hC hj.1 hj.2).1] at this
     have e:(Za1 c+2*(((i:Int)-Za1 c) / 2)).toNat=i:=by omega
     rwa [e] at this
   . have:=h.2.2 (((i:Int)-Za1 c) / 2)
     rw [show (vw c m ts).r (((i:Int)-Za1 c) / 2)=m.words.getD (Za1 c+2*(((i:Int)-Za1 c) / 2)+1).toNat 0 from if_pos hj] at this
     have e:(Za1 c+2*(((i:Int)-Za1 c) / 2)+1).toNat=i:=by omega
     rwa [e] at this
theorem ZfX {m:Memo} {ts:List Thread} (ht:InT c t):(vw c m ts).th t=ts.getD t.toNat Zas:=if_pos ht
theorem WInv.fit (W:WInv c w n ro pa rt co) (hC:CfgOK c) (hlo:Num c.lo) (hhi:Num c.hi) (ht:InT c t) (hp:(w.t.getD t.toNat Zas).phase≠0):FitM (Zbl w t):=by
 have hth:(vw c w.m w.t).th t=w.t.getD t.toNat Zas:=ZfX ht
 have L:=W.inv.loc t ht
 rw [hth] at L
 have hr:ro t≠0:=by
   intro h0
   have:=(W.inv.busy ht).1 h0
   rw [hth] at this
   exact hp this
 have hsh:=W.inv.short hC hr
 rw [hth] at hsh
 have hk:=L.kidsN hp
 have hi:=L.item hp
 have hh:=L.held hp
 have cE:=W.cE
 have hlen:=Zqe hh.1 hh.2
 have hly:=L.ari.2.2.1
 have hcl:=hC.layers
 refine ⟨⟨by show CfgOK w.c;rw [cE];exact hC,by show 0<=t/\t<w.c.threads;rw [cE];exact ht,by show (w.m.words.length:Int)=sizeOf w.c;rw [cE];exact W.lenW,by show (w.m.boxes.length:Int)=w.c.threads;rw [cE];exact W.lenB,ZyA hC W.lenW W.inv.num,?_,?_,fun b hb=>?_⟩,?_,?_,fun h17=>?_,W.tape.1,W.tape.2,L.nw,by show Num w.c.lo;rw [cE];exact hlo,by show Num w.c.hi;rw [cE];exact hhi,L.nx,L.ops hp⟩
 . show (w.t.getD t.toNat Zas).batch.length<=1000000;omega
 . show (w.t.getD t.toNat Zas).kids.length<=1000000;omega
 . obtain ⟨i,hi',rfl⟩:=List.mem_iff_getElem.1 hb
   have hin:InT c (i:Int):=⟨by omega,by have:=W.lenB;have hi':i<w.m.boxes.length:=hi';omega⟩
   have:=(W.inv.loc i hin).boxl
   have hi2:i<w.m.boxes.length:=hi'
   rw [rd_X hin,Int.toNat_natCast,List.getD_eq_getElem?_getD,List.getElem?_eq_getElem hi2] at this
   have this:(w.m.boxes[i]).length<=16:=this
   show (w.m.boxes[i]).length<=_
   omega
 . show (w.t.getD t.toNat Zas).held.length<=4294967295;omega
 . show 0<=(w.t.getD t.toNat Zas).item/\(w.t.getD t.toNat Zas).item<w.c.items;rw [cE];exact hi
 . have:=hly h17
   show 1<=(w.t.getD t.toNat Zas).layer/\(w.t.getD t.toNat Zas).layer<=3;omega
theorem WInv.pick (W:WInv c w n ro pa rt co) (hC:CfgOK c) (hlo:Num c.lo) (hhi:Num c.hi) (hn:n<=200000) (ht:InT c t) (hp:(w.t.getD t.toNat Zas).phase≠0) :
   Zb3 w t=some (Zc8 w t (ZaM (Zbl w t)))/\∃ ro' pa' rt' co1,WInv c (Zc8 w t (ZaM (Zbl w t))) (n+1) ro' pa' rt' (if (ZaM (Zbl w t)).done=true then seta co1 t none else co1) /\
     Info c (vw c w.m w.t) (vw c (Zc8 w t (ZaM (Zbl w t))).m (Zc8 w t (ZaM (Zbl w t))).t) ro rt co co1 t (ZaM (Zbl w t)).log (ZaM (Zbl w t)).done /\
     Tr c t (vw c w.m w.t) (w.t.getD t.toNat Zas) (vw c (Zc8 w t (ZaM (Zbl w t))).m (Zc8 w t (ZaM (Zbl w t))).t) (ZaM (Zbl w t)).log (ZaM (Zbl w t)).done:=by
 have hf:=W.fit hC hlo hhi ht hp
 have hth:(vw c w.m w.t).th t=w.t.getD t.toNat Zas:=ZfX ht
 have cE:=W.cE
 have hu0:Zbl w t=trn c t w.now w.m (w.t.getD t.toNat Zas) w.tape:=by unfold Zbl;rw [cE]
 have hT:Steps c t w.m w.t (w.t.getD t.toNat Zas) (ZaM (Zbl w t)):=by
   rw [hu0]
   have hi:=hf.item
   have hi:0<=(w.t.getD t.toNat Zas).item/\(w.t.getD t.toNat Zas).item<w.c.items:=hi
   rw [cE] at hi
   exact Zv9 hC W.lenW W.lenB W.lenT ht rfl hi hf.width
 have hone:=ZtL (Zbl w t)
 have hkp:=Zm1 (Zbl w t)
 have htp:=ZsG (Zbl w t)
 obtain ⟨u,hu⟩:∃ u,u=ZaM (Zbl w t):=⟨_,rfl⟩
 rw [<- hu] at hT hone hkp htp ⊢
 unfold Steps at hT
 have hT':=hT
 rw [<- hth] at hT'
 obtain ⟨ro',pa',rt',co1,hinv,hinfo⟩:=W.inv.step hC hlo hhi ht hT'
 have hth':(vw c u.m (w.t.set t.toNat u.th)).th t=u.th:=by
   have h0:=ht.1
   have h1:=ht.2
   have:=W.lenT
   rw [ZfX ht,List.getD_eq_getElem?_getD,List.getElem?_set_self (by omega)]
   rfl
 have hr:ro t≠0:=by
   intro h0
   have:=(W.inv.busy ht).1 h0
   rw [hth] at this
   exact hp this
 have hsh:=W.inv.short hC hr
 have hlog:u.log.length<=16:=by
   rcases hinfo.1 with ⟨e,_⟩ | ⟨_,e,_⟩
   . rw [e];simp
   . rw [e]
     unfold Zf9
     rw [List.length_zipWith]
     omega
 have hop:u.th.op=(w.t.getD t.toNat Zas).op:=Zvq hkp
 have hnx:u.done=true->Num u.th.x/\Num u.th.op.v:=by
   intro hd
   have L:=hinv.loc t ht
   rw [hth'] at L
   refine ⟨L.nx,?_⟩
   rw [hop]
   obtain ⟨r,hb⟩:=W.inv.core.k3 t hr
   have hb:((vw c w.m w.t).th t).batch=⟨t,((vw c w.m w.t).th t).op⟩::r:=hb
   rw [hth] at hb
   have:=hf.ops ⟨t,(w.t.getD t.toNat Zas).op⟩ (by show _∈(w.t.getD t.toNat Zas).batch;rw [hb];exact List.mem_cons_self ..)
   exact this
 have hl:=W.log
 have hh:=W.hist
 have hpk:=ZxC (w:=w) (t:=t) (u:=u) ht.1 (by rw [W.lenT];exact ht.2) hp hf hu.symm hnx (by omega) (by omega)
 refine ⟨hpk,ro',pa',rt',co1,⟨cE,?_,?_,?_,?_,?_,?_,?_,?_,hinv⟩,hinfo,hT⟩
 . show ((w.t.set _ _).length:Int)=_
   rw [List.length_set];exact W.lenT
 . show (u.m.words.length:Int)=_
   have hw:(Zbl w t).m=w.m:=rfl
   rcases hone with ⟨a,x,e⟩ | ⟨i,b,e⟩ | e
   . rw [e];show ((w.m.words.set a x).length:Int)=_;rw [List.length_set];exact W.lenW
   . rw [e];exact W.lenW
   . rw [e];exact W.lenW
 . show (u.m.boxes.length:Int)=_
   rcases hone with ⟨a,x,e⟩ | ⟨i,b,e⟩ | e
   . rw [e];exact W.lenB
   . rw [e];show ((w.m.boxes.set i b).length:Int)=_;rw [List.length_set];exact W.lenB
   . rw [e];exact W.lenB
 . show Num u.tape.at_/\u.tape.l.length<=4294967296
   rcases htp with e | e
   . rw [show u.tape=w.tape from e];exact W.tape
   . rw [show u.tape=_ from e];exact ZyM _ W.tape.1 W.tape.2
 . show (w.log++u.log.map _).length<=_
   rw [List.length_append,List.length_map];omega
 . show (if u.done=true then w.hist++[Zi8 w t u] else w.hist).length<=_
   split
   . rw [List.length_append,List.length_singleton];omega
   . omega
 . show 0<=Zad IntKind.i64 (w.steps+1)/\Zad IntKind.i64 (w.steps+1)<=((n+1:Nat):Int)
   have:=W.steps
   rw [Zat (by omega) (by omega)]
   omega
 . have:=W.now
   show 0<=w.now/\w.now<=((n+1:Nat):Int)
   omega
theorem Tree.idle {b:Int->Int->Int} {th:Int->Thread} {h':Thread} (T:Tree c b th ro pa) (u0:ZaV (th t)=[]) (u1:ZaV h'=[]) (p0:¬(7<=(th t).phase/\(th t).phase<=12)) (p1:¬(7<=h'.phase/\h'.phase<=12)) (r0:ro t≠2/\ro t≠5) {q:Int} (r1:q≠2):Tree c b (seta th t h') (seta ro t q) pa:=by
 refine ⟨T.t1,fun j hj m hm=>?_,fun j k m hj hk hi h1 h2=>?_,fun j hj hp=>?_,fun j hj hr2=>?_,fun i m j a1 a2 a3 a4 hj hD=>?_,fun j hj hpj=>?_⟩
 . by_cases e:j=t
   . rw [e,Zag,u1] at hm;cases hm
   . rw [Zaf e] at hm ⊢;exact T.t2 j hj m hm
 . by_cases e:j=t
   . rw [e,Zag,u1] at h1;cases h1
   . by_cases e2:k=t
     . rw [e2,Zag,u1] at h2;cases h2
     . rw [Zaf e] at hi h1;rw [Zaf e2] at hi h2
       exact T.t3 j k m hj hk hi h1 h2
 . by_cases e:j=t
   . rw [e,Zag] at hp;exact (p1 ⟨hp.1,hp.2.1⟩).elim
   . rw [Zaf e] at hp ⊢;exact T.t4 j hj hp
 . by_cases e:j=t
   . rw [e,Zag] at hr2;exact (r1 hr2).elim
   . rw [Zaf e] at hr2 ⊢;exact T.t5 j hj hr2
 . rcases T.t6 i m j a1 a2 a3 a4 hj hD with ⟨x,y,z⟩ | ⟨h,hh,x,y,z⟩
   . have e:j≠t:=by intro e;rw [e] at x;exact r0.1 x
     exact .inl ⟨by rw [Zaf e];exact x,by rw [Zaf e];exact y,by rw [Zaf e];exact z⟩
   . have e:h≠t:=by intro e;rw [e] at y;omega
     exact .inr ⟨h,hh,by rw [Zaf e];exact ⟨x,y,z⟩⟩
 . by_cases e:j=t
   . rw [e,Zag] at hpj;omega
   . rw [Zaf e] at hpj ⊢
     obtain ⟨x,y,z⟩:=T.t7 j hj hpj
     refine ⟨x,y,fun p10=>?_⟩
     obtain ⟨z1,z2⟩:=z p10
     exact ⟨by rw [Zaf (fun e=>by rw [e] at z1;exact r0.2 z1)];exact z1,z2⟩
theorem Inv.invoke {v:Vw} (I:Inv c v ro pa rt co) (hC:CfgOK c) (ht:InT c t) (hp:(v.th t).phase=0) {i now wd:Int} {op:Op} (hi:0<=i/\i<c.items) (hop:Num op.v) (hw:wd=(v.th t).width) :
   Inv c { v with th:=seta v.th t (Zfz c t i op now wd) } (seta ro t 1) pa (seta rt t t) co:=by
 have h0:ro t=0:=(I.busy ht).2 hp
 have L:=I.loc t ht
 have hl:v.l t=0\/v.l t=5:=by have:=L.tab;unfold Tab at this;omega
 have hC1:=I.core.invoke (i:=i) (o:=op) h0 ht
 obtain ⟨h',hh'⟩:∃ h',h'=Zfz c t i op now wd:=⟨_,rfl⟩
 have f:h'.phase=1/\h'.item=i/\h'.op=op/\h'.batch=[⟨t,op⟩]/\h'.kids=[]/\h'.held=[]/\h'.stop=0/\h'.node=ZlD c t/\h'.x=0/\h'.width=wd:=by rw [hh'];exact ⟨rfl,rfl,rfl,rfl,rfl,rfl,rfl,rfl,rfl,rfl⟩
 rw [<- hh']
 obtain ⟨f1,f2,f3,f4,f5,f6,f7,f8,f9,f10⟩:=f
 have hk0:ZaP (v.th t)=[]:=by unfold ZaP;rw [if_pos hp]
 have hk1:ZaP h'=[]:=by unfold ZaP;rw [if_neg (by omega),if_neg (by omega),f5]
 have c1:(fun j=>(seta v.th t h' j).batch)=seta (fun j=>(v.th j).batch) t [⟨t,op⟩]:=by
   funext j;unfold seta;split
   . exact f4
   . rfl
 have c2:(fun j=>ZaP (seta v.th t h' j))=fun j=>ZaP (v.th j):=by
   funext j;unfold seta;split
   . rename_i e;rw [e,hk0,hk1]
   . rfl
 have c3:(fun j=>(seta v.th t h' j).op)=seta (fun j=>(v.th j).op) t op:=by
   funext j;unfold seta;split
   . exact f3
   . rfl
 have c4:(fun j=>(seta v.th t h' j).item)=seta (fun j=>(v.th j).item) t i:=by
   funext j;unfold seta;split
   . exact f2
   . rfl
 refine ⟨?_,fun j hj=>?_,fun j hj=>?_,fun s hs1 hs2=>?_,fun s hs1 hs2=>?_,?_,I.num⟩
 . show Core c (fun j=>(seta v.th t h' j).batch) (fun j=>ZaP (seta v.th t h' j)) (fun j=>(seta v.th t h' j).op) (fun j=>(seta v.th t h' j).item) _ _ _ _
   rw [c1,c2,c3,c4]
   exact hC1
 . show LocT c (seta v.th t h' j) (v.l j) (v.r j) (v.bx j) (seta ro t 1 j) (co j)
   by_cases e:j=t
   . rw [e,Zag,Zag]
     have hnb:=Zbx c
     refine ⟨⟨.inr (.inl ⟨rfl,.inl (by omega),hl.imp id (fun x=>⟨f1,x⟩)⟩),fun _=>by rw [f2];exact hi,fun k=>by omega,fun _=>by rw [f7];omega,fun _=>f7,fun k=>by omega,fun k=>by omega,fun k=>by omega⟩,fun k=>by omega,L.boxl,fun k=>by omega,by rw [f9];exact Zbh (by decide),by rw [f10,hw];exact L.nw,fun _=>by rw [f6];exact ⟨List.Pairwise.nil,fun m hm=>by cases hm⟩,fun k=>by omega,fun k=>by omega,fun _=>⟨f6,f5,fun hd=>by rw [f8];exact ZBD hC (by omega) ht⟩,fun k=>absurd k (by decide),fun k=>absurd k (by decide),fun _=>by rw [f4,f5];simp,fun _=>by
       rw [f4];intro e he;rw [List.mem_singleton] at he;subst he;exact hop⟩
   . rw [Zaf e,Zaf e];exact I.loc j hj
 . have e:j≠t:=by intro e;rw [e,Zag] at hj;exact absurd hj (by decide)
   rw [Zaf e] at hj
   obtain ⟨a,b,d,f⟩:=I.pnd1 j hj
   have e2:pa j≠t:=by intro e2;rw [e2] at b;omega
   show InT c (pa j)/\(seta v.th t h' (pa j)).phase=22/\(seta v.th t h' (pa j)).who=j/\(seta v.th t h' (pa j)).item=(seta v.th t h' j).item
   rw [Zaf e2,Zaf e]
   exact ⟨a,b,d,f⟩
 . have hs2:(seta v.th t h' s).phase=22:=hs2
   have e:s≠t:=by intro e;rw [e,Zag] at hs2;omega
   rw [Zaf e] at hs2
   show seta ro t 1 (seta v.th t h' s).who=4/\pa (seta v.th t h' s).who=s
   rw [Zaf e]
   obtain ⟨a,b⟩:=I.pnd2 s hs1 hs2
   rw [Zaf (fun x=>by rw [x] at a;omega)]
   exact ⟨a,b⟩
 . have hs2:(seta v.th t h' s).phase=16:=hs2
   have e:s≠t:=by intro e;rw [e,Zag] at hs2;omega
   rw [Zaf e] at hs2
   show co (kidH (seta v.th t h' s)).t=some (v.r (kidH (seta v.th t h' s)).t)
   rw [Zaf e]
   exact I.r16 s hs1 hs2
 . exact I.tree.idle (by rw [ZaF (by omega)]) (by rw [ZaF (by omega)]) (by omega) (by omega) (by omega) (by decide)
def ZaT (w:Wld) (e:SEntry):Wld := if e.kind=1 then invT w e else if e.kind=2 then (if (w.t.getD e.t.toNat Zas).phase=0 then w else Zc8 w e.t (ZaM (Zbl w e.t))) else if e.kind=3 then { w with now:=Zad .i64 (w.now+1) } else w
theorem ZiQ {e:SEntry} (h:Zbb c e=0):(e.kind=1/\InT c e.t/\(0<=e.item/\e.item<c.items)/\Zg9 e.op c.bounded=true)\/(e.kind=2/\InT c e.t)\/e.kind=3:=by
 unfold Zbb at h
 unfold InT
 split at h
 . omega
 split at h
 . rename_i k;exact .inr (.inr k)
 split at h
 . omega
 split at h
 . rename_i k;exact .inr (.inl ⟨k,by omega⟩)
 split at h
 . omega
 split at h
 . rename_i k;exact .inl ⟨by omega,by omega,by omega,k⟩
 . omega
theorem WInv.entry (W:WInv c w n ro pa rt co) (hC:CfgOK c) (hlo:Num c.lo) (hhi:Num c.hi) (hn:n<=200000) {e:SEntry} (he:Zbb c e=0) (hop:Num e.op.v) :
   Zfa w e=some (ZaT w e)/\∃ ro' pa' rt' co',WInv c (ZaT w e) (n+1) ro' pa' rt' co':=by
 have hl:=W.log
 have hh:=W.hist
 have hst:=W.steps
 have hnw:=W.now
 rcases ZiQ he with ⟨k,ht,hi,ho⟩ | ⟨k,ht⟩ | k
 . unfold Zfa ZaT
   rw [if_pos k,if_pos k,if_pos ⟨ht.1,by rw [W.lenT];exact ht.2,by omega⟩]
   refine ⟨rfl,?_⟩
   unfold invT
   by_cases hp:(w.t.getD e.t.toNat Zas).phase=0
   . rw [if_neg (fun x=>x hp)]
     have hth:(vw c w.m w.t).th e.t=w.t.getD e.t.toNat Zas:=ZfX ht
     have:=W.inv.invoke hC ht (by rw [hth];exact hp) (i:=e.item) (op:=e.op) (now:=w.now) (wd:=(w.t.getD e.t.toNat Zas).width) hi hop (by rw [hth])
     refine ⟨seta ro e.t 1,pa,seta rt e.t e.t,co,W.cE,?_,W.lenW,W.lenB,W.tape,?_,?_,?_,?_,?_⟩
     . show ((w.t.set _ _).length:Int)=_
       rw [List.length_set];exact W.lenT
     . show w.log.length<=_;omega
     . show (w.hist++[_]).length<=_
       rw [List.length_append,List.length_singleton];omega
     . show 0<=w.steps/\w.steps<=((n+1:Nat):Int);omega
     . show 0<=w.now/\w.now<=((n+1:Nat):Int);omega
     . show Inv c (vw c w.m (w.t.set _ _)) _ _ _ _
       rw [ZnN W.lenT ht,W.cE]
       exact this
   . rw [if_pos hp]
     refine ⟨ro,pa,rt,co,W.cE,W.lenT,W.lenW,W.lenB,W.tape,?_,?_,?_,?_,W.inv⟩
     . show w.log.length<=_;omega
     . show (w.hist++[_]).length<=_
       rw [List.length_append,List.length_singleton];omega
     . show 0<=w.steps/\w.steps<=((n+1:Nat):Int);omega
     . show 0<=w.now/\w.now<=((n+1:Nat):Int);omega
 . unfold Zfa ZaT
   rw [if_neg (show ¬e.kind=1 by omega),if_neg (show ¬e.kind=1 by omega),if_pos k,if_pos k]
   by_cases hp:(w.t.getD e.t.toNat Zas).phase=0
   . rw [if_pos hp]
     refine ⟨ZxP ht.1 (by rw [W.lenT];exact ht.2) hp,ro,pa,rt,co,W.cE,W.lenT,W.lenW,W.lenB,W.tape,by omega,by omega,by omega,by omega,W.inv⟩
   . rw [if_neg hp]
     obtain ⟨a,ro',pa',rt',co1,b,_⟩:=W.pick hC hlo hhi hn ht hp
     exact ⟨a,_,_,_,_,b⟩
 . unfold Zfa ZaT
   rw [if_neg (show ¬e.kind=1 by omega),if_neg (show ¬e.kind=1 by omega),if_neg (show ¬e.kind=2 by omega),if_neg (show ¬e.kind=2 by omega),if_pos k,if_pos k]
   refine ⟨rfl,ro,pa,rt,co,W.cE,W.lenT,W.lenW,W.lenB,W.tape,?_,?_,?_,?_,W.inv⟩
   . show w.log.length<=_;omega
   . show w.hist.length<=_;omega
   . show 0<=w.steps/\w.steps<=((n+1:Nat):Int);omega
   . show 0<=Zad .i64 (w.now+1)/\Zad .i64 (w.now+1)<=((n+1:Nat):Int)
     rw [Zat (by omega) (by omega)];omega
theorem WInv.entries (hC:CfgOK c) (hlo:Num c.lo) (hhi:Num c.hi):∀ {l:List SEntry} {w:Wld} {n:Nat} {ro pa rt:Int->Int} {co:Int->Option Int},WInv c w n ro pa rt co->n+l.length<=200000->(∀ e∈l,Zbb c e=0/\Num e.op.v) ->
   Zf0 w l=some (l.foldl ZaT w)/\∃ ro' pa' rt' co',WInv c (l.foldl ZaT w) (n+l.length) ro' pa' rt' co'
 | [],w,n,ro,pa,rt,co,W,_,_=>⟨rfl,ro,pa,rt,co,W⟩
 | e :: l, w, n, ro, pa, rt, co, W, hn, he => by
   rw [List.length_cons] at hn
   obtain ⟨a,ro',pa',rt',co',b⟩:=W.entry hC hlo hhi (by omega) (he e (List.mem_cons_self ..)).1 (he e (List.mem_cons_self ..)).2
   obtain ⟨d,f⟩:=WInv.entries hC hlo hhi b (by omega) (fun x hx=>he x (List.mem_cons_of_mem _ hx))
   refine ⟨by rw [ZsB a];exact d,?_⟩
   rw [List.length_cons,show n+(l.length+1)=n+1+l.length by omega]
   exact f
theorem ZpJ (hC:CfgOK c) (hci:Num c.init) {d:List Int} (hd:d.length<=4294967296):WInv c (newW c d) 0 (fun _=>0) (fun _=>0) (fun _=>0) (fun _=>none):=by
 have hs:=Zi4 hC
 have hth:=hC.threads
 have hit:=hC.items
 have hthr:∀ j,InT c j->(vw c (Zc1 c) (List.replicate c.threads.toNat newT)).th j=newT:=by
   intro j hj
   have h0:=hj.1
   have h1:=hj.2
   rw [ZfX hj,List.getD_eq_getElem?_getD,List.getElem?_replicate_of_lt (by omega)];rfl
 have hthp:∀ j,((vw c (Zc1 c) (List.replicate c.threads.toNat newT)).th j).phase=0:=by
   intro j
   by_cases hj:InT c j
   . rw [hthr j hj];rfl
   . rw [show (vw c (Zc1 c) (List.replicate c.threads.toNat newT)).th j=Zas from if_neg hj];rfl
 have hline:∀ j,InT c j->(vw c (Zc1 c) (List.replicate c.threads.toNat newT)).l j=0:=by
   intro j hj
   rw [rd_L hC hj]
   exact (Zsl (i:=0) hC hci hj ⟨by omega,by omega⟩).line
 have hnode:∀ i m,0<=i->i<c.items->1<=m->m<=Zaz c->(vw c (Zc1 c) (List.replicate c.threads.toNat newT)).b i m=0:=by
   intro i m a1 a2 a3 a4
   have hb:=ZgW hC
   rw [rd_B ⟨⟨a1,a2⟩,by omega,by omega⟩]
   have:=(Zsl (t:=0) (i:=0) hC hci ⟨by omega,by omega⟩ ⟨by omega,by omega⟩).nodes i m a1 a2 a3 a4
   simpa using this
 have hun:∀ j,ZaV ((vw c (Zc1 c) (List.replicate c.threads.toNat newT)).th j)=[]:=fun j=>ZaF (by rw [hthp j];decide)
 have hwn:∀ (k:Nat),Num ((Zc1 c).words.getD k 0):=by
   intro k
   rw [List.getD_eq_getElem?_getD]
   by_cases hk:k<(Zc1 c).words.length
   . rw [List.getElem?_eq_getElem hk]
     exact Zmy hci _ _ (List.getElem_mem hk)
   . rw [List.getElem?_eq_none (by omega)]
     exact Zbh (by decide)
 refine ⟨rfl,by show ((List.replicate c.threads.toNat newT).length:Int)=_;rw [List.length_replicate];omega,by show ((ZeE c _).length:Int)=_;rw [Zf6];omega,by show ((List.replicate c.threads.toNat ([]:List Entry)).length:Int)=_;rw [List.length_replicate];omega,⟨Zbh (show (-1000000:Int)<=0/\(0:Int)<=1000000 by decide),hd⟩,Nat.le_refl _,Nat.le_refl _,⟨Int.le_refl 0,Int.le_refl 0⟩,⟨Int.le_refl 0,Int.le_refl 0⟩,?_⟩
 show Inv c (vw c (Zc1 c) (List.replicate c.threads.toNat newT)) _ _ _ _
 refine ⟨⟨fun j h=>(h rfl).elim,fun j _=>⟨rfl,by show ZaP _=[];unfold ZaP;rw [if_pos (hthp j)]⟩,fun j h=>absurd h.1 (by decide),fun j h=>absurd h (by decide),fun j=>⟨Int.le_refl 0,by decide⟩,fun j h=>(h rfl).elim,fun j h=>(h rfl).elim,fun j h=>(h rfl).elim,fun j h=>(h rfl).elim,fun j h=>(h rfl).elim,fun j h=>absurd h (by decide),fun p k hk=>?_,fun p=>?_⟩,fun j hj=>?_,fun j h=>absurd h (by decide),fun p _ h=>?_,fun p _ h=>?_,?_,?_⟩
 . have hk:k∈ZaP ((vw c (Zc1 c) (List.replicate c.threads.toNat newT)).th p):=hk
   unfold ZaP at hk
   rw [if_pos (hthp p)] at hk
   cases hk
 . show ((ZaP ((vw c (Zc1 c) (List.replicate c.threads.toNat newT)).th p)).map (·.t)).Nodup
   unfold ZaP
   rw [if_pos (hthp p)]
   exact List.nodup_nil
 . rw [hthr j hj,hline j hj]
   have hbx:(vw c (Zc1 c) (List.replicate c.threads.toNat newT)).bx j=[]:=by
     have h0:=hj.1
     have h1:=hj.2
     rw [rd_X hj]
     show (List.replicate c.threads.toNat ([]:List Entry)).getD j.toNat []=[]
     rw [List.getD_eq_getElem?_getD,List.getElem?_replicate_of_lt (by omega)];rfl
   rw [hbx]
   have hp:newT.phase=0:=rfl
   refine ⟨⟨.inl ⟨rfl,rfl,.inl rfl⟩,fun k=>(k hp).elim,fun k=>?_,fun k=>(k hp).elim,fun k=>?_,fun k=>?_,fun k=>?_,fun k=>?_⟩,fun k=>?_,by simp,fun k=>?_,Zbh (by decide),Zbh (by decide),fun k=>(k hp).elim,fun k=>?_,fun k=>?_,fun k=>?_,fun k=>absurd k (by decide),fun k=>absurd k (by decide),fun k=>(k hp).elim,fun k=>(k hp).elim⟩
   all_goals omega
 . rw [hthp p] at h;exact absurd h (by decide)
 . rw [hthp p] at h;exact absurd h (by decide)
 . refine ⟨fun i m a1 a2 a3 a4=>.inl (hnode i m a1 a2 a3 a4),fun j _ m hm=>(by rw [hun j] at hm;cases hm),fun j k m _ _ _ hm _=>(by rw [hun j] at hm;cases hm),fun j _ hp=>?_,fun j _ h=>absurd h (by decide),fun i m j a1 a2 a3 a4 hj hD=>?_,fun j _ hp=>?_⟩
   . rw [hthp j] at hp;exact absurd hp.1 (by decide)
   . rw [hnode i m a1 a2 a3 a4] at hD
     unfold InT at hj
     omega
   . rw [hthp j] at hp;exact absurd hp (by decide)
 . refine ⟨fun i r=>?_,fun j=>?_,fun j=>?_⟩
   . show Num (vwB c _ i r)
     unfold vwB
     split
     . exact hwn _
     . exact Zbh (by decide)
   . show Num (vwL c _ j)
     unfold vwL
     split
     . exact hwn _
     . exact Zbh (by decide)
   . show Num (vwR c _ j)
     unfold vwR
     split
     . exact hwn _
     . exact Zbh (by decide)
end
end Go.Proofs.Mill
/- Whatever is done, the ops are as if done one after another. -/
namespace Go.Proofs.Mill
def ZbZ (j:Int) (log:List Mark):List Mark:=log.filter (fun m=>m.t == j)
theorem Zv7 {j:Int} {a b:List Mark}:ZbZ j (a++b)=ZbZ j a++ZbZ j b:=List.filter_append ..
def Fits (lo hi:Int) (own:List Mark) (n:Nat) (last h:Event):Prop :=
 n<own.length/\(own.getD n Zbc).op=h.op/\(own.getD n Zbc).item=h.item/\(own.getD n Zbc).prior=h.prior/\h.did=(App h.op h.prior lo hi).2/\last.op=h.op/\last.item=h.item/\last.step<(own.getD n Zbc).step/\(own.getD n Zbc).step<=h.step
instance (lo hi:Int) (own:List Mark) (n:Nat) (last h:Event):Decidable (Fits lo hi own n last h):=Classical.propDecidable _
def ansE (lo hi j:Int) (own:List Mark) (s:Nat×Bool×Event) (h:Event):Option (Nat×Bool×Event) := if h.t≠j\/h.kind=3 then some s else if h.kind=1 then (if s.2.1=true then none else some (s.1,true,h)) else if s.2.1=true/\Fits lo hi own s.1 s.2.2 h then some (s.1+1,false,s.2.2) else none
def ansL (lo hi j:Int) (own:List Mark):Nat×Bool×Event->List Event->Option (Nat×Bool×Event)
 | s,[]=>some s
 | s, h :: r => match ansE lo hi j own s h with
  | some s=>ansL lo hi j own s r
  | none=>none
theorem ZgU {lo hi j:Int} {own:List Mark}:∀ {a b:List Event} {s s':Nat×Bool×Event},ansL lo hi j own s a=some s'->ansL lo hi j own s (a++b)=ansL lo hi j own s' b
 | [],b,s,s',h=>by cases h;rfl
 | e :: a, b, s, s', h => by
   have h:(match ansE lo hi j own s e with | some s=>ansL lo hi j own s a | none=>none)=some s':=h
   show (match ansE lo hi j own s e with | some s=>ansL lo hi j own s (a++b) | none=>none)=_
   cases h1:ansE lo hi j own s e with
   | none=>rw [h1] at h;cases h
   | some v=>rw [h1] at h;exact ZgU h
theorem Zl7 {lo hi j:Int} {own:List Mark} {s:Nat×Bool×Event} {e:Event}:ansL lo hi j own s [e]=ansE lo hi j own s e:=by
 show (match ansE lo hi j own s e with | some s=>ansL lo hi j own s [] | none=>none)=_
 cases ansE lo hi j own s e <;> rfl
theorem ZxK {lo hi:Int} {own x:List Mark} {n:Nat} {last h:Event} (f:Fits lo hi own n last h):Fits lo hi (own++x) n last h:=by
 have e:(own++x).getD n Zbc=own.getD n Zbc:=by
   rw [List.getD_eq_getElem?_getD,List.getD_eq_getElem?_getD,List.getElem?_append_left f.1]
 unfold Fits at f ⊢
 rw [e,List.length_append]
 exact ⟨by omega,f.2⟩
theorem Zx8 {lo hi j:Int} {own x:List Mark} {s s':Nat×Bool×Event} {h:Event} (a:ansE lo hi j own s h=some s'):ansE lo hi j (own++x) s h=some s':=by
 unfold ansE at a ⊢
 split at a
 . rename_i g;rw [if_pos g];exact a
 . rename_i g
   rw [if_neg g]
   split at a
   . rename_i k;rw [if_pos k];exact a
   . rename_i k
     rw [if_neg k]
     split at a
     . rename_i f;rw [if_pos ⟨f.1,ZxK f.2⟩];exact a
     . cases a
theorem ZrV {lo hi j:Int} {own x:List Mark}:∀ {l:List Event} {s s':Nat×Bool×Event},ansL lo hi j own s l=some s'->ansL lo hi j (own++x) s l=some s'
 | [],s,s',h=>h
 | e :: l, s, s', h => by
   have h:(match ansE lo hi j own s e with | some s=>ansL lo hi j own s l | none=>none)=some s':=h
   show (match ansE lo hi j (own++x) s e with | some s=>ansL lo hi j (own++x) s l | none=>none)=_
   cases h1:ansE lo hi j own s e with
   | none=>rw [h1] at h;cases h
   | some v =>
     rw [h1] at h
     rw [Zx8 h1]
     exact ZrV h
def Inb (c:Config) (x:Int):Prop:=c.bounded=true->c.lo<=x/\x<=c.hi
instance (c:Config) (x:Int):Decidable (Inb c x):=Classical.propDecidable _
def ZeI (c:Config) (i:Int):Int->List Mark->Option Int
 | x,[]=>some x
 | x,m::r=>if m.item≠i then ZeI c i x r else if m.prior=x/\Inb c (App m.op x c.lo c.hi).1 then ZeI c i (App m.op x c.lo c.hi).1 r else none
theorem Zqn {c:Config} {i x:Int} {m:Mark} {r:List Mark}:ZeI c i x (m::r)=if m.item≠i then ZeI c i x r else if m.prior=x/\Inb c (App m.op x c.lo c.hi).1 then ZeI c i (App m.op x c.lo c.hi).1 r else none:=rfl
theorem ZkJ {c:Config} {i:Int}:∀ {a b:List Mark} {x y:Int},ZeI c i x a=some y->ZeI c i x (a++b)=ZeI c i y b
 | [],b,x,y,h=>by cases h;rfl
 | m :: a, b, x, y, h => by
   rw [List.cons_append,Zqn]
   rw [Zqn] at h
   by_cases e:m.item≠i
   . rw [if_pos e] at h ⊢;exact ZkJ h
   . rw [if_neg e] at h ⊢
     by_cases g:m.prior=x/\Inb c (App m.op x c.lo c.hi).1
     . rw [if_pos g] at h ⊢;exact ZkJ h
     . rw [if_neg g] at h;cases h
theorem ZpC {c:Config} {i:Int}:∀ {a:List Mark} {x y:Int},ZeI c i x a=some y->Inb c x->Inb c y
 | [],x,y,h,hx=>by cases h;exact hx
 | m :: a, x, y, h, hx => by
   unfold ZeI at h
   by_cases e:m.item≠i
   . rw [if_pos e] at h;exact ZpC h hx
   . rw [if_neg e] at h
     by_cases g:m.prior=x/\Inb c (App m.op x c.lo c.hi).1
     . rw [if_pos g] at h;exact ZpC h g.2
     . rw [if_neg g] at h;cases h
theorem ZB1 {o:Op} {x lo hi:Int} (hx:Num x) (hlo:Num lo) (hv:Num o.v) (h:Zg9 o true=true) (h1:lo<=x) (h2:x<=hi):lo<=(App o x lo hi).1/\(App o x lo hi).1<=hi:=by
 have ha:=Zlr o x lo hi
 generalize App o x lo hi=r at ha ⊢
 unfold Zg9 at h
 simp only [cond_true,Bool.or_eq_true,beq_iff_eq,Bool.and_eq_true,decide_eq_true_eq] at h
 unfold ZcP at ha
 rcases h with h | ⟨h,hv0⟩
 . rw [ZaR (show ¬o.tag=1 by omega),ZaR (show ¬o.tag=2 by omega),ZaR (show ¬o.tag=3 by omega),ZaR (show ¬o.tag=4 by omega),ZaR (show ¬o.tag=5 by omega),ZaR (show ¬o.tag=6 by omega),ZaR (show ¬o.tag=7 by omega),Zbg h] at ha
   simp only [cond_false,cond_true,ZgV,ZgX,Zaw] at ha
   generalize (decide (o.v>=0) == decide (Zad IntKind.i64 (x+o.v)>=x))=bb at ha
   cases bb with
   | false =>
     have:=Option.some.inj ha
     rw [<- this];exact ⟨h1,h2⟩
   | true =>
     simp only [Bool.not_true,cond_false] at ha
     split at ha
     . have:=Option.some.inj ha
       rw [<- this];exact ⟨h1,h2⟩
     . split at ha
       . have:=Option.some.inj ha
         rw [<- this];exact ⟨h1,h2⟩
       . have:=Option.some.inj ha
         rw [<- this]
         dsimp only
         omega
 . rw [ZaR (show ¬o.tag=1 by omega),ZaR (show ¬o.tag=2 by omega),ZaR (show ¬o.tag=3 by omega),ZaR (show ¬o.tag=4 by omega),ZaR (show ¬o.tag=5 by omega),ZaR (show ¬o.tag=6 by omega),ZaR (show ¬o.tag=7 by omega),ZaR (show ¬o.tag=8 by omega),Zbg h] at ha
   simp only [cond_false,cond_true,Zaw] at ha
   rw [if_neg (by omega),if_neg (by omega),ZtK hx hlo h1] at ha
   have huv:IntKind.u64.wrap o.v=o.v:=by
     rw [<- Zb9]
     exact wrap_u64 hv0 (by have:=hv.2;omega)
   rw [huv] at ha
   split at ha
   . have:=Option.some.inj ha
     rw [<- this]
     dsimp only
     omega
   . have:=Option.some.inj ha
     rw [<- this]
     dsimp only
     have hxx:=hx
     have hll:=hlo
     unfold Num at hxx hll
     rw [Zat (by omega) (by omega)]
     omega
theorem Zqf {c:Config} (hlo:Num c.lo) (it:Int) (s:Int):∀ (b:List Entry) (x:Int),Num x->Inb c x->(∀ e∈b,Num e.op.v/\Zg9 e.op c.bounded=true) ->
   ZeI c it x ((List.zipWith (fun (e:Entry) p=>(⟨e.t,it,e.op,p,0⟩:Mark)) b (Zeg c.lo c.hi b x)).map (ZcD s))=some (allT c.lo c.hi b x)
 | [],x,_,_,_=>rfl
 | e :: b, x, hx, hin, he => by
   show ZeI c it x (ZcD s ⟨e.t,it,e.op,x,0⟩::(List.zipWith (fun (e:Entry) p=>(⟨e.t,it,e.op,p,0⟩:Mark)) b (Zeg c.lo c.hi b (App e.op x c.lo c.hi).1)).map (ZcD s))=some (allT c.lo c.hi b (App e.op x c.lo c.hi).1)
   obtain ⟨n1,n2⟩:=he e (List.mem_cons_self ..)
   have hi2:Inb c (App e.op x c.lo c.hi).1:=by
     intro hb
     rw [hb] at n2
     exact ZB1 hx hlo n1 n2 (hin hb).1 (hin hb).2
   unfold ZeI
   rw [if_neg (show ¬(ZcD s ⟨e.t,it,e.op,x,0⟩).item≠it from fun h=>h rfl),if_pos (show (ZcD s ⟨e.t,it,e.op,x,0⟩).prior=x/\Inb c (App (ZcD s ⟨e.t,it,e.op,x,0⟩).op x c.lo c.hi).1 from ⟨rfl,hi2⟩)]
   exact Zqf hlo it s b _ (Zrt hx n1 hlo) hi2 (fun y hy=>he y (List.mem_cons_of_mem _ hy))
theorem Zpb {c:Config} {it i:Int} (hne:it≠i) (s:Int) {f:Entry->Int->Mark} (hf:∀ e p,(f e p).item=it):∀ (b:List Entry) (ps:List Int) (x:Int),ZeI c i x ((List.zipWith f b ps).map (ZcD s))=some x
 | [],_,x=>rfl
 | e::b,[],x=>rfl
 | e :: b, p :: ps, x => by
   show ZeI c i x (ZcD s (f e p)::(List.zipWith f b ps).map (ZcD s))=some x
   unfold ZeI
   rw [if_pos (show (ZcD s (f e p)).item≠i from by show (f e p).item≠i;rw [hf];exact hne)]
   exact Zpb hne s hf b ps x
theorem Zr6 {c:Config} (it s:Int) (j:Int):∀ (b:List Entry) (x:Int),(b.map (·.t)).Nodup ->
   ZbZ j ((List.zipWith (fun (e:Entry) p=>(⟨e.t,it,e.op,p,0⟩:Mark)) b (Zeg c.lo c.hi b x)).map (ZcD s)) =
     if idxOf b j<b.length then [⟨j,it,(b.getD (idxOf b j) ⟨0,⟨0,0⟩⟩).op,allT c.lo c.hi (b.take (idxOf b j)) x,s⟩] else []
 | [],x,_=>by simp [ZbZ,idxOf,Zeg]
 | e :: b, x, hn => by
   rw [List.map_cons,List.nodup_cons] at hn
   show ZbZ j (ZcD s ⟨e.t,it,e.op,x,0⟩::(List.zipWith (fun (e:Entry) p=>(⟨e.t,it,e.op,p,0⟩:Mark)) b (Zeg c.lo c.hi b (App e.op x c.lo c.hi).1)).map (ZcD s))=_
   have ih:=Zr6 (c:=c) it s j b (App e.op x c.lo c.hi).1 hn.2
   have hcons:∀ (m:Mark) (r:List Mark),ZbZ j (m::r)=if m.t=j then m::ZbZ j r else ZbZ j r:=by
     intro m r
     unfold ZbZ
     rw [List.filter_cons]
     by_cases h:m.t=j
     . rw [if_pos (by simp [h]),if_pos h]
     . rw [if_neg (by simp [h]),if_neg h]
   rw [hcons]
   show (if e.t=j then _ else _)=_
   by_cases h:e.t=j
   . have i0:idxOf (e::b) j=0:=by rw [<- h];exact ZtZ
     have i1:¬idxOf b j<b.length:=by
       intro hlt
       apply hn.1
       unfold idxOf at hlt
       have hlt':(b.map (·.t)).findIdx (fun t=>t == j)<(b.map (·.t)).length:=by rwa [List.length_map]
       have:=List.findIdx_getElem (w:=hlt')
       rw [h,<- eq_of_beq this]
       exact List.getElem_mem hlt'
     rw [if_pos h,ih,if_neg i1,i0,if_pos (by simp)]
     show [ZcD s ⟨e.t,it,e.op,x,0⟩]=_
     rw [h]
     rfl
   . have i1:idxOf (e::b) j=idxOf b j+1:=by
       unfold idxOf
       rw [List.map_cons,List.findIdx_cons]
       have:(e.t == j)=false:=by simpa using h
       rw [this]
       rfl
     rw [if_neg h,ih,i1]
     by_cases hlt:idxOf b j<b.length
     . rw [if_pos hlt,if_pos (by rw [List.length_cons];omega)]
       rfl
     . rw [if_neg hlt,if_neg (by rw [List.length_cons];omega)]
end Go.Proofs.Mill
/- Whatever is done, the ops are as if done one after another: kept by every entry. -/
namespace Go.Proofs.Mill
theorem ZwD (h:Thread):(Zdf h).phase=4\/(Zdf h).phase=7\/(Zdf h).phase=11\/(Zdf h).phase=2:=by
 unfold Zdf
 split
 . exact .inl rfl
 . have:=Zb2 { h with phase:=4,held:=h.held++[h.node],node:=h.node / 2,at_:=0 }
   have e:(Zgo { h with phase:=4,held:=h.held++[h.node],node:=h.node / 2 }).phase=(Zfh { h with phase:=4,held:=h.held++[h.node],node:=h.node / 2,at_:=0 }).phase:=rfl
   rw [e]
   omega
theorem Zi0 (h:Thread):(Zfh h).phase=7\/(Zfh h).phase=11\/(Zfh h).phase=2:=by
 have:=Zb2 h
 omega
section
variable {c:Config} {t:Int} {v v':Vw} {h:Thread} {log:List Mark} {done:Bool}
theorem Zbd {h':Thread}:(put v t h').th t=h':=Zag
theorem Zi9 (g:Thread):((Zbq g).phase=0↔Zev g=true):=by
 have:=Zes g
 cases hd:Zev g with
 | true=>rw [hd] at this;simp at this ⊢;exact this.1
 | false=>rw [hd] at this;simp at this ⊢;omega
theorem Tr.idle (T:Tr c t v h v' log done) (hv:v.th t=h) (hp:h.phase≠0):((v'.th t).phase=0↔done=true):=by
 have no:∀ {p:Int},p≠0->(p=0↔false=true):=fun h=>⟨fun x=>(h x).elim,fun x=>by cases x⟩
 cases T with
 | nop s=>rw [hv];exact no hp
 | start p s=>rw [Zbd];cases s <;> exact no (by dsimp only;decide)
 | load p=>rw [Zbd];exact no (by dsimp only;decide)
 | casF p hw hw2=>rw [Zbd];exact no (by dsimp only;decide)
 | same p e=>rw [Zbd];exact Zi9 _
 | cas p e=>rw [Zbd];exact Zi9 _
 | on25 p o=>rw [Zbd];cases o <;> exact no (by dsimp only;decide)
 | look1 p k=>rw [Zbd];exact no (by dsimp only;decide)
 | look0 p=>rw [Zbd];exact no (by dsimp only;decide)
 | lookL p=>rw [Zbd];exact no (by have:=Zi0 { h with at_:=0 };show (Zfh { h with at_:=0 }).phase≠0;omega)
 | take p n e=>rw [Zbd];exact no (by have:=ZwD h;omega)
 | takeF p=>rw [Zbd];exact no (by dsimp only;decide)
 | join p n e=>rw [Zbd];exact no (by have:=Zi0 { h with phase:=4,stop:=h.node,at_:=0 };show (Zfh { h with phase:=4,stop:=h.node,at_:=0 }).phase≠0;omega)
 | joinF p=>rw [Zbd];exact no (by dsimp only;decide)
 | seeF p a e=>rw [Zbd];exact no (by dsimp only;decide)
 | seeD p a k=>rw [Zbd];exact no (by dsimp only;decide)
 | close p a e=>rw [Zbd];exact no (by have:=Zi0 { h with at_:=Zad IntKind.i64 (h.at_+1) };show (Zfh { h with at_:=Zad IntKind.i64 (h.at_+1) }).phase≠0;omega)
 | closeF p=>rw [Zbd];exact no (by dsimp only;decide)
 | takeB p w=>rw [Zbd];exact no (by dsimp only;decide)
 | clear p a=>rw [Zbd];exact no (by have:=Zi0 { h with at_:=Zad IntKind.i64 (h.at_+1) };show (Zfh { h with at_:=Zad IntKind.i64 (h.at_+1) }).phase≠0;omega)
 | box11 p=>rw [Zbd];exact no (by dsimp only;decide)
 | dep p n=>rw [Zbd];exact no (by dsimp only;decide)
 | told p e=>rw [Zbd];exact no (by dsimp only;decide)
 | res p=>rw [Zbd];exact Zi9 _
 | tell1 p a w=>rw [Zbd];exact no (by dsimp only;decide)
 | tell2 p a w=>rw [Zbd];exact Zi9 _
 | box17 p=>rw [Zbd];exact no (by dsimp only;decide)
 | open18 p=>rw [Zbd];exact no (by dsimp only;decide)
 | swap20 p s w=>rw [Zbd];exact no (by dsimp only;decide)
 | swap23 p s=>rw [Zbd];exact no (by dsimp only;decide)
 | shut20 p e=>rw [Zbd];exact no (by dsimp only;decide)
 | shutF p e=>rw [Zbd];exact no (by dsimp only;decide)
 | cap21 p w e=>rw [Zbd];exact no (by dsimp only;decide)
 | capF p=>rw [Zbd];exact no (by dsimp only;decide)
 | absorb p w=>rw [Zbd];exact no (by dsimp only;decide)
 | spinF p e=>rw [Zbd];exact no (by dsimp only;decide)
 | spinL p e=>rw [Zbd];exact no (by dsimp only;omega)
 | spinO p e=>rw [Zbd];exact no (by dsimp only;decide)
 | open24 p=>rw [Zbd];exact no (by dsimp only;decide)
 | leave p e hw hw2 o=>rw [Zbd];cases o <;> exact no (by dsimp only;decide)
 | leaveF p e=>rw [Zbd];exact no (by dsimp only;decide)
def ZAC (c:Config) (v v':Vw) (h:Thread) (log:List Mark):Prop :=
 (log=[]/\∀ i,v'.b i 0=v.b i 0)\/(log=Zf9 c h (v.b h.item 0)/\v'.b h.item 0=allT c.lo c.hi h.batch (v.b h.item 0)/\∀ i,i≠h.item->v'.b i 0=v.b i 0)
theorem Tr.cells (T:Tr c t v h v' log done) (hy:h.phase=3->h.y=allT c.lo c.hi h.batch h.x) (hn:0<=Zaz c) (hat:h.phase=8\/h.phase=10->Zbm h≠0):ZAC c v v' h log:=by
 have sm:∀ {a b:List Mark},(∀ i,v'.b i 0=v.b i 0)->ZAC c v v' h []:=fun x=>.inl ⟨rfl,x⟩
 have wn:∀ {i m w:Int},m≠0->∀ k,setb v.b i m w k 0=v.b k 0:=fun hm k=>ZcU (fun x=>hm x.2.symm)
 cases T with
 | same p e=>exact .inr ⟨rfl,e.symm,fun i _=>rfl⟩
 | cas p e =>
   refine .inr ⟨by rw [e],?_,fun i hi=>ZcU (fun x=>hi x.1)⟩
   show setb v.b h.item 0 h.y h.item 0=_
   rw [ZeJ,hy p,e]
 | take p n e=>exact .inl ⟨rfl,wn (by omega)⟩
 | join p n e=>exact .inl ⟨rfl,wn (by omega)⟩
 | close p a e=>exact .inl ⟨rfl,wn (hat (.inl p))⟩
 | clear p a=>exact .inl ⟨rfl,wn (hat (.inr p))⟩
 | dep p n=>exact .inl ⟨rfl,wn (by omega)⟩
 | swap20 p s w=>exact .inl ⟨rfl,wn (by omega)⟩
 | swap23 p s=>exact .inl ⟨rfl,wn (by omega)⟩
 | nop s=>exact .inl ⟨rfl,fun i=>rfl⟩
 | start p s=>exact .inl ⟨rfl,fun i=>rfl⟩
 | load p=>exact .inl ⟨rfl,fun i=>rfl⟩
 | casF p hw hw2=>exact .inl ⟨rfl,fun i=>rfl⟩
 | on25 p o=>exact .inl ⟨rfl,fun i=>rfl⟩
 | look1 p k=>exact .inl ⟨rfl,fun i=>rfl⟩
 | look0 p=>exact .inl ⟨rfl,fun i=>rfl⟩
 | lookL p=>exact .inl ⟨rfl,fun i=>rfl⟩
 | takeF p=>exact .inl ⟨rfl,fun i=>rfl⟩
 | joinF p=>exact .inl ⟨rfl,fun i=>rfl⟩
 | seeF p a e=>exact .inl ⟨rfl,fun i=>rfl⟩
 | seeD p a k=>exact .inl ⟨rfl,fun i=>rfl⟩
 | closeF p=>exact .inl ⟨rfl,fun i=>rfl⟩
 | takeB p w=>exact .inl ⟨rfl,fun i=>rfl⟩
 | box11 p=>exact .inl ⟨rfl,fun i=>rfl⟩
 | told p e=>exact .inl ⟨rfl,fun i=>rfl⟩
 | res p=>exact .inl ⟨rfl,fun i=>rfl⟩
 | tell1 p a w=>exact .inl ⟨rfl,fun i=>rfl⟩
 | tell2 p a w=>exact .inl ⟨rfl,fun i=>rfl⟩
 | box17 p=>exact .inl ⟨rfl,fun i=>rfl⟩
 | open18 p=>exact .inl ⟨rfl,fun i=>rfl⟩
 | shut20 p e=>exact .inl ⟨rfl,fun i=>rfl⟩
 | shutF p e=>exact .inl ⟨rfl,fun i=>rfl⟩
 | cap21 p w e=>exact .inl ⟨rfl,fun i=>rfl⟩
 | capF p=>exact .inl ⟨rfl,fun i=>rfl⟩
 | absorb p w=>exact .inl ⟨rfl,fun i=>rfl⟩
 | spinF p e=>exact .inl ⟨rfl,fun i=>rfl⟩
 | spinL p e=>exact .inl ⟨rfl,fun i=>rfl⟩
 | spinO p e=>exact .inl ⟨rfl,fun i=>rfl⟩
 | open24 p=>exact .inl ⟨rfl,fun i=>rfl⟩
 | leave p e hw hw2 o=>exact .inl ⟨rfl,fun i=>rfl⟩
 | leaveF p e=>exact .inl ⟨rfl,fun i=>rfl⟩
end
structure LinT (c:Config) (w:Wld) (th:Thread) (ro:Int) (co:Option Int) (j:Int):Prop where
  ex:∃ (k:Nat) (op:Bool) (last:Event),ansL c.lo c.hi j (ZbZ j w.log) (0,false,ZeG) w.hist=some (k,op,last)/\(op=true↔ro≠0) /\
    (op=true->last.op=th.op/\last.item=th.item/\last.kind=1/\last.t=j/\last∈w.hist/\last.step<=w.steps) /\
    (co=none->(ZbZ j w.log).length=k) /\
    (∀ x,co=some x->(ZbZ j w.log).length=k+1/\((ZbZ j w.log).getD k Zbc).op=th.op/\((ZbZ j w.log).getD k Zbc).item=th.item/\((ZbZ j w.log).getD k Zbc).prior=x/\last.step<((ZbZ j w.log).getD k Zbc).step/\((ZbZ j w.log).getD k Zbc).step<=w.steps)
structure Lin (c:Config) (w:Wld) (ro:Int->Int) (co:Int->Option Int):Prop where
  ans:∀ j,InT c j->LinT c w ((vw c w.m w.t).th j) (ro j) (co j) j
  cells:∀ i,0<=i->i<c.items->ZeI c i c.init w.log=some ((vw c w.m w.t).b i 0)
  srt:w.log.Pairwise (fun a b=>a.step<=b.step)
  steps:∀ m∈w.log,1<=m.step/\m.step<=w.steps
  asked:∀ m∈w.log,∃ h∈w.hist,h.kind=1/\h.t=m.t/\h.item=m.item/\h.op=m.op/\h.step<m.step
  inlog:∀ m∈w.log,InT c m.t/\(0<=m.item/\m.item<c.items)/\Zg9 m.op c.bounded=true/\Num m.op.v
  ehist:∀ h∈w.hist,InT c h.t/\(h.kind=1\/h.kind=2\/h.kind=3)/\h.step<=w.steps/\0<=h.step/\Num h.op.v/\Num h.prior
  may:∀ j,InT c j->ro j≠0->Zg9 ((vw c w.m w.t).th j).op c.bounded=true
  hsrt:w.hist.Pairwise (fun a b=>a.step<=b.step)
section
variable {c:Config} {w:Wld} {n:Nat} {ro pa rt ro' pa' rt':Int->Int} {co co':Int->Option Int} {t:Int}
theorem LinT.skip {th:Thread} {r:Int} {cc:Option Int} {j:Int} (L:LinT c w th r cc j) {w':Wld} {h:Event} (hh:h.t≠j\/h.kind=3) (e1:w'.log=w.log) (e2:w'.hist=w.hist++[h]) (e3:w.steps<=w'.steps):LinT c w' th r cc j:=by
 obtain ⟨k,op,last,a,b,d,f,g⟩:=L.ex
 refine ⟨k,op,last,?_,b,fun x=>?_,by rw [e1];exact f,fun x hx=>?_⟩
 . rw [e1,e2,ZgU a,Zl7]
   unfold ansE
   rw [if_pos hh]
 . obtain ⟨d1,d2,d3,d4,d5,d6⟩:=d x
   exact ⟨d1,d2,d3,d4,by rw [e2];exact List.mem_append_left _ d5,by omega⟩
 . rw [e1]
   obtain ⟨g1,g2,g3,g4,g5,g6⟩:=g x hx
   exact ⟨g1,g2,g3,g4,g5,by omega⟩
theorem LinT.same {th:Thread} {r:Int} {cc:Option Int} {j:Int} (L:LinT c w th r cc j) {w':Wld} (e1:ZbZ j w'.log=ZbZ j w.log) (e2:w'.hist=w.hist) (e3:w.steps<=w'.steps):LinT c w' th r cc j:=by
 obtain ⟨k,op,last,a,b,d,f,g⟩:=L.ex
 refine ⟨k,op,last,by rw [e1,e2];exact a,b,fun x=>?_,by rw [e1];exact f,fun x hx=>?_⟩
 . obtain ⟨d1,d2,d3,d4,d5,d6⟩:=d x
   exact ⟨d1,d2,d3,d4,by rw [e2];exact d5,by omega⟩
 . rw [e1]
   obtain ⟨g1,g2,g3,g4,g5,g6⟩:=g x hx
   exact ⟨g1,g2,g3,g4,g5,by omega⟩
theorem Lin.hist_more (Li:Lin c w ro co) {h:Event} (hs:w.steps<=h.step):(w.hist++[h]).Pairwise (fun a b=>a.step<=b.step):=by
 rw [List.pairwise_append]
 refine ⟨Li.hsrt,List.pairwise_singleton _ _,fun a ha b hb=>?_⟩
 rw [List.mem_singleton] at hb
 subst hb
 have:=(Li.ehist a ha).2.2.1
 omega
theorem Lin.invoke (Li:Lin c w ro co) (W:WInv c w n ro pa rt co) (hC:CfgOK c) {e:SEntry} (ht:InT c e.t) (ho:Zg9 e.op c.bounded=true) (hop:Num e.op.v):(¬(w.t.getD e.t.toNat Zas).phase=0->Lin c (invT w e) ro co)/\((w.t.getD e.t.toNat Zas).phase=0->Lin c (invT w e) (seta ro e.t 1) co):=by
 have hth:(vw c w.m w.t).th e.t=w.t.getD e.t.toNat Zas:=ZfX ht
 have hst:=W.steps
 constructor
 . intro hp
   have e0:invT w e={ w with hist:=w.hist++[⟨3,e.t,e.item,e.op,0,false,w.steps⟩] }:=by unfold invT;rw [if_pos hp]
   rw [e0]
   refine ⟨fun j hj=>(Li.ans j hj).skip (.inr rfl) rfl rfl (Int.le_refl _),Li.cells,Li.srt,Li.steps,fun m hm=>?_,Li.inlog,fun h hh=>?_,Li.may,Li.hist_more (Int.le_refl _)⟩
   . obtain ⟨h,h1,h2⟩:=Li.asked m hm
     exact ⟨h,List.mem_append_left _ h1,h2⟩
   . rcases List.mem_append.1 hh with hh | hh
     . exact Li.ehist h hh
     . rw [List.mem_singleton] at hh;subst hh
       exact ⟨ht,.inr (.inr rfl),Int.le_refl _,hst.1,hop,Zbh (show (-1000000:Int)<=0/\(0:Int)<=1000000 by decide)⟩
 . intro hp
   have h0:ro e.t=0:=(W.inv.busy ht).2 (by rw [hth];exact hp)
   have e0:invT w e={ w with t:=w.t.set e.t.toNat (Zfz w.c e.t e.item e.op w.now (w.t.getD e.t.toNat Zas).width),hist:=w.hist++[⟨1,e.t,e.item,e.op,0,false,w.steps⟩] }:=by unfold invT;rw [if_neg (fun x=>x hp)]
   rw [e0]
   obtain ⟨b,hb⟩:∃ b,b=Zfz w.c e.t e.item e.op w.now (w.t.getD e.t.toNat Zas).width:=⟨_,rfl⟩
   rw [<- hb]
   have hvt:(vw c w.m (w.t.set e.t.toNat b)).th=seta (vw c w.m w.t).th e.t b:=by
     rw [ZnN W.lenT ht];rfl
   refine ⟨fun j hj=>?_,Li.cells,Li.srt,Li.steps,fun m hm=>?_,Li.inlog,fun h hh=>?_,fun j hj hr=>?_,Li.hist_more (Int.le_refl _)⟩
   . show LinT c _ ((vw c w.m (w.t.set e.t.toNat b)).th j) (seta ro e.t 1 j) (co j) j
     rw [hvt]
     by_cases ej:j=e.t
     . rw [ej,Zag,Zag]
       obtain ⟨k,op,last,a,b1,d,f,g⟩:=(Li.ans e.t ht).ex
       have hop:op=false:=by
         cases op with
         | false=>rfl
         | true=>exact (b1.1 rfl h0).elim
       have hct:co e.t=none:=(W.inv.core.k0 e.t h0).1
       refine ⟨k,true,⟨1,e.t,e.item,e.op,0,false,w.steps⟩,?_,⟨fun _=>by decide,fun _=>rfl⟩,fun _=>⟨by rw [hb];rfl,by rw [hb];rfl,rfl,rfl,List.mem_append_right _ (List.mem_singleton.2 rfl),Int.le_refl _⟩,f,fun x hx=>by rw [hct] at hx;cases hx⟩
       rw [ZgU a,Zl7,hop]
       unfold ansE
       rw [if_neg (by show ¬(e.t≠e.t\/(1:Int)=3);simp),if_pos rfl,if_neg (show ¬(false=true) by decide)]
     . rw [Zaf ej,Zaf ej]
       exact (Li.ans j hj).skip (.inl (Ne.symm ej)) rfl rfl (Int.le_refl _)
   . obtain ⟨h,h1,h2⟩:=Li.asked m hm
     exact ⟨h,List.mem_append_left _ h1,h2⟩
   . rcases List.mem_append.1 hh with hh | hh
     . exact Li.ehist h hh
     . rw [List.mem_singleton] at hh;subst hh
       exact ⟨ht,.inl rfl,Int.le_refl _,hst.1,hop,Zbh (show (-1000000:Int)<=0/\(0:Int)<=1000000 by decide)⟩
   . show Zg9 ((vw c w.m (w.t.set e.t.toNat b)).th j).op c.bounded=true
     rw [hvt]
     by_cases ej:j=e.t
     . rw [ej,Zag,hb];exact ho
     . rw [Zaf ej] at hr ⊢;exact Li.may j hj hr
theorem Core.inBatch {ba:Int->List Entry} {ks:Int->List Kid} {opf:Int->Op} {it:Int->Int} (C:Core c ba ks opf it ro pa rt co) {r:Int} (hr:ro r=1) (j:Int):(ro j≠0/\co j=none/\rt j=r)↔idxOf (ba r) j<(ba r).length:=by
 obtain ⟨cr,rr⟩:=C.k1 r (by omega)
 constructor
 . rintro ⟨a,b,d⟩
   obtain ⟨_,_,o,hs⟩:=C.k5 j a b
   rw [d] at hs
   obtain ⟨r1,hr1⟩:=C.k3 j a
   have hm:(⟨j,opf j⟩:Entry)∈ba r:=hs.mem (by rw [hr1];exact List.mem_cons_self ..)
   exact ZB5 hm
 . intro h
   unfold idxOf at h
   have h':((ba r).map (·.t)).findIdx (fun t=>t == j)<((ba r).map (·.t)).length:=by rwa [List.length_map]
   have h2:=List.findIdx_getElem (w:=h')
   have h3:j∈(ba r).map (·.t):=by
     rw [<- eq_of_beq h2];exact List.getElem_mem h'
   obtain ⟨e,he,rfl⟩:=List.mem_map.1 h3
   obtain ⟨a,b,d,f,g⟩:=C.k4 r (by omega) cr e he
   exact ⟨a,f,by rw [g,rr]⟩
theorem Lin.pick (Li:Lin c w ro co) (W:WInv c w n ro pa rt co) (hC:CfgOK c) (hlo:Num c.lo) (hhi:Num c.hi) (hn:n<=200000) (hci:Inb c c.init) (ht:InT c t) (hp:(w.t.getD t.toNat Zas).phase≠0) :
   ∃ ro' pa' rt' co',WInv c (Zc8 w t (ZaM (Zbl w t))) (n+1) ro' pa' rt' co'/\Lin c (Zc8 w t (ZaM (Zbl w t))) ro' co':=by
 obtain ⟨_,ro',pa',rt',co1,W',info,T⟩:=W.pick hC hlo hhi hn ht hp
 refine ⟨ro',pa',rt',_,W',?_⟩
 have hth:(vw c w.m w.t).th t=w.t.getD t.toNat Zas:=ZfX ht
 have hkp:=Zm1 (Zbl w t)
 have hL:=W.inv.loc t ht
 have hro:ro t≠0:=by
   intro h0
   have:=(W.inv.busy ht).1 h0
   rw [hth] at this
   exact hp this
 have hop1:(ZaM (Zbl w t)).th.op=(w.t.getD t.toNat Zas).op:=Zvq hkp
 have hit1:(ZaM (Zbl w t)).th.item=(w.t.getD t.toNat Zas).item:=Zyb hkp
 obtain ⟨u,hu⟩:∃ u,u=ZaM (Zbl w t):=⟨_,rfl⟩
 rw [<- hu] at W' info T hop1 hit1 ⊢
 have hst:=W.steps
 have hs:Zez w=w.steps+1:=by unfold Zez;rw [Zat (by omega) (by omega)]
 have hvth:(vw c (Zc8 w t u).m (Zc8 w t u).t).th=seta (vw c w.m w.t).th t u.th:=by
   show vwT c (w.t.set t.toNat u.th)=_
   rw [ZxD W.lenT ht];rfl
 have hidle:=T.idle hth hp
 rw [hvth,Zag] at hidle
 have hcells:=T.cells (fun p=>by rw [<- hth] at p ⊢;exact hL.y p) (Zbx c).1 (fun p=>by
   rw [<- hth] at p ⊢
   have ha:=hL.ari.2.2.2.2.2.2.1 (by omega)
   have:=(W.inv.nodes t ht).1 _ (Zf2 (by omega) ha)
   omega)
 have hbz:∀ j,InT c j->j≠t->(ro' j=0↔ro j=0):=by
   intro j hj hjt
   rw [W'.inv.busy hj,W.inv.busy hj,hvth,Zaf hjt]
 have hbt:ro' t=0↔u.done=true:=by
   rw [W'.inv.busy ht,hvth,Zag];exact hidle
 obtain ⟨co',hco'⟩:∃ co',co'=if u.done=true then seta co1 t none else co1:=⟨_,rfl⟩
 rw [<- hco'] at W' ⊢
 have hcoj:∀ j,j≠t->co' j=co1 j:=by
   intro j hj;rw [hco'];split
   . rw [Zaf hj]
   . rfl
 obtain ⟨ms,hms⟩:∃ ms,ms=u.log.map (ZcD (Zez w)):=⟨_,rfl⟩
 have hlog:(Zc8 w t u).log=w.log++ms:=by rw [hms];rfl
 have hsteps:(Zc8 w t u).steps=w.steps+1:=hs
 have own:∀ j,InT c j->∃ (k:Nat) (op:Bool) (last:Event),ansL c.lo c.hi j (ZbZ j (w.log++ms)) (0,false,ZeG) w.hist=some (k,op,last)/\(op=true↔ro j≠0) /\
     (op=true->last.op=((vw c w.m w.t).th j).op/\last.item=((vw c w.m w.t).th j).item/\last.kind=1/\last.t=j/\last∈w.hist/\last.step<=w.steps) /\
     (co1 j=none->(ZbZ j (w.log++ms)).length=k) /\
     (∀ x,co1 j=some x->(ZbZ j (w.log++ms)).length=k+1/\((ZbZ j (w.log++ms)).getD k Zbc).op=((vw c w.m w.t).th j).op/\((ZbZ j (w.log++ms)).getD k Zbc).item=((vw c w.m w.t).th j).item/\((ZbZ j (w.log++ms)).getD k Zbc).prior=x/\last.step<((ZbZ j (w.log++ms)).getD k Zbc).step/\((ZbZ j (w.log++ms)).getD k Zbc).step<=w.steps+1):=by
   intro j hj
   obtain ⟨k,op,last,a,b,d,f,g⟩:=(Li.ans j hj).ex
   rcases info.1 with ⟨e1,e2⟩ | ⟨hr1,e1,e2⟩
   . have:ms=[]:=by rw [hms,e1];rfl
     rw [this,List.append_nil,e2]
     exact ⟨k,op,last,a,b,d,f,fun x hx=>by obtain ⟨g1,g2,g3,g4,g5,g6⟩:=g x hx;exact ⟨g1,g2,g3,g4,g5,by omega⟩⟩
   . have hmo:ZbZ j ms=if idxOf ((vw c w.m w.t).th t).batch j<((vw c w.m w.t).th t).batch.length then [⟨j,((vw c w.m w.t).th t).item,(((vw c w.m w.t).th t).batch.getD (idxOf ((vw c w.m w.t).th t).batch j) ⟨0,⟨0,0⟩⟩).op,allT c.lo c.hi (((vw c w.m w.t).th t).batch.take (idxOf ((vw c w.m w.t).th t).batch j)) ((vw c w.m w.t).b ((vw c w.m w.t).th t).item 0),Zez w⟩] else []:=by
       rw [hms,e1]
       exact Zr6 _ _ j _ _ (W.inv.core.nod t hro)
     have hib:=W.inv.core.inBatch hr1 j
     rw [Zv7,hmo]
     by_cases hlt:idxOf ((vw c w.m w.t).th t).batch j<((vw c w.m w.t).th t).batch.length
     . obtain ⟨q1,q2,q3⟩:=hib.2 hlt
       have hf:=f q2
       have hc1:co1 j=some (allT c.lo c.hi (((vw c w.m w.t).th t).batch.take (idxOf ((vw c w.m w.t).th t).batch j)) ((vw c w.m w.t).b ((vw c w.m w.t).th t).item 0)):=by
         rw [e2];exact if_pos ⟨q1,q2,q3⟩
       have hd:=d (b.2 q1)
       have hget:(((vw c w.m w.t).th t).batch.getD (idxOf ((vw c w.m w.t).th t).batch j) ⟨0,⟨0,0⟩⟩)∈((vw c w.m w.t).th t).batch:=by
         rw [List.getD_eq_getElem?_getD,List.getElem?_eq_getElem hlt];exact List.getElem_mem hlt
       have hgt:(((vw c w.m w.t).th t).batch.getD (idxOf ((vw c w.m w.t).th t).batch j) ⟨0,⟨0,0⟩⟩).t=j:=by
         rw [List.getD_eq_getElem?_getD,List.getElem?_eq_getElem hlt]
         have h':(((vw c w.m w.t).th t).batch.map (·.t)).findIdx (fun t=>t == j)<(((vw c w.m w.t).th t).batch.map (·.t)).length:=by rw [List.length_map];exact hlt
         have h2:=List.findIdx_getElem (w:=h')
         have:=eq_of_beq h2
         rw [List.getElem_map] at this
         exact this
       have hk4:=W.inv.core.k4 t hro (W.inv.core.k1 t (by omega)).1 _ hget
       rw [hgt] at hk4
       rw [if_pos hlt]
       refine ⟨k,op,last,ZrV a,b,d,fun x=>(by rw [hc1] at x;cases x),fun x hx=>?_⟩
       rw [hc1] at hx
       have hx:=Option.some.inj hx
       have hg:(ZbZ j w.log++[(⟨j,((vw c w.m w.t).th t).item,(((vw c w.m w.t).th t).batch.getD (idxOf ((vw c w.m w.t).th t).batch j) ⟨0,⟨0,0⟩⟩).op,allT c.lo c.hi (((vw c w.m w.t).th t).batch.take (idxOf ((vw c w.m w.t).th t).batch j)) ((vw c w.m w.t).b ((vw c w.m w.t).th t).item 0),Zez w⟩:Mark)]).getD k Zbc=⟨j,((vw c w.m w.t).th t).item,(((vw c w.m w.t).th t).batch.getD (idxOf ((vw c w.m w.t).th t).batch j) ⟨0,⟨0,0⟩⟩).op,allT c.lo c.hi (((vw c w.m w.t).th t).batch.take (idxOf ((vw c w.m w.t).th t).batch j)) ((vw c w.m w.t).b ((vw c w.m w.t).th t).item 0),Zez w⟩:=by
         rw [List.getD_eq_getElem?_getD,List.getElem?_append_right (by omega),hf,Nat.sub_self];rfl
       rw [hg]
       refine ⟨by rw [List.length_append,hf];rfl,hk4.2.1.symm,hk4.2.2.1.symm,hx,?_,?_⟩
       . show last.step<Zez w
         rw [hs];omega
       . show Zez w<=w.steps+1
         rw [hs];exact Int.le_refl _
     . rw [if_neg hlt,List.append_nil]
       have hc1:co1 j=co j:=by rw [e2];exact if_neg (fun x=>hlt (hib.1 x))
       rw [hc1]
       exact ⟨k,op,last,a,b,d,f,fun x hx=>by obtain ⟨g1,g2,g3,g4,g5,g6⟩:=g x hx;exact ⟨g1,g2,g3,g4,g5,by omega⟩⟩
 have hmst:∀ m∈ms,m.step=w.steps+1:=by
   intro m hm
   rw [hms] at hm
   obtain ⟨m0,_,rfl⟩:=List.mem_map.1 hm
   exact hs
 have hment:∀ m∈ms,∃ e∈((vw c w.m w.t).th t).batch,ro t=1/\m.t=e.t/\m.op=e.op/\m.item=((vw c w.m w.t).th t).item:=by
   intro m hm
   rw [hms] at hm
   obtain ⟨m0,hm0,rfl⟩:=List.mem_map.1 hm
   rcases info.1 with ⟨e1,_⟩ | ⟨hr1,e1,_⟩
   . rw [e1] at hm0;cases hm0
   . rw [e1] at hm0
     unfold Zf9 at hm0
     obtain ⟨i,hi,hg⟩:=List.mem_iff_getElem.1 hm0
     rw [List.getElem_zipWith] at hg
     rw [List.length_zipWith] at hi
     exact ⟨((vw c w.m w.t).th t).batch[i]'(by omega),List.getElem_mem _,hr1,by rw [<- hg];rfl,by rw [<- hg];rfl,by rw [<- hg];rfl⟩
 have hk4m:∀ m∈ms,InT c m.t/\ro m.t≠0/\((vw c w.m w.t).th m.t).op=m.op/\((vw c w.m w.t).th m.t).item=m.item:=by
   intro m hm
   obtain ⟨e,he,hr1,a,b,d⟩:=hment m hm
   have hk:=W.inv.core.k4 t hro (W.inv.core.k1 t (by omega)).1 e he
   rw [a,b,d]
   exact ⟨W.inv.core.ent t hro e he,hk.1,hk.2.1,hk.2.2.1⟩
 have hopt:((vw c w.m w.t).th t).op=u.th.op:=by rw [hop1,hth]
 have hitt:((vw c w.m w.t).th t).item=u.th.item:=by rw [hit1,hth]
 refine ⟨fun j hj=>?_,fun i h0 h1=>?_,?_,fun m hm=>?_,fun m hm=>?_,fun m hm=>?_,fun h hh=>?_,fun j hj hr=>?_,?_⟩
 . rw [hvth]
   obtain ⟨k,op,last,a,b,d,f,g⟩:=own j hj
   by_cases ej:j=t
   . rw [ej] at a b d f g hj ⊢
     rw [Zag]
     have hopen:op=true:=b.2 hro
     obtain ⟨d1,d2,d3,d4,d5,d6⟩:=d hopen
     cases hd:u.done with
     | false =>
       have hh:(Zc8 w t u).hist=w.hist:=by show (if u.done=true then _ else _)=_;rw [hd];rfl
       have hct:co' t=co1 t:=by rw [hco',hd];rfl
       refine ⟨k,op,last,by rw [hlog,hh];exact a,⟨fun _ x=>?_,fun _=>hopen⟩,fun _=>⟨by rw [<- hopt];exact d1,by rw [<- hitt];exact d2,d3,d4,by rw [hh];exact d5,by rw [hsteps];omega⟩,fun x=>?_,fun x hx=>?_⟩
       . have:=hbt.1 x;rw [hd] at this;cases this
       . rw [hlog];exact f (by rw [<- hct];exact x)
       . rw [hlog,hsteps]
         have:=g x (by rw [<- hct];exact hx)
         rw [hopt,hitt] at this
         exact this
     | true =>
       have hh:(Zc8 w t u).hist=w.hist++[Zi8 w t u]:=by show (if u.done=true then _ else _)=_;rw [hd];rfl
       have hc1:co1 t=some u.th.x:=by
         have:=info.2 hd
         rw [hvth,Zag] at this
         exact this
       have hct:co' t=none:=by rw [hco',hd,if_pos rfl,Zag]
       obtain ⟨g1,g2,g3,g4,g5,g6⟩:=g _ hc1
       have hfit:Fits c.lo c.hi (ZbZ t (w.log++ms)) k last (Zi8 w t u):=by
         refine ⟨by omega,by rw [g2,hopt];rfl,by rw [g3,hitt];rfl,g4,?_,by rw [d1,hopt];rfl,by rw [d2,hitt];rfl,g5,?_⟩
         . show (App u.th.op u.th.x w.c.lo w.c.hi).2=(App u.th.op u.th.x c.lo c.hi).2
           rw [W.cE]
         . show _<=Zez w
           rw [hs];exact g6
       refine ⟨k+1,false,last,?_,⟨fun x=>(by cases x),fun x=>(x (hbt.2 hd)).elim⟩,fun x=>(by cases x),fun _=>?_,fun x hx=>by rw [hct] at hx;cases hx⟩
       . rw [hlog,hh,ZgU a,Zl7]
         unfold ansE
         rw [if_neg (by show ¬(t≠t\/(2:Int)=3);simp),if_neg (by show ¬(2:Int)=1;decide),if_pos ⟨hopen,hfit⟩]
       . rw [hlog];exact g1
   . rw [Zaf ej,hcoj j ej]
     have hskip:ansL c.lo c.hi j (ZbZ j (Zc8 w t u).log) (0,false,ZeG) (Zc8 w t u).hist=some (k,op,last):=by
       rw [hlog]
       show ansL c.lo c.hi j (ZbZ j (w.log++ms)) (0,false,ZeG) (if u.done=true then w.hist++[Zi8 w t u] else w.hist)=_
       split
       . rw [ZgU a,Zl7]
         unfold ansE
         rw [if_pos (.inl (by show t≠j;exact Ne.symm ej))]
       . exact a
     have hb:=hbz j hj ej
     refine ⟨k,op,last,hskip,⟨fun x=>fun y=>b.1 x (hb.1 y),fun x=>b.2 (fun y=>x (hb.2 y))⟩,fun x=>?_,fun x=>by rw [hlog];exact f x,fun x hx=>by rw [hlog,hsteps];exact g x hx⟩
     obtain ⟨d1,d2,d3,d4,d5,d6⟩:=d x
     refine ⟨d1,d2,d3,d4,?_,by rw [hsteps];omega⟩
     show last∈(if u.done=true then w.hist++[Zi8 w t u] else w.hist)
     split
     . exact List.mem_append_left _ d5
     . exact d5
 . rw [hlog]
   have old:=Li.cells i h0 h1
   rw [ZkJ old]
   have hCin:Inb c ((vw c w.m w.t).b i 0):=ZpC old hci
   have hnx:=W.inv.num.1 i 0
   rcases hcells with ⟨e1,e2⟩ | ⟨e1,e2,e3⟩
   . rw [hms,e1]
     show some _=some _
     rw [e2 i]
   . by_cases ei:i=(w.t.getD t.toNat Zas).item
     . have hr1:ro t=1:=by
         rcases info.1 with ⟨x,_⟩ | ⟨x,_,_⟩
         . exfalso
           rw [x] at e1
           have hb:=W.inv.core.k3 t hro
           obtain ⟨r,hb⟩:=hb
           have hb:((vw c w.m w.t).th t).batch=⟨t,((vw c w.m w.t).th t).op⟩::r:=hb
           rw [hth] at hb
           unfold Zf9 at e1
           rw [hb] at e1
           cases e1
         . exact x
       rw [hms,e1,ei,e2]
       unfold Zf9
       rw [<- ei]
       have:=Zqf hlo i (Zez w) (w.t.getD t.toNat Zas).batch ((vw c w.m w.t).b i 0) hnx hCin (fun e he=>by
         rw [<- hth] at he
         have hk:=W.inv.core.k4 t hro (W.inv.core.k1 t (by omega)).1 e he
         refine ⟨hL.ops (by rw [hth];exact hp) e he,?_⟩
         have:=Li.may e.t (W.inv.core.ent t hro e he) hk.1
         have h2:((vw c w.m w.t).th e.t).op=e.op:=hk.2.1
         rwa [h2] at this)
       exact this
     . rw [hms,e1,e3 i ei]
       exact Zpb (Ne.symm ei) _ (fun _ _=>rfl) _ _ _
 . rw [hlog,List.pairwise_append]
   refine ⟨Li.srt,?_,fun a ha b hb=>?_⟩
   . rw [List.pairwise_iff_getElem]
     intro i j hi hj _
     rw [hmst _ (List.getElem_mem hi),hmst _ (List.getElem_mem hj)]
     exact Int.le_refl _
   . rw [hmst b hb]
     have:=(Li.steps a ha).2
     omega
 . rw [hsteps]
   rw [hlog] at hm
   rcases List.mem_append.1 hm with hm | hm
   . have:=Li.steps m hm;omega
   . rw [hmst m hm];omega
 . rw [hlog] at hm
   have hsub:∀ h∈w.hist,h∈(Zc8 w t u).hist:=by
     intro h hh
     show h∈(if u.done=true then w.hist++[Zi8 w t u] else w.hist)
     split
     . exact List.mem_append_left _ hh
     . exact hh
   rcases List.mem_append.1 hm with hm | hm
   . obtain ⟨h,h1,h2⟩:=Li.asked m hm
     exact ⟨h,hsub h h1,h2⟩
   . obtain ⟨q1,q2,q3,q4⟩:=hk4m m hm
     obtain ⟨k,op,last,a,b,d,_,_⟩:=(Li.ans m.t q1).ex
     obtain ⟨d1,d2,d3,d4,d5,d6⟩:=d (b.2 q2)
     exact ⟨last,hsub _ d5,d3,d4,by rw [d2,q4],by rw [d1,q3],by rw [hmst m hm];omega⟩
 . rw [hlog] at hm
   rcases List.mem_append.1 hm with hm | hm
   . exact Li.inlog m hm
   . obtain ⟨q1,q2,q3,q4⟩:=hk4m m hm
     have hLm:=W.inv.loc m.t q1
     have hpm:((vw c w.m w.t).th m.t).phase≠0:=fun x=>q2 ((W.inv.busy q1).2 x)
     refine ⟨q1,by rw [<- q4];exact hLm.item hpm,by rw [<- q3];exact Li.may m.t q1 q2,?_⟩
     obtain ⟨e,he,_,_,b,_⟩:=hment m hm
     rw [b]
     exact hL.ops (by rw [hth];exact hp) e he
 . have hh:h∈(if u.done=true then w.hist++[Zi8 w t u] else w.hist):=hh
   rw [hsteps]
   have old:h∈w.hist->_:=fun hh=>Li.ehist h hh
   split at hh
   . rcases List.mem_append.1 hh with hh | hh
     . have:=old hh;exact ⟨this.1,this.2.1,by omega,this.2.2.2⟩
     . rw [List.mem_singleton] at hh;subst hh
       refine ⟨ht,.inr (.inl rfl),by show Zez w<=_;rw [hs];exact Int.le_refl _,by show 0<=Zez w;rw [hs];omega,?_,?_⟩
       . show Num u.th.op.v
         obtain ⟨r,hb⟩:=W.inv.core.k3 t hro
         have hb:((vw c w.m w.t).th t).batch=⟨t,((vw c w.m w.t).th t).op⟩::r:=hb
         have:=hL.ops (by rw [hth];exact hp) ⟨t,((vw c w.m w.t).th t).op⟩ (by rw [hb];exact List.mem_cons_self ..)
         rw [<- hopt];exact this
       . show Num u.th.x
         have:=(W'.inv.loc t ht).nx
         rw [hvth,Zag] at this
         exact this
   . have:=old hh;exact ⟨this.1,this.2.1,by omega,this.2.2.2⟩
 . rw [hvth]
   by_cases ej:j=t
   . rw [ej,Zag,hop1,<- hth];exact Li.may t ht hro
   . rw [Zaf ej];exact Li.may j hj (fun x=>hr ((hbz j hj ej).2 x))
 . show (if u.done=true then w.hist++[Zi8 w t u] else w.hist).Pairwise _
   split
   . exact Li.hist_more (by show w.steps<=Zez w;rw [hs];omega)
   . exact Li.hsrt
theorem Lin.entry (Li:Lin c w ro co) (W:WInv c w n ro pa rt co) (hC:CfgOK c) (hlo:Num c.lo) (hhi:Num c.hi) (hn:n<=200000) (hci:Inb c c.init) {e:SEntry} (he:Zbb c e=0) (hop:Num e.op.v) :
   ∃ ro' pa' rt' co',WInv c (ZaT w e) (n+1) ro' pa' rt' co'/\Lin c (ZaT w e) ro' co':=by
 have hE:=(W.entry hC hlo hhi hn he hop).2
 rcases ZiQ he with ⟨k,ht,hi,ho⟩ | ⟨k,ht⟩ | k
 . unfold ZaT
   rw [if_pos k]
   have hI:=Li.invoke W hC ht ho hop
   by_cases hp:(w.t.getD e.t.toNat Zas).phase=0
   . have h2:=hI.2 hp
     have hth:(vw c w.m w.t).th e.t=w.t.getD e.t.toNat Zas:=ZfX ht
     have hl:=W.log;have hh:=W.hist;have hst:=W.steps;have hnw:=W.now
     refine ⟨seta ro e.t 1,pa,seta rt e.t e.t,co,?_,h2⟩
     have hv:=W.inv.invoke hC ht (by rw [hth];exact hp) (i:=e.item) (op:=e.op) (now:=w.now) (wd:=(w.t.getD e.t.toNat Zas).width) hi hop (by rw [hth])
     unfold invT
     rw [if_neg (fun x=>x hp)]
     refine ⟨W.cE,?_,W.lenW,W.lenB,W.tape,?_,?_,?_,?_,?_⟩
     . show ((w.t.set _ _).length:Int)=_
       rw [List.length_set];exact W.lenT
     . show w.log.length<=_;omega
     . show (w.hist++[_]).length<=_
       rw [List.length_append,List.length_singleton];omega
     . show 0<=w.steps/\w.steps<=((n+1:Nat):Int);omega
     . show 0<=w.now/\w.now<=((n+1:Nat):Int);omega
     . show Inv c (vw c w.m (w.t.set _ _)) _ _ _ _
       rw [ZnN W.lenT ht,W.cE]
       exact hv
   . have h2:=hI.1 hp
     have hl:=W.log;have hh:=W.hist;have hst:=W.steps;have hnw:=W.now
     refine ⟨ro,pa,rt,co,?_,h2⟩
     unfold invT
     rw [if_pos hp]
     refine ⟨W.cE,W.lenT,W.lenW,W.lenB,W.tape,?_,?_,?_,?_,W.inv⟩
     . show w.log.length<=_;omega
     . show (w.hist++[_]).length<=_
       rw [List.length_append,List.length_singleton];omega
     . show 0<=w.steps/\w.steps<=((n+1:Nat):Int);omega
     . show 0<=w.now/\w.now<=((n+1:Nat):Int);omega
 . unfold ZaT
   rw [if_neg (show ¬e.kind=1 by omega),if_pos k]
   have hl:=W.log;have hh:=W.hist;have hst:=W.steps;have hnw:=W.now
   by_cases hp:(w.t.getD e.t.toNat Zas).phase=0
   . rw [if_pos hp]
     exact ⟨ro,pa,rt,co,⟨W.cE,W.lenT,W.lenW,W.lenB,W.tape,by omega,by omega,by omega,by omega,W.inv⟩,Li⟩
   . rw [if_neg hp]
     exact Li.pick W hC hlo hhi hn hci ht hp
 . have hl:=W.log;have hh:=W.hist;have hst:=W.steps;have hnw:=W.now
   unfold ZaT
   rw [if_neg (show ¬e.kind=1 by omega),if_neg (show ¬e.kind=2 by omega),if_pos k]
   refine ⟨ro,pa,rt,co,⟨W.cE,W.lenT,W.lenW,W.lenB,W.tape,?_,?_,?_,?_,W.inv⟩,⟨fun j hj=>(Li.ans j hj).same rfl rfl (Int.le_refl _),Li.cells,Li.srt,Li.steps,Li.asked,Li.inlog,Li.ehist,Li.may,Li.hsrt⟩⟩
   . show w.log.length<=_;omega
   . show w.hist.length<=_;omega
   . show 0<=w.steps/\w.steps<=((n+1:Nat):Int);omega
   . show 0<=Zad .i64 (w.now+1)/\Zad .i64 (w.now+1)<=((n+1:Nat):Int)
     rw [Zat (by omega) (by omega)];omega
theorem Lin.entries (hC:CfgOK c) (hlo:Num c.lo) (hhi:Num c.hi) (hci:Inb c c.init):∀ {l:List SEntry} {w:Wld} {n:Nat} {ro pa rt:Int->Int} {co:Int->Option Int},WInv c w n ro pa rt co->Lin c w ro co->n+l.length<=200000->(∀ e∈l,Zbb c e=0/\Num e.op.v) ->
   ∃ ro' pa' rt' co',WInv c (l.foldl ZaT w) (n+l.length) ro' pa' rt' co'/\Lin c (l.foldl ZaT w) ro' co'
 | [],w,n,ro,pa,rt,co,W,Li,_,_=>⟨ro,pa,rt,co,W,Li⟩
 | e :: l, w, n, ro, pa, rt, co, W, Li, hn, he => by
   rw [List.length_cons] at hn
   obtain ⟨ro',pa',rt',co',W',Li'⟩:=Li.entry W hC hlo hhi (by omega) hci (he e (List.mem_cons_self ..)).1 (he e (List.mem_cons_self ..)).2
   have:=Lin.entries hC hlo hhi hci W' Li' (by omega) (fun x hx=>he x (List.mem_cons_of_mem _ hx))
   rw [List.length_cons,show n+(l.length+1)=n+1+l.length by omega]
   exact this
end
end Go.Proofs.Mill
/- Any script, run. -/
namespace Go.Proofs.Mill
theorem ZxW {e:SEntry} (h:Ty.Ok .sentry e):Num e.op.v:=by
 have:=h (.int .i64 e.op.v) (by simp [Ty.enc,Zla])
 cases this with
 | int h=>exact Zyz h
theorem Zvj {l:List SEntry} (h:(Zan .sentry).Ok l):∀ e∈l,Num e.op.v:=fun e he=>ZxW (h.2 e he)
def ZCN:Wld:=Wld.mk (Config.mk (0:Int) (0:Int) (0:Int) (0:Int) (0:Int) (0:Int) (0:Int) (0:Int) false (0:Int) (0:Int) (0:Int)) (Memo.mk ([]:List Int) ([]:List (List Entry))) ([]:List Thread) (0:Int) (0:Int) (Tape.mk ([]:List Int) (0:Int)) ([]:List Mark) ([]:List Event)
theorem ZyI {c:Config} {l:List SEntry} (h:(allE c l).2=0):CfgOK c/\l.length<=65536/\∀ e∈l,Zbb c e=0:=by
 obtain ⟨e,he,hE⟩:=ZhH c
 unfold allE at h
 rw [he,Option.getD_some] at h
 by_cases h0:e≠0
 . rw [if_pos h0] at h;exact (h0 h).elim
 rw [if_neg h0] at h
 have h0:=Classical.not_not.1 h0
 by_cases h1:l.length>65536
 . rw [if_pos h1] at h;exact absurd h (by decide)
 rw [if_neg h1] at h
 refine ⟨hE.1 h0,by omega,?_⟩
 cases hb:Zg8 c 0 l with
 | none=>exact Zr8 hb
 | some y =>
   rw [hb] at h
   have key:∀ (l:List SEntry) (i:Nat),Zg8 c i l=some y->y.2≠0:=by
     intro l
     induction l with
     | nil=>intro i h;cases h
     | cons e l ih =>
       intro i h
       unfold Zg8 at h
       by_cases g:Zbb c e=0
       . rw [if_pos g] at h;exact ih _ h
       . rw [if_neg g] at h;rw [<- Option.some.inj h];exact g
   exact (key l 0 hb h).elim
end Go.Proofs.Mill
/- Rounds, and how many of them a script ends with. -/
namespace Go.Proofs.Mill
def ZeC (c:Config):Int:=20+8*c.depth+c.layers*(20+2*c.spin)
def Zme (c:Config):Int:=20+4*ZeC c*c.threads
theorem ZnO {c:Config} (h:CfgOK c):20<=ZeC c/\ZeC c<=232:=by
 have h1:=h.depth
 have h2:=h.layers
 have h3:=h.spin
 have h4:0<=c.layers*(20+2*c.spin):=Int.mul_nonneg (by omega) (by omega)
 have h5:c.layers*(20+2*c.spin)<=3*60:=Int.mul_le_mul (by omega) (by omega) (by omega) (by omega)
 unfold ZeC
 omega
theorem ZsJ {c:Config} (h:CfgOK c):20<=Zme c/\Zme c<=14868/\0<=4*ZeC c*c.threads/\4*ZeC c*c.threads<=14848:=by
 have h1:=h.threads
 have h2:=ZnO h
 have h4:0<=4*ZeC c*c.threads:=Int.mul_nonneg (by omega) (by omega)
 have h5:4*ZeC c*c.threads<=928*16:=Int.mul_le_mul (by omega) (by omega) (by omega) (by omega)
 unfold Zme
 omega
theorem Zt0 {c:Config} (h:CfgOK c):ZiD c=some (ZeC c):=by
 have h1:=h.depth
 have h2:=h.layers
 have h3:=h.spin
 have h4:0<=c.layers*(20+2*c.spin):=Int.mul_nonneg (by omega) (by omega)
 have h5:c.layers*(20+2*c.spin)<=3*60:=Int.mul_le_mul (by omega) (by omega) (by omega) (by omega)
 unfold ZiD ZeC
 rw [Zat (n:=2*c.spin) (by omega) (by omega),Zat (n:=20+2*c.spin) (by omega) (by omega),Zat (n:=8*c.depth) (by omega) (by omega),Zat (n:=20+8*c.depth) (by omega) (by omega),Zat (n:=c.layers*(20+2*c.spin)) (by omega) (by omega),Zat (by omega) (by omega)]
theorem Zu1 {c:Config} (h:CfgOK c):ZjC c=some (Zme c):=by
 have h2:=ZnO h
 have h3:=ZsJ h
 unfold ZjC
 simp only [Zio,Zt0 h]
 rw [Zat (n:=4*ZeC c) (by omega) (by omega),Zat (n:=4*ZeC c*c.threads) (by omega) (by omega),Zat (by omega) (by omega)]
 rfl
def sE (t:Nat):SEntry:=⟨2,t,0,⟨0,0⟩⟩
def ZaQ (T m:Nat):List SEntry:=(List.range m).map fun i=>sE (i % T)
theorem Zc6 {T m:Nat}:(ZaQ T m).length=m:=by simp [ZaQ]
theorem ZqZ {T m:Nat}:ZaQ T (m+1)=ZaQ T m++[sE (m % T)]:=by simp [ZaQ,List.range_succ]
theorem Zqc {T:Nat}:ZaQ T 0=[]:=rfl
theorem Zxx {T m i:Nat} (h:i<m):(ZaQ T m).getD i ZaG=sE (i % T):=by
 simp [ZaQ,List.getD_eq_getElem?_getD,h]
theorem Zwn {c:Config} (h:CfgOK c):Zkp c=some (ZaQ c.threads.toNat c.threads.toNat):=by
 have h1:=h.threads
 have key:ZlS ([],c.threads,0)=some (ZaQ c.threads.toNat c.threads.toNat):=by
   refine Zd4 (step:=Zgt) (fun i=>(ZaQ c.threads.toNat i,c.threads,(i:Int))) c.threads.toNat (fun i hi=>?_) ?_
   . show Zfb (ZaQ c.threads.toNat i) c.threads (i:Int)=some (.inl (ZaQ c.threads.toNat (i+1),c.threads,((i+1:Nat):Int)))
     unfold Zfb
     rw [decide_eq_true (show (i:Int)<c.threads by omega),Zbv (by rw [Zc6];simp;omega),Zat (by omega) (by omega)]
     simp only [cond_true,ZqZ,sE,Nat.mod_eq_of_lt hi,Int.natCast_add,Int.natCast_one]
   . show Zfb (ZaQ c.threads.toNat c.threads.toNat) c.threads (c.threads.toNat:Int)=_
     unfold Zfb
     rw [decide_eq_false (show ¬((c.threads.toNat:Nat):Int)<c.threads by omega)]
     rfl
 unfold Zkp
 rw [key]
theorem ZyW {T r i:Nat} (hi:i<T):(r*T+i) % T=i:=by
 rw [Nat.mul_comm,Nat.mul_add_mod,Nat.mod_eq_of_lt hi]
theorem Zs6 {c:Config} (h:CfgOK c) (n:Int) {r:Nat} (hr:r*c.threads.toNat<=65536):Zk7 (n,ZaQ c.threads.toNat (r*c.threads.toNat),ZaQ c.threads.toNat c.threads.toNat,ZaQ c.threads.toNat c.threads.toNat,((ZaQ c.threads.toNat c.threads.toNat).length:Int),0) =
    if (r+1)*c.threads.toNat<=65536 then some (.inr (n,ZaQ c.threads.toNat ((r+1)*c.threads.toNat),ZaQ c.threads.toNat c.threads.toNat)) else some (.inl (ZaQ c.threads.toNat 65536)):=by
  have h1:=h.threads
  rw [Zc6]
  generalize hT:c.threads.toNat=T at *
  have hmul:(r+1)*T=r*T+T:=by rw [Nat.add_mul];omega
  have hstep:∀ i,i<T->r*T+i<65536->ZdH (n,ZaQ T (r*T+i),ZaQ T T,ZaQ T T,(T:Int),(i:Int))=some (.inl (n,ZaQ T (r*T+(i+1)),ZaQ T T,ZaQ T T,(T:Int),((i+1:Nat):Int))):=by
    intro i hi hlt
    show Zc0 n (ZaQ T (r*T+i)) (ZaQ T T) (ZaQ T T) (T:Int) (i:Int)=_
    unfold Zc0
    rw [Zc6,Zc6,decide_eq_true (show (i:Int)<T by omega),decide_eq_true (show (0:Int)<=i by omega),decide_eq_false (show ¬((r*T+i:Nat):Int)>=65536 by omega),Zbv (by simp;omega),Zat (by omega) (by omega),Int.toNat_natCast,Zxx hi]
    simp only [cond_true,cond_false,<- Nat.add_assoc,ZqZ,ZyW hi,Nat.mod_eq_of_lt hi,Int.natCast_add,Int.natCast_one]
  by_cases hle:(r+1)*T<=65536
  . rw [if_pos hle]
    have:=Zd4 (step:=ZdH) (fun i=>(n,ZaQ T (r*T+i),ZaQ T T,ZaQ T T,(T:Int),(i:Int))) T (y:=.inr (n,ZaQ T ((r+1)*T),ZaQ T T)) (fun i hi=>hstep i hi (by omega)) (by
      show Zc0 n (ZaQ T (r*T+T)) (ZaQ T T) (ZaQ T T) (T:Int) (T:Int)=_
      unfold Zc0
      rw [decide_eq_false (by omega),hmul]
      rfl)
    exact this
  . rw [if_neg hle]
    have:=Zd4 (step:=ZdH) (fun i=>(n,ZaQ T (r*T+i),ZaQ T T,ZaQ T T,(T:Int),(i:Int))) (65536-r*T) (y:=.inl (ZaQ T 65536)) (fun i hi=>hstep i (by omega) (by omega)) (by
      show Zc0 n (ZaQ T (r*T+(65536-r*T))) (ZaQ T T) (ZaQ T T) (T:Int) ((65536-r*T:Nat):Int)=_
      unfold Zc0
      rw [Zc6,Zc6,decide_eq_true (show ((65536-r*T:Nat):Int)<T by omega),decide_eq_true (show (0:Int)<=((65536-r*T:Nat):Int) by omega),decide_eq_true (show ((r*T+(65536-r*T):Nat):Int)>=65536 by omega)]
      rw [show r*T+(65536-r*T)=65536 by omega]
      rfl)
    exact this
theorem ZuD {c:Config} (h:CfgOK c) (n:Int) (hn:n<4000000000):Zhg c n=some (ZaQ c.threads.toNat (min (n.toNat*c.threads.toNat) 65536)):=by
 have h1:=h.threads
 have key:∀ (k r:Nat),r*c.threads.toNat<=65536->k<4000000000->Zc7 ((k:Int),ZaQ c.threads.toNat (r*c.threads.toNat),ZaQ c.threads.toNat c.threads.toNat)=some (ZaQ c.threads.toNat (min ((r+k)*c.threads.toNat) 65536)):=by
   intro k
   induction k with
   | zero =>
     intro r hr _
     unfold Zc7
     rw [Zca]
     have e:ZdG (((0:Nat):Int),ZaQ c.threads.toNat (r*c.threads.toNat),ZaQ c.threads.toNat c.threads.toNat)=some (.inr (ZaQ c.threads.toNat (r*c.threads.toNat))):=rfl
     rw [e,Nat.add_zero,Nat.min_eq_left hr]
   | succ k ih =>
     intro r hr hk
     unfold Zc7
     rw [Zca]
     have e:ZdG (((k+1:Nat):Int),ZaQ c.threads.toNat (r*c.threads.toNat),ZaQ c.threads.toNat c.threads.toNat)=ZeH ((k+1:Nat):Int) (ZaQ c.threads.toNat (r*c.threads.toNat)) (ZaQ c.threads.toNat c.threads.toNat):=rfl
     rw [e]
     unfold ZeH
     rw [decide_eq_true (show ((k+1:Nat):Int)>0 by omega),Zs6 h _ hr]
     by_cases hle:(r+1)*c.threads.toNat<=65536
     . rw [if_pos hle]
       simp only [cond_true]
       rw [show ((k+1:Nat):Int)-1=k by omega,Zat (n:=(k:Int)) (by omega) (by omega)]
       have:=ih (r+1) hle (by omega)
       unfold Zc7 at this
       rw [this,show r+1+k=r+(k+1) by omega]
     . rw [if_neg hle]
       simp only [cond_true]
       have:65536<=(r+(k+1))*c.threads.toNat:=by
         have h5:(r+1)*c.threads.toNat<=(r+(k+1))*c.threads.toNat:=Nat.mul_le_mul_right _ (by omega)
         omega
       rw [Nat.min_eq_right this]
 unfold Zhg
 simp only [ZeW,Zwn h]
 by_cases hneg:n<=0
 . have:Zc7 (n,[],ZaQ c.threads.toNat c.threads.toNat)=some []:=by
     unfold Zc7
     rw [Zca]
     have e:ZdG (n,[],ZaQ c.threads.toNat c.threads.toNat)=some (.inr []):=by
       show ZeH n [] (ZaQ c.threads.toNat c.threads.toNat)=_
       unfold ZeH
       rw [decide_eq_false (by omega)]
       rfl
     rw [e]
   rw [this,show n.toNat=0 by omega]
   simp [Zqc]
 . have:=key n.toNat 0 (by omega) (by omega)
   rw [show ((n.toNat:Nat):Int)=n by omega,Nat.zero_mul,Zqc,Nat.zero_add] at this
   rw [this]
end Go.Proofs.Mill
/- Rounds without an op that is invoked: all comes to its end. -/
namespace Go.Proofs.Mill
def phi (c:Config) (th:Int->Thread):Nat->Int
 | 0=>0
 | n+1=>phi c th n+mu c (th n)
theorem Zuv {c:Config} {th:Int->Thread} {t:Int} {h':Thread}:∀ n:Nat,phi c (seta th t h') n=phi c th n+(if 0<=t/\t<(n:Int) then mu c h'-mu c (th t) else 0)
 | 0 => by
   rw [if_neg (show ¬(0<=t/\t<((0:Nat):Int)) by omega)];rfl
 | n + 1 => by
   show phi c (seta th t h') n+mu c (seta th t h' n)=phi c th n+mu c (th n)+_
   rw [Zuv n]
   by_cases e:(n:Int)=t
   . subst e
     rw [Zag,if_neg (show ¬(0<=(n:Int)/\(n:Int)<(n:Int)) by omega),if_pos (show 0<=(n:Int)/\(n:Int)<((n+1:Nat):Int) by omega)]
     omega
   . rw [Zaf e]
     by_cases g:0<=t/\t<(n:Int)
     . rw [if_pos g,if_pos (show 0<=t/\t<((n+1:Nat):Int) by omega)];omega
     . rw [if_neg g,if_neg (show ¬(0<=t/\t<((n+1:Nat):Int)) by omega)];omega
def StLe (v:Vw) (j k:Int):Prop:=Zhc j v.b v.l (v.th j)\/rkQ v.b j (v.th j)+1<=k
theorem Adv.all {c:Config} {v v':Vw} {t:Int} (ht:InT c t) (A:Adv c t v v') :
   (phi c v'.th c.threads.toNat+1<=phi c v.th c.threads.toNat)\/(phi c v'.th c.threads.toNat=phi c v.th c.threads.toNat/\∀ j k,StLe v j k->StLe v' j (if t=j then k-1 else k)):=by
 obtain ⟨h',a1,_,a3⟩:=A
 have h0:=ht.1
 have h1:=ht.2
 have hp:=Zuv (c:=c) (th:=v.th) (t:=t) (h':=h') c.threads.toNat
 rw [if_pos (by omega)] at hp
 rw [a1]
 rcases a3 with a | ⟨b1,b2,b3,b4⟩
 . left;omega
 . refine .inr ⟨by omega,fun j k hs=>?_⟩
   unfold StLe at hs ⊢
   rw [b1,b2,a1]
   by_cases e:t=j
   . subst e
     rw [Zag,if_pos rfl]
     rcases b4 with ⟨d,e⟩ | ⟨d,e⟩
     . rw [e];exact .inl d
     . rcases hs with hs | hs
       . exact (d hs).elim
       . right;omega
   . rw [if_neg e,Zaf (fun x=>e x.symm)]
     exact hs
structure Gd (c:Config) (w:Wld) (n:Nat):Prop where
  inv:∃ ro pa rt co,WInv c w n ro pa rt co
  two:Inv2 c (vw c w.m w.t)
  own:∀ j,InT c j->Own2 c ((vw c w.m w.t).th j)
section
variable {c:Config} {w:Wld} {n:Nat}
theorem Gd.entry (G:Gd c w n) (hC:CfgOK c) (hlo:Num c.lo) (hhi:Num c.hi) (hn:n<=200000) {e:SEntry} (he:Zbb c e=0) (hop:Num e.op.v) :
   Gd c (ZaT w e) (n+1)/\(e.kind=2->Adv c e.t (vw c w.m w.t) (vw c (ZaT w e).m (ZaT w e).t)):=by
 obtain ⟨ro,pa,rt,co,W⟩:=G.inv
 have E:=(W.entry hC hlo hhi hn he hop).2
 rcases ZiQ he with ⟨k,ht,hi,ho⟩ | ⟨k,ht⟩ | k
 . have hth:(vw c w.m w.t).th e.t=w.t.getD e.t.toNat Zas:=ZfX ht
   by_cases hp:(w.t.getD e.t.toNat Zas).phase=0
   . have ev:vw c (ZaT w e).m (ZaT w e).t=put (vw c w.m w.t) e.t (Zfz w.c e.t e.item e.op w.now (w.t.getD e.t.toNat Zas).width):=by
       unfold ZaT
       rw [if_pos k]
       unfold invT
       rw [if_neg (fun x=>x hp)]
       exact ZnN W.lenT ht
     refine ⟨⟨E,?_,?_⟩,fun x=>by omega⟩
     . rw [ev]
       exact G.two.invoke ht (by rw [hth];exact hp) ⟨rfl,rfl,by rw [hth];rfl⟩
     . intro j hj
       rw [ev]
       show Own2 c (seta _ e.t _ j)
       by_cases x:j=e.t
       . rw [x,Zag]
         exact .none ⟨.inl (by show (1:Int)<4;omega),by show (1:Int)≠23;omega⟩
       . rw [Zaf x];exact G.own j hj
   . have e1:(ZaT w e).m=w.m/\(ZaT w e).t=w.t:=by
       unfold ZaT
       rw [if_pos k]
       unfold invT
       rw [if_pos hp]
       exact ⟨rfl,rfl⟩
     exact ⟨⟨E,by rw [e1.1,e1.2];exact G.two,by rw [e1.1,e1.2];exact G.own⟩,fun x=>by omega⟩
 . have hth:(vw c w.m w.t).th e.t=w.t.getD e.t.toNat Zas:=ZfX ht
   by_cases hp:(w.t.getD e.t.toNat Zas).phase=0
   . have es:ZaT w e=w:=by
       unfold ZaT
       rw [if_neg (show ¬e.kind=1 by omega),if_pos k,if_pos hp]
     rw [es] at E ⊢
     exact ⟨⟨E,G.two,G.own⟩,fun _=>⟨_,seta_same.symm,G.own e.t ht,.inr ⟨rfl,rfl,rfl,.inl ⟨.inl (by rw [hth];exact hp),rfl⟩⟩⟩⟩
   . have es:ZaT w e=Zc8 w e.t (ZaM (Zbl w e.t)):=by
       unfold ZaT
       rw [if_neg (show ¬e.kind=1 by omega),if_pos k,if_neg hp]
     obtain ⟨_,_,_,_,_,_,_,T⟩:=W.pick hC hlo hhi hn ht hp
     have T':=T
     rw [<- hth] at T'
     rw [es] at E ⊢
     have A:=T'.adv W.inv G.two (G.own e.t ht) hC ht
     refine ⟨⟨E,G.two.step W.inv hC ht T',fun j hj=>?_⟩,fun _=>A⟩
     obtain ⟨h',a1,a2,_⟩:=A
     rw [a1]
     by_cases x:j=e.t
     . rw [x,Zag];exact a2
     . rw [Zaf x];exact G.own j hj
 . have e1:(ZaT w e).m=w.m/\(ZaT w e).t=w.t:=by
     unfold ZaT
     rw [if_neg (show ¬e.kind=1 by omega),if_neg (show ¬e.kind=2 by omega),if_pos k]
     exact ⟨rfl,rfl⟩
   exact ⟨⟨E,by rw [e1.1,e1.2];exact G.two,by rw [e1.1,e1.2];exact G.own⟩,fun x=>by omega⟩
end
section
variable {c:Config}
theorem Gd.entries (hC:CfgOK c) (hlo:Num c.lo) (hhi:Num c.hi):∀ {l:List SEntry} {w:Wld} {n:Nat},Gd c w n->n+l.length<=200000->(∀ e∈l,Zbb c e=0/\Num e.op.v)->Gd c (l.foldl ZaT w) (n+l.length)
 | [],w,n,G,_,_=>G
 | e :: l, w, n, G, hn, he => by
   rw [List.length_cons] at hn
   have b:=(G.entry hC hlo hhi (by omega) (he e (List.mem_cons_self ..)).1 (he e (List.mem_cons_self ..)).2).1
   have f:=Gd.entries hC hlo hhi b (by omega) (fun x hx=>he x (List.mem_cons_of_mem _ hx))
   rw [List.length_cons,show n+(l.length+1)=n+1+l.length by omega]
   exact f
theorem walk (hC:CfgOK c) (hlo:Num c.lo) (hhi:Num c.hi):∀ {l:List SEntry} {w:Wld} {n:Nat},Gd c w n->n+l.length<=200000->(∀ e∈l,e.kind=2/\InT c e.t/\Zbb c e=0/\Num e.op.v) ->
   (phi c (vw c (l.foldl ZaT w).m (l.foldl ZaT w).t).th c.threads.toNat+1<=phi c (vw c w.m w.t).th c.threads.toNat) \/
   (phi c (vw c (l.foldl ZaT w).m (l.foldl ZaT w).t).th c.threads.toNat=phi c (vw c w.m w.t).th c.threads.toNat/\∀ j k,StLe (vw c w.m w.t) j k->StLe (vw c (l.foldl ZaT w).m (l.foldl ZaT w).t) j (k-((l.filter fun e=>e.t == j).length:Int)))
 | [],w,n,G,_,_=>.inr ⟨rfl,fun j k h=>by simpa using h⟩
 | e :: l, w, n, G, hn, he => by
   rw [List.length_cons] at hn
   obtain ⟨k,ht,hc,hop⟩:=he e (List.mem_cons_self ..)
   obtain ⟨G',A⟩:=G.entry hC hlo hhi (by omega) hc hop
   have ih:=walk hC hlo hhi G' (l:=l) (by omega) (fun x hx=>he x (List.mem_cons_of_mem _ hx))
   rw [List.foldl_cons]
   rcases (A k).all ht with a | ⟨a,b⟩
   . rcases ih with i | ⟨i,_⟩
     . left;omega
     . left;omega
   . rcases ih with i | ⟨i,i2⟩
     . left;omega
     . refine .inr ⟨by omega,fun j k hs=>?_⟩
       have:=i2 j _ (b j k hs)
       rw [List.filter_cons]
       by_cases x:e.t=j
       . rw [if_pos x] at this
         rw [if_pos (by simp [x]),List.length_cons]
         rwa [show k-(((l.filter fun e=>e.t == j).length+1:Nat):Int)=k-1-((l.filter fun e=>e.t == j).length:Int) by omega]
       . rw [if_neg x] at this
         rw [if_neg (by simp [x])]
         exact this
theorem ZpR {w:Wld} (h:∀ j,InT c j->((vw c w.m w.t).th j).phase=0):∀ {l:List SEntry},(∀ e∈l,e.kind=2/\InT c e.t)->l.foldl ZaT w=w
 | [],_=>rfl
 | e :: l, he => by
   obtain ⟨k,ht⟩:=he e (List.mem_cons_self ..)
   have hp:=h e.t ht
   rw [ZfX ht] at hp
   have es:ZaT w e=w:=by
     unfold ZaT
     rw [if_neg (show ¬e.kind=1 by omega),if_pos k,if_pos hp]
   rw [List.foldl_cons,es]
   exact ZpR h (fun x hx=>he x (List.mem_cons_of_mem _ hx))
theorem ZwZ (T a b:Nat):ZaQ T (a*T+b)=ZaQ T (a*T)++ZaQ T b:=by
 unfold ZaQ
 rw [List.range_add,List.map_append,List.map_map]
 congr 1
 apply List.map_congr_left
 intro k hk
 show sE ((a*T+k) % T)=sE (k % T)
 rw [Nat.mul_comm,Nat.mul_add_mod]
theorem Zf1 (hC:CfgOK c) {m:Nat}:∀ e∈ZaQ c.threads.toNat m,e.kind=2/\InT c e.t/\Zbb c e=0/\Num e.op.v:=by
 intro e he
 have hT:=hC.threads
 unfold ZaQ at he
 rw [List.mem_map] at he
 obtain ⟨k,_,rfl⟩:=he
 have:=Nat.mod_lt k (show 0<c.threads.toNat by omega)
 have ht:InT c (sE (k % c.threads.toNat)).t:=⟨by show (0:Int)<=((k % c.threads.toNat:Nat):Int);omega,by show ((k % c.threads.toNat:Nat):Int)<_;omega⟩
 have hk:(sE (k % c.threads.toNat)).kind=2:=rfl
 refine ⟨hk,ht,?_,⟨by show (-9223372036854775808:Int)<=0;omega,by show (0:Int)<=_;omega⟩⟩
 unfold InT at ht
 unfold Zbb
 rw [if_neg (by omega),if_neg (by omega),if_neg (by omega),if_pos hk]
end
end Go.Proofs.Mill
/- What the program says of logs and histories. -/
namespace Go.Proofs.Mill
theorem ZuX {α:Type} (p:α->Bool) (l:List α) (d:α) (i:Nat) (h:i<l.length):(l.take (i+1)).filter p=if p (l.getD i d)=true then (l.take i).filter p++[l.getD i d] else (l.take i).filter p:=by
 rw [<- ZnY l d i h,List.filter_append]
 by_cases hp:p (l.getD i d)=true
 . rw [if_pos hp,List.filter_cons_of_pos hp,List.filter_nil]
 . rw [if_neg hp,List.filter_cons_of_neg hp,List.filter_nil,List.append_nil]
def ZCf (m:Mark):Prop:=Num m.op.v
def ZBN (e:Event):Prop:=Num e.op.v/\Num e.prior
def ZqJ (c:Config):Prop:=Num c.init/\Num c.lo/\Num c.hi
theorem ZBh {c:Config} (o:(Zaq celConfig).Ok c):ZqJ c:=by
 have h1:∀ x:Int,AV.int .i64 x∈celConfig.enc c->Num x:=fun x hx=>Zyz (o _ hx)
 refine ⟨h1 _ ?_,h1 _ ?_,h1 _ ?_⟩ <;> simp [celConfig,Zcx,Zam,Zau,celBool]
def ZCu (lo hi:Int) (st:Int×Bool) (m:Mark):Int×Bool:=((App m.op st.1 lo hi).1,st.2 && st.1 == m.prior)
def replay (c:Config) (l:List Mark) (k:Int):Int×Bool:=(l.filter fun m=>m.item == k).foldl (ZCu c.lo c.hi) (c.init,true)
def evts (l:List Event) (k:Int):List Event:=l.filter fun e=>e.t == k && e.kind != 3
def Zvs:Event:=⟨0,0,0,⟨0,0⟩,0,false,0⟩
def pend (L:List Event):Event×Bool:=match L.getLast? with
 | some e=>bif e.kind == 1 then (e,true) else (Zvs,false)
 | none=>(Zvs,false)
def count (l:List Event) (k:Int):Int:=((l.filter fun e=>e.kind == k).length:Int)
theorem count_le (l:List Event) (k:Int):0<=count l k/\count l k<=l.length:=by
 have:=List.length_filter_le (fun e:Event=>e.kind == k) l
 unfold count
 omega
theorem ZmC (l:List Event) (k:Int) (i:Nat) (h:i<l.length):count (l.take (i+1)) k=if (l.getD i ZeG).kind=k then count (l.take i) k+1 else count (l.take i) k:=by
 unfold count
 rw [ZuX _ l ZeG i h]
 by_cases hk:(l.getD i ZeG).kind=k
 . rw [if_pos (by simpa using hk),if_pos hk,List.length_append];rfl
 . rw [if_neg (by simpa using hk),if_neg hk]
theorem Zv0 {l:List Event} (k:Int) (h:l.length<=4294967296) (i:Nat):Zad .i64 (count (l.take i) k+1)=count (l.take i) k+1:=by
 have h1:=count_le (l.take i) k
 have:(l.take i).length<=l.length:=by rw [List.length_take];omega
 exact Zat (by omega) (by omega)
theorem ZlR {l:List Event} (h:l.length<=4294967296):Zhj l=some (count l 1,count l 2,count l 3):=by
 have hw:Zjo (0,0,0,l,l.length,0)=some (count l 1,count l 2,count l 3):=by
   refine Zd4 (fun i=>(count (l.take i) 1,count (l.take i) 2,count (l.take i) 3,l,(l.length:Int),(i:Int))) l.length (fun i hi=>?_) ?_
   . have h1:decide ((i:Int)<(l.length:Int))=true:=decide_eq_true (by omega)
     have h2:decide ((0:Int)<=(i:Int))=true:=decide_eq_true (by omega)
     rw [ZmC l 1 i hi,ZmC l 2 i hi,ZmC l 3 i hi]
     simp only [Zds,Zgh,h1,h2,cond_true,Int.toNat_natCast,Zv0 _ h]
     rw [Zat (by omega) (by omega)]
     generalize (l.getD i ZeG).kind=q
     by_cases q1:q=1
     . subst q1;rfl
     by_cases q2:q=2
     . subst q2;rfl
     by_cases q3:q=3
     . subst q3;rfl
     rw [show (q == 1)=false by simpa using q1,show (q == 2)=false by simpa using q2,show (q == 3)=false by simpa using q3,if_neg q1,if_neg q2,if_neg q3]
     rfl
   . simp [Zds,Zgh]
 simp only [Zhj,hw]
def fit (c:Config) (m:Mark) (call e:Event):Bool :=
 (e.op.tag == call.op.tag && (e.op.v == call.op.v && true)) && (e.item == call.item) && (m.op.tag == e.op.tag && (m.op.v == e.op.v && true)) && (m.item == e.item) && (m.prior == e.prior) && (e.did == (App e.op e.prior c.lo c.hi).2) && decide (call.step<m.step) && decide (m.step<=e.step)
def Srt (l:List Mark):Prop:=∀ i,i<l.length-1->¬(l.getD (i+1) Zbc).step<(l.getD i Zbc).step
end Go.Proofs.Mill
/- Whether a world is linear, as the program says it. -/
namespace Go.Proofs.Mill
def AnsP (lo hi j:Int) (own:List Mark) (l:List Event):Prop :=
 ∃ n op last,ansL lo hi j own (0,false,ZeG) l=some (n,op,last)/\(own.length=n\/(own.length=n+1/\op=true/\(own.getD n Zbc).op=last.op/\(own.getD n Zbc).item=last.item/\last.step<(own.getD n Zbc).step))
instance (lo hi j:Int) (own:List Mark) (l:List Event):Decidable (AnsP lo hi j own l):=Classical.propDecidable _
structure LinP (w:Wld):Prop where
  srt:Srt w.log
  items:∀ i:Nat,(i:Int)<w.c.items->(replay w.c w.log i).2=true/\(replay w.c w.log i).1=w.m.words.getD (pl w.c i 0).toNat 0
  threads:∀ j:Nat,(j:Int)<w.c.threads->AnsP w.c.lo w.c.hi j (ZbZ j w.log) w.hist
instance (w:Wld):Decidable (LinP w):=Classical.propDecidable _
structure WldOK (w:Wld):Prop where
  cfg:CfgOK w.c
  conf:ZqJ w.c
  marks:∀ m∈w.log,ZCf m
  events:∀ e∈w.hist,ZBN e
  log:w.log.length<=1000000
  hist:w.hist.length<=1000000
  words:(w.m.words.length:Int)=sizeOf w.c
end Go.Proofs.Mill
/- The world behind any script is linear; who is pending; how many are. -/
namespace Go.Proofs.Mill
section
variable {c:Config} {w:Wld} {n:Nat} {ro pa rt:Int->Int} {co:Int->Option Int}
theorem Lin.ok (Li:Lin c w ro co) (W:WInv c w n ro pa rt co) (hC:CfgOK c) (hc:ZqJ c) (hn:n<=60000):WldOK w:=by
 have hl:=W.log
 have hh:=W.hist
 exact ⟨by rw [W.cE];exact hC,by rw [W.cE];exact hc,fun m hm=>(Li.inlog m hm).2.2.2,fun e he=>(Li.ehist e he).2.2.2.2,by omega,by omega,by rw [W.cE];exact W.lenW⟩
end
section
variable {c:Config} {w:Wld} {n:Nat} {ro pa rt:Int->Int} {co:Int->Option Int}
end
end Go.Proofs.Mill
/- The document's suffixes; how many whole rounds a script ends with. -/
namespace Go.Proofs.Mill
structure IsLast (l:List SEntry) (k:Nat):Prop where
  le:k<=l.length
  at_:k=0\/(l.getD (k-1) ZaG).kind=1
  none:∀ j,k<=j->j<l.length->(l.getD j ZaG).kind≠1
end Go.Proofs.Mill
