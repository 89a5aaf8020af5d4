/- Parts of the proof: MillQMAlone, MillQRun, MillQWInv, MillQLin, MillQLin2, MillQRunAll, MillQFair, MillQEnds, MillQHist, MillQHist2, MillQHist3, MillQFair2. -/
import Derived.Test.YtaopdopnecognaaGreatMillAll40
import Derived.Test.YtaopdopnecognaaGreatMillAll39
import Derived.Test.YtaopdopnecognaaGreatMillAll4
import Derived.Test.YtaopdopnecognaaGreatMillAll38
import Derived.Test.YtaopdopnecognaaGreatMillFDb
import Derived.KernelRfl
set_option linter.all false
noncomputable section
/- The plain law of MachineAlone. -/
namespace Go.Proofs.Mill
theorem ZlK {c:Config} {a:Nat}:∀ (k:Nat),(∀ j:Nat,j<k->a≠((j:Int)*Zay c).toNat)->(ZeJ c k).getD a 0=0
 | 0, _ => by
   unfold ZeJ
   rw [List.getD_eq_getElem?_getD]
   by_cases h:a<(sizeOf c).toNat
   . rw [List.getElem?_replicate_of_lt h,Option.getD_some]
   . rw [List.getElem?_eq_none (by simp;omega)];rfl
 | k + 1, h => by
   unfold ZeJ
   rw [ZbW (Ne.symm (h k (by omega)))]
   exact ZlK k fun j hj=>h j (by omega)
theorem ZzH:([1,2,3,4].all fun d=>(List.range 16).all fun (t:Nat)=>match Ze1 ((d:Nat):Int) (t:Int) with | some L=>decide (1<=L) && decide (L<2 ^ d) | none=>false)=true:=by kernel_rfl
theorem ZBv {c:Config} (h:CfgOK c) (hd:1<=c.depth) {t:Int} (ht:0<=t/\t<c.threads):1<=ZlS c t/\ZlS c t<=Zax c:=by
 have htt:=h.threads
 have hdd:=h.depth
 have key:=ZzH
 rw [List.all_eq_true] at key
 have k1:=key c.depth.toNat (by
   have:c.depth.toNat=1\/c.depth.toNat=2\/c.depth.toNat=3\/c.depth.toNat=4:=by omega
   rcases this with e | e | e | e <;> rw [e] <;> simp)
 rw [List.all_eq_true] at k1
 have k2:=k1 t.toNat (by simp;omega)
 have e1:((c.depth.toNat:Nat):Int)=c.depth:=by omega
 have e2:((t.toNat:Nat):Int)=t:=by omega
 rw [e1,e2,ZvU h t] at k2
 simp only [Bool.and_eq_true,decide_eq_true_eq] at k2
 refine ⟨k2.1,?_⟩
 have h3:=k2.2
 unfold Zax
 have:c.depth=1\/c.depth=2\/c.depth=3\/c.depth=4:=by omega
 rcases this with e | e | e | e <;> rw [e] at h3 ⊢ <;> simp at h3 ⊢ <;> omega
section
variable {c:Config} {t i:Int} {op:Op} {now:Int}
theorem Zob (h:CfgOK c) (hn:Num c.init) (ht:0<=t/\t<c.threads) (hi:0<=i/\i<c.items):Mem1 c t i [] 0 (ZcV c).words:=by
 have hs:=ZlG h
 have hit:=h.items
 have hb:=ZfI h
 have hnb:=Zba c
 have hl:=Zc8 h ht.1 ht.2
 have zero:∀ {it r:Int},0<=it->it<c.items->1<=r->r<Zay c->(ZeJ c c.items.toNat).getD (pl c it r).toNat 0=0:=fun h0 h1 r0 r1 =>
   ZlK _ fun j hj=>by
     have:=Zs3 h (a:=_) (b:=(j:Int)) (r:=_) (s:=0) ⟨h0,h1⟩ ⟨by omega,by omega⟩ ⟨by omega,r1⟩ ⟨Int.le_refl 0,by omega⟩ (by omega)
     simpa [pl] using this
 refine ⟨by show ((ZeJ c _).length:Int)=_;rw [Zga];omega,Zmj hn _,fun it h0 h1=>?_,fun it n h0 h1 n0 n1=>?_,fun it r h0 h1 r0 r1=>.inl (zero h0 h1 (by omega) r1),?_⟩
 . have:=Zqa h c.items.toNat (by omega) it.toNat (by omega)
   rw [show ((it.toNat:Nat):Int)=it by omega] at this
   show (ZeJ c c.items.toNat).getD (pl c it 0).toNat 0=c.init
   simpa [pl] using this
 . rw [show (ZcV c).words=ZeJ c c.items.toNat from rfl,zero h0 h1 n0 (by omega)]
   simp
 . refine ZlK _ fun j hj=>?_
   have:=Zoz h (i:=(j:Int)) (by omega) (by omega)
   omega
end
end Go.Proofs.Mill
/- Which scripts are run, and how. -/
namespace Go.Proofs.Mill
def Zg7 (op:Op) (b:Bool):Bool:=bif b then (op.tag == 8 || (op.tag == 9 && decide (op.v>=0))) else (decide (1<=op.tag) && decide (op.tag<=7))
theorem Zzc (op:Op) (b:Bool):Zme op b=some (Zg7 op b):=by
 unfold Zme Zg7
 cases b with
 | true =>
   simp only [Bool.not_true,cond_false,cond_true]
   by_cases h:op.tag=9
   . rw [Zbl h,cond_true,ZaU (show ¬op.tag=8 by omega)];rfl
   . rw [ZaU h,cond_false]
     cases op.tag == 8 <;> rfl
 | false =>
   simp only [Bool.not_false,cond_false,cond_true,Zki,ZnI,Zau]
   by_cases h1:1<=op.tag
   . rw [if_pos h1,decide_eq_true h1]
     by_cases h2:op.tag<=9
     . rw [decide_eq_true h2]
       simp only [cond_true,Bool.true_and]
       congr 1
       by_cases h3:op.tag<=7
       . rw [decide_eq_true h3,decide_eq_true (by omega)]
       . rw [decide_eq_false h3,decide_eq_false (by omega)]
     . rw [decide_eq_false h2,decide_eq_false (show ¬op.tag<=7 by omega)];rfl
   . rw [if_neg h1,decide_eq_false h1];rfl
def Zbv (c:Config) (e:SEntry):Int := if e.kind<1\/e.kind>3 then 90 else if e.kind=3 then 0 else if e.t<0\/e.t>=c.threads then 91 else if e.kind=2 then 0 else if e.item<0\/e.item>=c.items then 92 else if Zg7 e.op c.bounded=true then 0 else 93
theorem ZyQ (x n:Int):ZdE (x,n)=some (decide (0<=x/\x<n)):=by
 show ZhC x n=_
 unfold ZhC
 rw [Zau]
 by_cases h:0<=x
 . rw [if_pos h];simp [h]
 . rw [if_neg h];simp [h]
theorem ZtM (c:Config) (e:SEntry):Zil c e=some (Zbv c e):=by
 unfold Zil Zbv
 simp only [ZyQ,Zj0,Zzc]
 by_cases k1:e.kind=1
 . rw [Zbl k1,ZaU (show ¬e.kind=2 by omega),if_neg (show ¬(e.kind<1\/e.kind>3) by omega),if_neg (show ¬e.kind=3 by omega),if_neg (show ¬e.kind=2 by omega)]
   simp only [cond_true,cond_false]
   by_cases ht:0<=e.t/\e.t<c.threads
   . rw [decide_eq_true ht,if_neg (show ¬(e.t<0\/e.t>=c.threads) by omega)]
     simp only [Bool.not_true,cond_false]
     by_cases hi:0<=e.item/\e.item<c.items
     . rw [decide_eq_true hi,if_neg (show ¬(e.item<0\/e.item>=c.items) by omega)]
       simp only [Bool.not_true,cond_false]
       cases Zg7 e.op c.bounded <;> rfl
     . rw [decide_eq_false hi,if_pos (show e.item<0\/e.item>=c.items by omega)];rfl
   . rw [decide_eq_false ht,if_pos (show e.t<0\/e.t>=c.threads by omega)];rfl
 . rw [ZaU k1]
   by_cases k2:e.kind=2
   . rw [Zbl k2,if_neg (show ¬(e.kind<1\/e.kind>3) by omega),if_neg (show ¬e.kind=3 by omega),if_pos k2]
     simp only [cond_true,cond_false]
     by_cases ht:0<=e.t/\e.t<c.threads
     . rw [decide_eq_true ht,if_neg (show ¬(e.t<0\/e.t>=c.threads) by omega)];rfl
     . rw [decide_eq_false ht,if_pos (show e.t<0\/e.t>=c.threads by omega)];rfl
   . rw [ZaU k2]
     by_cases k3:e.kind=3
     . rw [Zbl k3,if_neg (show ¬(e.kind<1\/e.kind>3) by omega),if_pos k3];rfl
     . rw [ZaU k3,if_pos (show e.kind<1\/e.kind>3 by omega)];rfl
def Zha (c:Config):Nat->List SEntry->Option (Int×Int)
 | _,[]=>none
 | i,e::l=>if Zbv c e=0 then Zha c (i+1) l else some ((i:Int),Zbv c e)
theorem ZqM {c:Config}:∀ {l:List SEntry} {i:Nat},(∀ e∈l,Zbv c e=0)->Zha c i l=none
 | [],_,_=>rfl
 | e :: l, i, h => by
   unfold Zha
   rw [if_pos (h e (List.mem_cons_self ..))]
   exact ZqM fun x hx=>h x (List.mem_cons_of_mem _ hx)
theorem Zsd {c:Config}:∀ {l:List SEntry} {i:Nat},Zha c i l=none->∀ e∈l,Zbv c e=0
 | [],_,_=>fun _ h=>by cases h
 | e :: l, i, h => by
   unfold Zha at h
   by_cases h0:Zbv c e=0
   . rw [if_pos h0] at h
     intro x hx
     rcases List.mem_cons.1 hx with rfl | hx
     . exact h0
     . exact Zsd h x hx
   . rw [if_neg h0] at h;cases h
theorem Zt6 {c:Config} {l:List SEntry} (hl:l.length<=4294967296):∀ (k i:Nat),i+k=l.length->ZiE (c,l,(l.length:Int),(i:Int))=some (match Zha c i (l.drop i) with | none=>.inl () | some y=>.inr y)
 | 0, i, hk => by
   rw [List.drop_of_length_le (by omega)]
   refine whileM_some.2 (.done _ _ ?_)
   show Zfa _ _ _ _=_
   unfold Zfa
   simp only [Zau]
   rw [if_neg (by omega)]
   rfl
 | k + 1, i, hk => by
   have hi:i<l.length:=by omega
   rw [List.drop_eq_getElem_cons hi]
   have e:l.getD i ZaL=l[i]:=by rw [List.getD_eq_getElem?_getD,List.getElem?_eq_getElem hi];rfl
   unfold Zha
   have hs:Zgq (c,l,(l.length:Int),(i:Int))=if Zbv c l[i]=0 then some (.inl (c,l,(l.length:Int),((i+1:Nat):Int))) else some (.inr (.inr ((i:Int),Zbv c l[i]))):=by
     show Zfa _ _ _ _=_
     unfold Zfa
     simp only [Zau,Zgs,ZtM,Int.toNat_natCast,e]
     rw [if_pos (show (i:Int)<(l.length:Int) by omega),if_pos (show (0:Int)<=(i:Int) by omega),if_pos (show (i:Int)<(l.length:Int) by omega)]
     by_cases h0:Zbv c l[i]=0
     . rw [if_pos h0,Zev h0,Zaq (by omega) (by omega)];rfl
     . rw [if_neg h0,Zg6 h0];rfl
   by_cases h0:Zbv c l[i]=0
   . rw [if_pos h0] at hs ⊢
     exact whileM_some.2 (.more _ _ _ hs (whileM_some.1 (Zt6 hl k (i+1) (by omega))))
   . rw [if_neg h0] at hs ⊢
     exact whileM_some.2 (.done _ _ hs)
def allE (c:Config) (l:List SEntry):Int×Int :=
 if (ZdU c).getD 0≠0 then (0,(ZdU c).getD 0) else if l.length>65536 then (0,2) else (Zha c 0 l).getD (0,0)
theorem ZqD (c:Config) (l:List SEntry):ZkD c l=some (allE c l):=by
 obtain ⟨e,he,hE⟩:=ZhJ c
 unfold ZkD allE
 simp only [Zee,Zoq,he,Option.getD_some,Zau]
 by_cases h0:e=0
 . rw [Zev h0,cond_false,if_neg (show ¬e≠0 from fun h=>h h0)]
   by_cases h1:l.length>65536
   . rw [if_pos h1,if_pos (show (l.length:Int)>65536 by omega)]
   . rw [if_neg h1,if_neg (show ¬(l.length:Int)>65536 by omega)]
     have:=Zt6 (c:=c) (l:=l) (by omega) l.length 0 (by omega)
     rw [List.drop_zero] at this
     rw [show ZiE (c,l,(l.length:Int),0)=_ from this]
     cases Zha c 0 l <;> rfl
 . rw [Zg6 h0,cond_true,if_pos h0]
theorem ZvA {c:Config} (h:CfgOK c) {l:List SEntry} (hl:l.length<=65536) (ho:∀ e∈l,Zbv c e=0):allE c l=(0,0):=by
 obtain ⟨e,he,hE⟩:=ZhJ c
 have he0:=hE.2 h
 subst he0
 unfold allE
 rw [he,Option.getD_some,if_neg (fun h=>h rfl),if_neg (by omega),ZqM ho]
 rfl
theorem ZyS {c:Config} (h:CfgOK c) {l:List SEntry} {d:List Int} {w:Wld} (hl:l.length<=65536) (ho:∀ e∈l,Zbv c e=0) (hd:d.length<=4294967296) (hw:Zgg (newW c d) l=some w):Zeb c l d=some (w,0,0):=by
 unfold Zeb
 have e1:Zh1 (c,l)=some (0,0):=(ZqD c l).trans (by rw [ZvA h hl ho])
 have e2:Zi4 (c,d)=some (newW c d,0):=ZyU h hd
 rw [e1]
 simp only [bne_self_eq_false,cond_false,e2]
 have e3:=Zti (l:=l) (by omega) l.length 0 (newW c d) w h (by omega) (by rw [List.drop_zero];exact hw)
   (w0:=Wld.mk (Config.mk (0:Int) (0:Int) (0:Int) (0:Int) (0:Int) (0:Int) (0:Int) (0:Int) false (0:Int) (0:Int) (0:Int)) (Memo.mk ([]:List Int) ([]:List (List Entry))) ([]:List Thread) (0:Int) (0:Int) (Tape.mk ([]:List Int) (0:Int)) ([]:List Mark) ([]:List Event)) (x:=0)
 rw [show Zjn (_,newW c d,0,l,(l.length:Int),0)=_ from e3]
def ZmH (l:List Thread):Nat:=(l.filter fun t=>t.phase != 0).length
theorem ZrU {l:List Thread} (hl:l.length<=4294967296):∀ (k i:Nat) (n:Nat),i+k=l.length->n<=i->ZiO ((n:Int),l,(l.length:Int),(i:Int))=some ((n+ZmH (l.drop i):Nat):Int)
 | 0, i, n, hk, hn => by
   rw [List.drop_of_length_le (by omega)]
   refine whileM_some.2 (.done _ _ ?_)
   show Ze6 _ _ _ _=_
   unfold Ze6
   simp only [Zau]
   rw [if_neg (by omega)]
   rfl
 | k + 1, i, n, hk, hn => by
   have hi:i<l.length:=by omega
   rw [List.drop_eq_getElem_cons hi]
   have e:l.getD i Zaw=l[i]:=by rw [List.getD_eq_getElem?_getD,List.getElem?_eq_getElem hi];rfl
   unfold ZmH
   rw [List.filter_cons]
   have hs:Zgx ((n:Int),l,(l.length:Int),(i:Int))=some (.inl ((((if l[i].phase != 0 then n+1 else n):Nat):Int),l,(l.length:Int),((i+1:Nat):Int))):=by
     show Ze6 _ _ _ _=_
     unfold Ze6
     simp only [Zau,Zbr,ZdN,Int.toNat_natCast,e]
     rw [if_pos (show (i:Int)<(l.length:Int) by omega),if_pos (show (0:Int)<=(i:Int) by omega),if_pos (show (i:Int)<(l.length:Int) by omega),Zaq (n:=(i:Int)+1) (by omega) (by omega),Zaq (n:=(n:Int)+1) (by omega) (by omega)]
     cases l[i].phase != 0 <;> rfl
   have:=ZrU hl k (i+1) (if l[i].phase != 0 then n+1 else n) (by omega) (by split <;> omega)
   refine whileM_some.2 (.more _ _ _ hs ?_)
   have h2:=whileM_some.1 this
   unfold ZmH at h2
   cases hb:(l[i].phase != 0) with
   | true =>
     rw [hb] at h2
     simp only [if_true] at h2 ⊢
     rw [List.length_cons,show n+((l.drop (i+1)).filter (fun t=>t.phase != 0)).length.succ=n+1+((l.drop (i+1)).filter (fun t=>t.phase != 0)).length by omega]
     exact h2
   | false =>
     rw [hb] at h2
     exact h2
theorem ZwI {w:Wld} (hl:w.t.length<=4294967296):ZkZ w=some (ZmH w.t:Int):=by
 unfold ZkZ
 have:=ZrU hl w.t.length 0 0 (by omega) (Nat.le_refl _)
 rw [List.drop_zero,Nat.zero_add] at this
 rw [show ZiO (0,w.t,(w.t.length:Int),0)=_ from this]
theorem ZxC {l:List Thread} (h:∀ t∈l,t.phase=0):ZmH l=0:=by
 unfold ZmH
 rw [List.length_eq_zero_iff,List.filter_eq_nil_iff]
 intro t ht
 rw [h t ht]
 decide
end Go.Proofs.Mill
/- What is kept of a world, entry by entry. -/
namespace Go.Proofs.Mill
def Zbq (u:Turn):Tape:=u.tape
def ZtV (u v:Turn):Prop:=Zbq v=Zbq u\/Zbq v=(Zfx u.tape u.th.width).2
theorem Zia (u:Turn):Zbq (Zci u)=Zbq u:=by unfold Zci;split <;> rfl
theorem ZuG (u:Turn):Zbq (Zfv u)=Zbq u:=by
 unfold Zfv
 repeat' split
 all_goals rfl
theorem Zw9 (u:Turn) (w:Int):Zbq (ZhD u w)=Zbq u:=by
 unfold ZhD
 repeat' split
 all_goals rfl
theorem Zvi (u:Turn):Zbq (Zem u)=Zbq u:=by unfold Zem;split <;> rfl
theorem Zn0 (u:Turn):Zbq (Zdj u)=Zbq u:=by unfold Zdj;split <;> rfl
theorem Zu4 (u:Turn):Zbq (Zcc u).1=Zbq u:=by
 unfold Zcc
 split
 . exact ZuG _
 . rfl
theorem Zvj (u:Turn):Zbq (Zb8 u).1=Zbq u:=by
 unfold Zb8
 split
 . show Zbq (if _ then _ else _:Turn)=_
   split <;> rfl
 split
 . exact Zia _
 split
 . show Zbq (if _ then _ else _:Turn)=_
   split
   . rfl
   . split <;> rfl
 split
 . show Zbq (if _ then _ else _:Turn)=_
   split
   . rfl
   . split
     . rfl
     . exact Zia _
 rfl
theorem ZuD (u:Turn):Zbq (ZbQ u).1=Zbq u:=by
 unfold ZbQ
 split
 . show Zbq (Zea u)=_
   unfold Zea
   split
   . exact Zia _
   . rfl
 split
 . show Zbq (if _ then _ else _:Turn)=_
   split
   . exact Zia _
   . split
     . exact Zn0 _
     . rfl
 rfl
theorem ZuR (u:Turn):Zbq (Zcv u).1=Zbq u:=by
 unfold Zcv
 split
 . show Zbq (if _ then _ else _:Turn)=_
   split
   . rfl
   . exact Zw9 _ _
 split
 . show Zbq (if _ then _ else _:Turn)=_
   split
   . rfl
   . split
     . exact Zvi _
     . rfl
 split
 . show Zbq (if _ then _ else _:Turn)=_
   split
   . rfl
   . split <;> rfl
 rfl
theorem ZuB (u:Turn):Zbq (Zck u).1=Zbq u:=by
 unfold Zck
 repeat' split
 all_goals rfl
theorem ZsG (u:Turn):ZtV u (ZbV u).1:=by
 unfold ZbV
 split
 . exact .inl rfl
 split
 . exact .inl rfl
 split
 . show ZtV u (swapT u)
   unfold swapT
   repeat' split
   all_goals first | exact .inl rfl | exact .inr rfl
 split
 . refine .inl ?_
   show Zbq (ZbP u u.t 21 13)=_
   unfold ZbP
   repeat' split
   all_goals rfl
 split
 . refine .inl ?_
   show Zbq (ZbP u u.th.who 22 24)=_
   unfold ZbP
   repeat' split
   all_goals rfl
 split
 . refine .inl ?_
   show Zbq (ZfN u)=_
   unfold ZfN
   split <;> rfl
 split
 . refine .inl ?_
   show Zbq (ZiP u)=_
   unfold ZiP
   repeat' split
   all_goals rfl
 split
 . exact .inl rfl
 split
 . refine .inl ?_
   show Zbq (ZgZ u)=_
   unfold ZgZ
   split
   . exact Zn0 _
   . rfl
 exact .inl rfl
theorem ZsN (u:Turn):ZtV u (ZaO u):=by
 unfold ZaO
 split
 . exact .inl rfl
 split
 . exact .inl (Zu4 (begT u))
 split
 . exact .inl (Zvj (begT u))
 split
 . exact .inl (ZuD (begT u))
 split
 . exact .inl (ZuR (begT u))
 split
 . exact .inl (ZuB (begT u))
 split
 . exact ZsG (begT u)
 exact .inl rfl
theorem Zyp {t:Tape} (n:Int) (h1:Num t.at_) (h2:t.l.length<=4294967296):Num (Zfx t n).2.at_/\(Zfx t n).2.l.length<=4294967296:=by
 unfold Zfx
 split
 . exact ⟨h1,h2⟩
 . exact ZxE h1 h2
structure WInv (c:Config) (w:Wld) (n:Nat) (ro pa rt:Int->Int) (co:Int->Option Int):Prop where
  cE:w.c=c
  lenT:(w.t.length:Int)=c.threads
  lenW:(w.m.words.length:Int)=sizeOf c
  lenB:(w.m.boxes.length:Int)=c.threads
  tape:Num w.tape.at_/\w.tape.l.length<=4294967296
  log:w.log.length<=16*n
  hist:w.hist.length<=n
  steps:0<=w.steps/\w.steps<=n
  now:0<=w.now/\w.now<=n
  inv:Inv c (vw c w.m w.t) ro pa rt co
section
variable {c:Config} {w:Wld} {n:Nat} {ro pa rt:Int->Int} {co:Int->Option Int} {t:Int}
theorem Zyd (hC:CfgOK c) {m:Memo} {ts:List Thread} (hl:(m.words.length:Int)=sizeOf c) (h:VN (vw c m ts)):∀ x∈m.words,Num x:=by
 intro x hx
 obtain ⟨i,hi,rfl⟩:=List.mem_iff_getElem.1 hx
 have hg:m.words.getD i 0=m.words[i]:=by rw [List.getD_eq_getElem?_getD,List.getElem?_eq_getElem hi];rfl
 rw [<- hg]
 have hb:=Zdy hC
 have hlb:=Za1 hC
 have hth:=hC.threads
 unfold sizeOf at hl
 by_cases hk:(i:Int)<ZaS c
 . have h1:(i:Int) / Zay c*Zay c+(i:Int) % Zay c=i:=by rw [Int.mul_comm];exact Int.mul_ediv_add_emod ..
   have h2:=Int.emod_nonneg (i:Int) (show Zay c≠0 by omega)
   have h3:=Int.emod_lt_of_pos (i:Int) (show 0<Zay c by omega)
   have h4:0<=(i:Int) / Zay c:=Int.ediv_nonneg (by omega) (by omega)
   have h5:(i:Int) / Zay c<c.items:=by
     apply Int.ediv_lt_of_lt_mul (by omega)
     exact hk
   have hin:Zgz c ((i:Int) / Zay c) ((i:Int) % Zay c):=⟨⟨h4,h5⟩,h2,h3⟩
   have:=h.1 ((i:Int) / Zay c) ((i:Int) % Zay c)
   rw [rd_B hin] at this
   have e:(pl c ((i:Int) / Zay c) ((i:Int) % Zay c)).toNat=i:=by
     show ((i:Int) / Zay c*Zay c+(i:Int) % Zay c).toNat=i
     rw [h1];rfl
   rwa [e] at this
 . have hj:InT c (((i:Int)-ZaS c) / 2):=⟨by omega,by omega⟩
   by_cases he:((i:Int)-ZaS c) % 2=0
   . have:=h.2.1 (((i:Int)-ZaS c) / 2)
     rw [rd_L hC hj,(Zc8 hC hj.1 hj.2).1] at this
     have e:(ZaS c+2*(((i:Int)-ZaS c) / 2)).toNat=i:=by omega
     rwa [e] at this
   . have:=h.2.2 (((i:Int)-ZaS c) / 2)
     rw [show (vw c m ts).r (((i:Int)-ZaS c) / 2)=m.words.getD (ZaS c+2*(((i:Int)-ZaS c) / 2)+1).toNat 0 from if_pos hj] at this
     have e:(ZaS c+2*(((i:Int)-ZaS c) / 2)+1).toNat=i:=by omega
     rwa [e] at this
theorem ZeI {m:Memo} {ts:List Thread} (ht:InT c t):(vw c m ts).th t=ts.getD t.toNat Zaw:=if_pos ht
theorem WInv.fit (W:WInv c w n ro pa rt co) (hC:CfgOK c) (hlo:Num c.lo) (hhi:Num c.hi) (ht:InT c t) (hp:(w.t.getD t.toNat Zaw).phase≠0):FitM (Zbu w t):=by
 have hth:(vw c w.m w.t).th t=w.t.getD t.toNat Zaw:=ZeI ht
 have L:=W.inv.loc t ht
 rw [hth] at L
 have hr:ro t≠0:=by
   intro h0
   have:=(W.inv.busy ht).1 h0
   rw [hth] at this
   exact hp this
 have hsh:=W.inv.short hC hr
 rw [hth] at hsh
 have hk:=L.kidsN hp
 have hi:=L.item hp
 have hh:=L.held hp
 have cE:=W.cE
 have hlen:=Zql hh.1 hh.2
 have hly:=L.ari.2.2.1
 have hcl:=hC.layers
 refine ⟨⟨by show CfgOK w.c;rw [cE];exact hC,by show 0<=t/\t<w.c.threads;rw [cE];exact ht,by show (w.m.words.length:Int)=sizeOf w.c;rw [cE];exact W.lenW,by show (w.m.boxes.length:Int)=w.c.threads;rw [cE];exact W.lenB,Zyd hC W.lenW W.inv.num,?_,?_,fun b hb=>?_⟩,?_,?_,fun h17=>?_,W.tape.1,W.tape.2,L.nw,by show Num w.c.lo;rw [cE];exact hlo,by show Num w.c.hi;rw [cE];exact hhi,L.nx,L.ops hp⟩
 . show (w.t.getD t.toNat Zaw).batch.length<=1000000;omega
 . show (w.t.getD t.toNat Zaw).kids.length<=1000000;omega
 . obtain ⟨i,hi',rfl⟩:=List.mem_iff_getElem.1 hb
   have hin:InT c (i:Int):=⟨by omega,by have:=W.lenB;have hi':i<w.m.boxes.length:=hi';omega⟩
   have:=(W.inv.loc i hin).boxl
   have hi2:i<w.m.boxes.length:=hi'
   rw [rd_X hin,Int.toNat_natCast,List.getD_eq_getElem?_getD,List.getElem?_eq_getElem hi2] at this
   have this:(w.m.boxes[i]).length<=16:=this
   show (w.m.boxes[i]).length<=_
   omega
 . show (w.t.getD t.toNat Zaw).held.length<=4294967295;omega
 . show 0<=(w.t.getD t.toNat Zaw).item/\(w.t.getD t.toNat Zaw).item<w.c.items;rw [cE];exact hi
 . have:=hly h17
   show 1<=(w.t.getD t.toNat Zaw).layer/\(w.t.getD t.toNat Zaw).layer<=3;omega
theorem WInv.pick (W:WInv c w n ro pa rt co) (hC:CfgOK c) (hlo:Num c.lo) (hhi:Num c.hi) (hn:n<=200000) (ht:InT c t) (hp:(w.t.getD t.toNat Zaw).phase≠0) :
   Zb7 w t=some (Zde w t (ZaO (Zbu w t)))/\∃ ro' pa' rt' co1,WInv c (Zde w t (ZaO (Zbu w t))) (n+1) ro' pa' rt' (if (ZaO (Zbu w t)).done=true then seta co1 t none else co1) /\
     Info c (vw c w.m w.t) (vw c (Zde w t (ZaO (Zbu w t))).m (Zde w t (ZaO (Zbu w t))).t) ro rt co co1 t (ZaO (Zbu w t)).log (ZaO (Zbu w t)).done /\
     Tr c t (vw c w.m w.t) (w.t.getD t.toNat Zaw) (vw c (Zde w t (ZaO (Zbu w t))).m (Zde w t (ZaO (Zbu w t))).t) (ZaO (Zbu w t)).log (ZaO (Zbu w t)).done:=by
 have hf:=W.fit hC hlo hhi ht hp
 have hth:(vw c w.m w.t).th t=w.t.getD t.toNat Zaw:=ZeI ht
 have cE:=W.cE
 have hu0:Zbu w t=trn c t w.now w.m (w.t.getD t.toNat Zaw) w.tape:=by unfold Zbu;rw [cE]
 have hT:Steps c t w.m w.t (w.t.getD t.toNat Zaw) (ZaO (Zbu w t)):=by
   rw [hu0]
   have hi:=hf.item
   have hi:0<=(w.t.getD t.toNat Zaw).item/\(w.t.getD t.toNat Zaw).item<w.c.items:=hi
   rw [cE] at hi
   exact Zv3 hC W.lenW W.lenB W.lenT ht rfl hi hf.width
 have hone:=ZtK (Zbu w t)
 have hkp:=Zm8 (Zbu w t)
 have htp:=ZsN (Zbu w t)
 obtain ⟨u,hu⟩:∃ u,u=ZaO (Zbu w t):=⟨_,rfl⟩
 rw [<- hu] at hT hone hkp htp ⊢
 unfold Steps at hT
 have hT':=hT
 rw [<- hth] at hT'
 obtain ⟨ro',pa',rt',co1,hinv,hinfo⟩:=W.inv.step hC hlo hhi ht hT'
 have hth':(vw c u.m (w.t.set t.toNat u.th)).th t=u.th:=by
   have h0:=ht.1
   have h1:=ht.2
   have:=W.lenT
   rw [ZeI ht,List.getD_eq_getElem?_getD,List.getElem?_set_self (by omega)]
   rfl
 have hr:ro t≠0:=by
   intro h0
   have:=(W.inv.busy ht).1 h0
   rw [hth] at this
   exact hp this
 have hsh:=W.inv.short hC hr
 have hlog:u.log.length<=16:=by
   rcases hinfo.1 with ⟨e,_⟩ | ⟨_,e,_⟩
   . rw [e];simp
   . rw [e]
     unfold Zf5
     rw [List.length_zipWith]
     omega
 have hop:u.th.op=(w.t.getD t.toNat Zaw).op:=ZvE hkp
 have hnx:u.done=true->Num u.th.x/\Num u.th.op.v:=by
   intro hd
   have L:=hinv.loc t ht
   rw [hth'] at L
   refine ⟨L.nx,?_⟩
   rw [hop]
   obtain ⟨r,hb⟩:=W.inv.core.k3 t hr
   have hb:((vw c w.m w.t).th t).batch=⟨t,((vw c w.m w.t).th t).op⟩::r:=hb
   rw [hth] at hb
   have:=hf.ops ⟨t,(w.t.getD t.toNat Zaw).op⟩ (by show _∈(w.t.getD t.toNat Zaw).batch;rw [hb];exact List.mem_cons_self ..)
   exact this
 have hl:=W.log
 have hh:=W.hist
 have hpk:=ZyE (w:=w) (t:=t) (u:=u) ht.1 (by rw [W.lenT];exact ht.2) hp hf hu.symm hnx (by omega) (by omega)
 refine ⟨hpk,ro',pa',rt',co1,⟨cE,?_,?_,?_,?_,?_,?_,?_,?_,hinv⟩,hinfo,hT⟩
 . show ((w.t.set _ _).length:Int)=_
   rw [List.length_set];exact W.lenT
 . show (u.m.words.length:Int)=_
   have hw:(Zbu w t).m=w.m:=rfl
   rcases hone with ⟨a,x,e⟩ | ⟨i,b,e⟩ | e
   . rw [e];show ((w.m.words.set a x).length:Int)=_;rw [List.length_set];exact W.lenW
   . rw [e];exact W.lenW
   . rw [e];exact W.lenW
 . show (u.m.boxes.length:Int)=_
   rcases hone with ⟨a,x,e⟩ | ⟨i,b,e⟩ | e
   . rw [e];exact W.lenB
   . rw [e];show ((w.m.boxes.set i b).length:Int)=_;rw [List.length_set];exact W.lenB
   . rw [e];exact W.lenB
 . show Num u.tape.at_/\u.tape.l.length<=4294967296
   rcases htp with e | e
   . rw [show u.tape=w.tape from e];exact W.tape
   . rw [show u.tape=_ from e];exact Zyp _ W.tape.1 W.tape.2
 . show (w.log++u.log.map _).length<=_
   rw [List.length_append,List.length_map];omega
 . show (if u.done=true then w.hist++[ZiS w t u] else w.hist).length<=_
   split
   . rw [List.length_append,List.length_singleton];omega
   . omega
 . show 0<=Zad IntKind.i64 (w.steps+1)/\Zad IntKind.i64 (w.steps+1)<=((n+1:Nat):Int)
   have:=W.steps
   rw [Zaq (by omega) (by omega)]
   omega
 . have:=W.now
   show 0<=w.now/\w.now<=((n+1:Nat):Int)
   omega
theorem Tree.idle {b:Int->Int->Int} {th:Int->Thread} {h':Thread} (T:Tree c b th ro pa) (u0:ZaY (th t)=[]) (u1:ZaY h'=[]) (p0:¬(7<=(th t).phase/\(th t).phase<=12)) (p1:¬(7<=h'.phase/\h'.phase<=12)) (r0:ro t≠2/\ro t≠5) {q:Int} (r1:q≠2):Tree c b (seta th t h') (seta ro t q) pa:=by
 refine ⟨T.t1,fun j hj m hm=>?_,fun j k m hj hk hi h1 h2=>?_,fun j hj hp=>?_,fun j hj hr2=>?_,fun i m j a1 a2 a3 a4 hj hD=>?_,fun j hj hpj=>?_⟩
 . by_cases e:j=t
   . rw [e,Zag,u1] at hm;cases hm
   . rw [Zaf e] at hm ⊢;exact T.t2 j hj m hm
 . by_cases e:j=t
   . rw [e,Zag,u1] at h1;cases h1
   . by_cases e2:k=t
     . rw [e2,Zag,u1] at h2;cases h2
     . rw [Zaf e] at hi h1;rw [Zaf e2] at hi h2
       exact T.t3 j k m hj hk hi h1 h2
 . by_cases e:j=t
   . rw [e,Zag] at hp;exact (p1 ⟨hp.1,hp.2.1⟩).elim
   . rw [Zaf e] at hp ⊢;exact T.t4 j hj hp
 . by_cases e:j=t
   . rw [e,Zag] at hr2;exact (r1 hr2).elim
   . rw [Zaf e] at hr2 ⊢;exact T.t5 j hj hr2
 . rcases T.t6 i m j a1 a2 a3 a4 hj hD with ⟨x,y,z⟩ | ⟨h,hh,x,y,z⟩
   . have e:j≠t:=by intro e;rw [e] at x;exact r0.1 x
     exact .inl ⟨by rw [Zaf e];exact x,by rw [Zaf e];exact y,by rw [Zaf e];exact z⟩
   . have e:h≠t:=by intro e;rw [e] at y;omega
     exact .inr ⟨h,hh,by rw [Zaf e];exact ⟨x,y,z⟩⟩
 . by_cases e:j=t
   . rw [e,Zag] at hpj;omega
   . rw [Zaf e] at hpj ⊢
     obtain ⟨x,y,z⟩:=T.t7 j hj hpj
     refine ⟨x,y,fun p10=>?_⟩
     obtain ⟨z1,z2⟩:=z p10
     exact ⟨by rw [Zaf (fun e=>by rw [e] at z1;exact r0.2 z1)];exact z1,z2⟩
theorem Inv.invoke {v:Vw} (I:Inv c v ro pa rt co) (hC:CfgOK c) (ht:InT c t) (hp:(v.th t).phase=0) {i now wd:Int} {op:Op} (hi:0<=i/\i<c.items) (hop:Num op.v) (hw:wd=(v.th t).width) :
   Inv c { v with th:=seta v.th t (ZgW c t i op now wd) } (seta ro t 1) pa (seta rt t t) co:=by
 have h0:ro t=0:=(I.busy ht).2 hp
 have L:=I.loc t ht
 have hl:v.l t=0\/v.l t=5:=by have:=L.tab;unfold Tab at this;omega
 have hC1:=I.core.invoke (i:=i) (o:=op) h0 ht
 obtain ⟨h',hh'⟩:∃ h',h'=ZgW c t i op now wd:=⟨_,rfl⟩
 have f:h'.phase=1/\h'.item=i/\h'.op=op/\h'.batch=[⟨t,op⟩]/\h'.kids=[]/\h'.held=[]/\h'.stop=0/\h'.node=ZlS c t/\h'.x=0/\h'.width=wd:=by rw [hh'];exact ⟨rfl,rfl,rfl,rfl,rfl,rfl,rfl,rfl,rfl,rfl⟩
 rw [<- hh']
 obtain ⟨f1,f2,f3,f4,f5,f6,f7,f8,f9,f10⟩:=f
 have hk0:ZaN (v.th t)=[]:=by unfold ZaN;rw [if_pos hp]
 have hk1:ZaN h'=[]:=by unfold ZaN;rw [if_neg (by omega),if_neg (by omega),f5]
 have c1:(fun j=>(seta v.th t h' j).batch)=seta (fun j=>(v.th j).batch) t [⟨t,op⟩]:=by
   funext j;unfold seta;split
   . exact f4
   . rfl
 have c2:(fun j=>ZaN (seta v.th t h' j))=fun j=>ZaN (v.th j):=by
   funext j;unfold seta;split
   . rename_i e;rw [e,hk0,hk1]
   . rfl
 have c3:(fun j=>(seta v.th t h' j).op)=seta (fun j=>(v.th j).op) t op:=by
   funext j;unfold seta;split
   . exact f3
   . rfl
 have c4:(fun j=>(seta v.th t h' j).item)=seta (fun j=>(v.th j).item) t i:=by
   funext j;unfold seta;split
   . exact f2
   . rfl
 refine ⟨?_,fun j hj=>?_,fun j hj=>?_,fun s hs1 hs2=>?_,fun s hs1 hs2=>?_,?_,I.num⟩
 . show Core c (fun j=>(seta v.th t h' j).batch) (fun j=>ZaN (seta v.th t h' j)) (fun j=>(seta v.th t h' j).op) (fun j=>(seta v.th t h' j).item) _ _ _ _
   rw [c1,c2,c3,c4]
   exact hC1
 . show LocT c (seta v.th t h' j) (v.l j) (v.r j) (v.bx j) (seta ro t 1 j) (co j)
   by_cases e:j=t
   . rw [e,Zag,Zag]
     have hnb:=Zba c
     refine ⟨⟨.inr (.inl ⟨rfl,.inl (by omega),hl.imp id (fun x=>⟨f1,x⟩)⟩),fun _=>by rw [f2];exact hi,fun k=>by omega,fun _=>by rw [f7];omega,fun _=>f7,fun k=>by omega,fun k=>by omega,fun k=>by omega⟩,fun k=>by omega,L.boxl,fun k=>by omega,by rw [f9];exact Zbg (by decide),by rw [f10,hw];exact L.nw,fun _=>by rw [f6];exact ⟨List.Pairwise.nil,fun m hm=>by cases hm⟩,fun k=>by omega,fun k=>by omega,fun _=>⟨f6,f5,fun hd=>by rw [f8];exact ZBv hC (by omega) ht⟩,fun k=>absurd k (by decide),fun k=>absurd k (by decide),fun _=>by rw [f4,f5];simp,fun _=>by
       rw [f4];intro e he;rw [List.mem_singleton] at he;subst he;exact hop⟩
   . rw [Zaf e,Zaf e];exact I.loc j hj
 . have e:j≠t:=by intro e;rw [e,Zag] at hj;exact absurd hj (by decide)
   rw [Zaf e] at hj
   obtain ⟨a,b,d,f⟩:=I.pnd1 j hj
   have e2:pa j≠t:=by intro e2;rw [e2] at b;omega
   show InT c (pa j)/\(seta v.th t h' (pa j)).phase=22/\(seta v.th t h' (pa j)).who=j/\(seta v.th t h' (pa j)).item=(seta v.th t h' j).item
   rw [Zaf e2,Zaf e]
   exact ⟨a,b,d,f⟩
 . have hs2:(seta v.th t h' s).phase=22:=hs2
   have e:s≠t:=by intro e;rw [e,Zag] at hs2;omega
   rw [Zaf e] at hs2
   show seta ro t 1 (seta v.th t h' s).who=4/\pa (seta v.th t h' s).who=s
   rw [Zaf e]
   obtain ⟨a,b⟩:=I.pnd2 s hs1 hs2
   rw [Zaf (fun x=>by rw [x] at a;omega)]
   exact ⟨a,b⟩
 . have hs2:(seta v.th t h' s).phase=16:=hs2
   have e:s≠t:=by intro e;rw [e,Zag] at hs2;omega
   rw [Zaf e] at hs2
   show co (kidH (seta v.th t h' s)).t=some (v.r (kidH (seta v.th t h' s)).t)
   rw [Zaf e]
   exact I.r16 s hs1 hs2
 . exact I.tree.idle (by rw [ZaC (by omega)]) (by rw [ZaC (by omega)]) (by omega) (by omega) (by omega) (by decide)
def ZaV (w:Wld) (e:SEntry):Wld := if e.kind=1 then invT w e else if e.kind=2 then (if (w.t.getD e.t.toNat Zaw).phase=0 then w else Zde w e.t (ZaO (Zbu w e.t))) else if e.kind=3 then { w with now:=Zad .i64 (w.now+1) } else w
theorem ZmP {e:SEntry} (h:Zbv c e=0):(e.kind=1/\InT c e.t/\(0<=e.item/\e.item<c.items)/\Zg7 e.op c.bounded=true)\/(e.kind=2/\InT c e.t)\/e.kind=3:=by
 unfold Zbv at h
 unfold InT
 split at h
 . omega
 split at h
 . rename_i k;exact .inr (.inr k)
 split at h
 . omega
 split at h
 . rename_i k;exact .inr (.inl ⟨k,by omega⟩)
 split at h
 . omega
 split at h
 . rename_i k;exact .inl ⟨by omega,by omega,by omega,k⟩
 . omega
theorem WInv.entry (W:WInv c w n ro pa rt co) (hC:CfgOK c) (hlo:Num c.lo) (hhi:Num c.hi) (hn:n<=200000) {e:SEntry} (he:Zbv c e=0) (hop:Num e.op.v) :
   Zfs w e=some (ZaV w e)/\∃ ro' pa' rt' co',WInv c (ZaV w e) (n+1) ro' pa' rt' co':=by
 have hl:=W.log
 have hh:=W.hist
 have hst:=W.steps
 have hnw:=W.now
 rcases ZmP he with ⟨k,ht,hi,ho⟩ | ⟨k,ht⟩ | k
 . unfold Zfs ZaV
   rw [if_pos k,if_pos k,if_pos ⟨ht.1,by rw [W.lenT];exact ht.2,by omega⟩]
   refine ⟨rfl,?_⟩
   unfold invT
   by_cases hp:(w.t.getD e.t.toNat Zaw).phase=0
   . rw [if_neg (fun x=>x hp)]
     have hth:(vw c w.m w.t).th e.t=w.t.getD e.t.toNat Zaw:=ZeI ht
     have:=W.inv.invoke hC ht (by rw [hth];exact hp) (i:=e.item) (op:=e.op) (now:=w.now) (wd:=(w.t.getD e.t.toNat Zaw).width) hi hop (by rw [hth])
     refine ⟨seta ro e.t 1,pa,seta rt e.t e.t,co,W.cE,?_,W.lenW,W.lenB,W.tape,?_,?_,?_,?_,?_⟩
     . show ((w.t.set _ _).length:Int)=_
       rw [List.length_set];exact W.lenT
     . show w.log.length<=_;omega
     . show (w.hist++[_]).length<=_
       rw [List.length_append,List.length_singleton];omega
     . show 0<=w.steps/\w.steps<=((n+1:Nat):Int);omega
     . show 0<=w.now/\w.now<=((n+1:Nat):Int);omega
     . show Inv c (vw c w.m (w.t.set _ _)) _ _ _ _
       rw [ZnL W.lenT ht,W.cE]
       exact this
   . rw [if_pos hp]
     refine ⟨ro,pa,rt,co,W.cE,W.lenT,W.lenW,W.lenB,W.tape,?_,?_,?_,?_,W.inv⟩
     . show w.log.length<=_;omega
     . show (w.hist++[_]).length<=_
       rw [List.length_append,List.length_singleton];omega
     . show 0<=w.steps/\w.steps<=((n+1:Nat):Int);omega
     . show 0<=w.now/\w.now<=((n+1:Nat):Int);omega
 . unfold Zfs ZaV
   rw [if_neg (show ¬e.kind=1 by omega),if_neg (show ¬e.kind=1 by omega),if_pos k,if_pos k]
   by_cases hp:(w.t.getD e.t.toNat Zaw).phase=0
   . rw [if_pos hp]
     refine ⟨ZxB ht.1 (by rw [W.lenT];exact ht.2) hp,ro,pa,rt,co,W.cE,W.lenT,W.lenW,W.lenB,W.tape,by omega,by omega,by omega,by omega,W.inv⟩
   . rw [if_neg hp]
     obtain ⟨a,ro',pa',rt',co1,b,_⟩:=W.pick hC hlo hhi hn ht hp
     exact ⟨a,_,_,_,_,b⟩
 . unfold Zfs ZaV
   rw [if_neg (show ¬e.kind=1 by omega),if_neg (show ¬e.kind=1 by omega),if_neg (show ¬e.kind=2 by omega),if_neg (show ¬e.kind=2 by omega),if_pos k,if_pos k]
   refine ⟨rfl,ro,pa,rt,co,W.cE,W.lenT,W.lenW,W.lenB,W.tape,?_,?_,?_,?_,W.inv⟩
   . show w.log.length<=_;omega
   . show w.hist.length<=_;omega
   . show 0<=w.steps/\w.steps<=((n+1:Nat):Int);omega
   . show 0<=Zad .i64 (w.now+1)/\Zad .i64 (w.now+1)<=((n+1:Nat):Int)
     rw [Zaq (by omega) (by omega)];omega
theorem WInv.entries (hC:CfgOK c) (hlo:Num c.lo) (hhi:Num c.hi):∀ {l:List SEntry} {w:Wld} {n:Nat} {ro pa rt:Int->Int} {co:Int->Option Int},WInv c w n ro pa rt co->n+l.length<=200000->(∀ e∈l,Zbv c e=0/\Num e.op.v) ->
   Zgg w l=some (l.foldl ZaV w)/\∃ ro' pa' rt' co',WInv c (l.foldl ZaV w) (n+l.length) ro' pa' rt' co'
 | [],w,n,ro,pa,rt,co,W,_,_=>⟨rfl,ro,pa,rt,co,W⟩
 | e :: l, w, n, ro, pa, rt, co, W, hn, he => by
   rw [List.length_cons] at hn
   obtain ⟨a,ro',pa',rt',co',b⟩:=W.entry hC hlo hhi (by omega) (he e (List.mem_cons_self ..)).1 (he e (List.mem_cons_self ..)).2
   obtain ⟨d,f⟩:=WInv.entries hC hlo hhi b (by omega) (fun x hx=>he x (List.mem_cons_of_mem _ hx))
   refine ⟨by rw [ZsL a];exact d,?_⟩
   rw [List.length_cons,show n+(l.length+1)=n+1+l.length by omega]
   exact f
theorem ZmA (hC:CfgOK c) (hci:Num c.init) {d:List Int} (hd:d.length<=4294967296):WInv c (newW c d) 0 (fun _=>0) (fun _=>0) (fun _=>0) (fun _=>none):=by
 have hs:=ZlG hC
 have hth:=hC.threads
 have hit:=hC.items
 have hthr:∀ j,InT c j->(vw c (ZcV c) (List.replicate c.threads.toNat newT)).th j=newT:=by
   intro j hj
   have h0:=hj.1
   have h1:=hj.2
   rw [ZeI hj,List.getD_eq_getElem?_getD,List.getElem?_replicate_of_lt (by omega)];rfl
 have hthp:∀ j,((vw c (ZcV c) (List.replicate c.threads.toNat newT)).th j).phase=0:=by
   intro j
   by_cases hj:InT c j
   . rw [hthr j hj];rfl
   . rw [show (vw c (ZcV c) (List.replicate c.threads.toNat newT)).th j=Zaw from if_neg hj];rfl
 have hline:∀ j,InT c j->(vw c (ZcV c) (List.replicate c.threads.toNat newT)).l j=0:=by
   intro j hj
   rw [rd_L hC hj]
   exact (Zob (i:=0) hC hci hj ⟨by omega,by omega⟩).line
 have hnode:∀ i m,0<=i->i<c.items->1<=m->m<=Zax c->(vw c (ZcV c) (List.replicate c.threads.toNat newT)).b i m=0:=by
   intro i m a1 a2 a3 a4
   have hb:=ZfI hC
   rw [rd_B ⟨⟨a1,a2⟩,by omega,by omega⟩]
   have:=(Zob (t:=0) (i:=0) hC hci ⟨by omega,by omega⟩ ⟨by omega,by omega⟩).nodes i m a1 a2 a3 a4
   simpa using this
 have hun:∀ j,ZaY ((vw c (ZcV c) (List.replicate c.threads.toNat newT)).th j)=[]:=fun j=>ZaC (by rw [hthp j];decide)
 have hwn:∀ (k:Nat),Num ((ZcV c).words.getD k 0):=by
   intro k
   rw [List.getD_eq_getElem?_getD]
   by_cases hk:k<(ZcV c).words.length
   . rw [List.getElem?_eq_getElem hk]
     exact Zmj hci _ _ (List.getElem_mem hk)
   . rw [List.getElem?_eq_none (by omega)]
     exact Zbg (by decide)
 refine ⟨rfl,by show ((List.replicate c.threads.toNat newT).length:Int)=_;rw [List.length_replicate];omega,by show ((ZeJ c _).length:Int)=_;rw [Zga];omega,by show ((List.replicate c.threads.toNat ([]:List Entry)).length:Int)=_;rw [List.length_replicate];omega,⟨Zbg (show (-1000000:Int)<=0/\(0:Int)<=1000000 by decide),hd⟩,Nat.le_refl _,Nat.le_refl _,⟨Int.le_refl 0,Int.le_refl 0⟩,⟨Int.le_refl 0,Int.le_refl 0⟩,?_⟩
 show Inv c (vw c (ZcV c) (List.replicate c.threads.toNat newT)) _ _ _ _
 refine ⟨⟨fun j h=>(h rfl).elim,fun j _=>⟨rfl,by show ZaN _=[];unfold ZaN;rw [if_pos (hthp j)]⟩,fun j h=>absurd h.1 (by decide),fun j h=>absurd h (by decide),fun j=>⟨Int.le_refl 0,by decide⟩,fun j h=>(h rfl).elim,fun j h=>(h rfl).elim,fun j h=>(h rfl).elim,fun j h=>(h rfl).elim,fun j h=>(h rfl).elim,fun j h=>absurd h (by decide),fun p k hk=>?_,fun p=>?_⟩,fun j hj=>?_,fun j h=>absurd h (by decide),fun p _ h=>?_,fun p _ h=>?_,?_,?_⟩
 . have hk:k∈ZaN ((vw c (ZcV c) (List.replicate c.threads.toNat newT)).th p):=hk
   unfold ZaN at hk
   rw [if_pos (hthp p)] at hk
   cases hk
 . show ((ZaN ((vw c (ZcV c) (List.replicate c.threads.toNat newT)).th p)).map (·.t)).Nodup
   unfold ZaN
   rw [if_pos (hthp p)]
   exact List.nodup_nil
 . rw [hthr j hj,hline j hj]
   have hbx:(vw c (ZcV c) (List.replicate c.threads.toNat newT)).bx j=[]:=by
     have h0:=hj.1
     have h1:=hj.2
     rw [rd_X hj]
     show (List.replicate c.threads.toNat ([]:List Entry)).getD j.toNat []=[]
     rw [List.getD_eq_getElem?_getD,List.getElem?_replicate_of_lt (by omega)];rfl
   rw [hbx]
   have hp:newT.phase=0:=rfl
   refine ⟨⟨.inl ⟨rfl,rfl,.inl rfl⟩,fun k=>(k hp).elim,fun k=>?_,fun k=>(k hp).elim,fun k=>?_,fun k=>?_,fun k=>?_,fun k=>?_⟩,fun k=>?_,by simp,fun k=>?_,Zbg (by decide),Zbg (by decide),fun k=>(k hp).elim,fun k=>?_,fun k=>?_,fun k=>?_,fun k=>absurd k (by decide),fun k=>absurd k (by decide),fun k=>(k hp).elim,fun k=>(k hp).elim⟩
   all_goals omega
 . rw [hthp p] at h;exact absurd h (by decide)
 . rw [hthp p] at h;exact absurd h (by decide)
 . refine ⟨fun i m a1 a2 a3 a4=>.inl (hnode i m a1 a2 a3 a4),fun j _ m hm=>(by rw [hun j] at hm;cases hm),fun j k m _ _ _ hm _=>(by rw [hun j] at hm;cases hm),fun j _ hp=>?_,fun j _ h=>absurd h (by decide),fun i m j a1 a2 a3 a4 hj hD=>?_,fun j _ hp=>?_⟩
   . rw [hthp j] at hp;exact absurd hp.1 (by decide)
   . rw [hnode i m a1 a2 a3 a4] at hD
     unfold InT at hj
     omega
   . rw [hthp j] at hp;exact absurd hp (by decide)
 . refine ⟨fun i r=>?_,fun j=>?_,fun j=>?_⟩
   . show Num (vwB c _ i r)
     unfold vwB
     split
     . exact hwn _
     . exact Zbg (by decide)
   . show Num (vwL c _ j)
     unfold vwL
     split
     . exact hwn _
     . exact Zbg (by decide)
   . show Num (vwR c _ j)
     unfold vwR
     split
     . exact hwn _
     . exact Zbg (by decide)
end
end Go.Proofs.Mill
/- Whatever is done, the ops are as if done one after another. -/
namespace Go.Proofs.Mill
def Zb0 (j:Int) (log:List Mark):List Mark:=log.filter (fun m=>m.t == j)
theorem Zwd {j:Int} {a b:List Mark}:Zb0 j (a++b)=Zb0 j a++Zb0 j b:=List.filter_append ..
def Fits (lo hi:Int) (own:List Mark) (n:Nat) (last h:Event):Prop :=
 n<own.length/\(own.getD n Zbc).op=h.op/\(own.getD n Zbc).item=h.item/\(own.getD n Zbc).prior=h.prior/\h.did=(App h.op h.prior lo hi).2/\last.op=h.op/\last.item=h.item/\last.step<(own.getD n Zbc).step/\(own.getD n Zbc).step<=h.step
instance (lo hi:Int) (own:List Mark) (n:Nat) (last h:Event):Decidable (Fits lo hi own n last h):=Classical.propDecidable _
def ansE (lo hi j:Int) (own:List Mark) (s:Nat×Bool×Event) (h:Event):Option (Nat×Bool×Event) := if h.t≠j\/h.kind=3 then some s else if h.kind=1 then (if s.2.1=true then none else some (s.1,true,h)) else if s.2.1=true/\Fits lo hi own s.1 s.2.2 h then some (s.1+1,false,s.2.2) else none
def ansL (lo hi j:Int) (own:List Mark):Nat×Bool×Event->List Event->Option (Nat×Bool×Event)
 | s,[]=>some s
 | s, h :: r => match ansE lo hi j own s h with
  | some s=>ansL lo hi j own s r
  | none=>none
theorem ZgV {lo hi j:Int} {own:List Mark}:∀ {a b:List Event} {s s':Nat×Bool×Event},ansL lo hi j own s a=some s'->ansL lo hi j own s (a++b)=ansL lo hi j own s' b
 | [],b,s,s',h=>by cases h;rfl
 | e :: a, b, s, s', h => by
   have h:(match ansE lo hi j own s e with | some s=>ansL lo hi j own s a | none=>none)=some s':=h
   show (match ansE lo hi j own s e with | some s=>ansL lo hi j own s (a++b) | none=>none)=_
   cases h1:ansE lo hi j own s e with
   | none=>rw [h1] at h;cases h
   | some v=>rw [h1] at h;exact ZgV h
theorem Zmb {lo hi j:Int} {own:List Mark} {s:Nat×Bool×Event} {e:Event}:ansL lo hi j own s [e]=ansE lo hi j own s e:=by
 show (match ansE lo hi j own s e with | some s=>ansL lo hi j own s [] | none=>none)=_
 cases ansE lo hi j own s e <;> rfl
theorem Zx7 {lo hi:Int} {own x:List Mark} {n:Nat} {last h:Event} (f:Fits lo hi own n last h):Fits lo hi (own++x) n last h:=by
 have e:(own++x).getD n Zbc=own.getD n Zbc:=by
   rw [List.getD_eq_getElem?_getD,List.getD_eq_getElem?_getD,List.getElem?_append_left f.1]
 unfold Fits at f ⊢
 rw [e,List.length_append]
 exact ⟨by omega,f.2⟩
theorem Zxs {lo hi j:Int} {own x:List Mark} {s s':Nat×Bool×Event} {h:Event} (a:ansE lo hi j own s h=some s'):ansE lo hi j (own++x) s h=some s':=by
 unfold ansE at a ⊢
 split at a
 . rename_i g;rw [if_pos g];exact a
 . rename_i g
   rw [if_neg g]
   split at a
   . rename_i k;rw [if_pos k];exact a
   . rename_i k
     rw [if_neg k]
     split at a
     . rename_i f;rw [if_pos ⟨f.1,Zx7 f.2⟩];exact a
     . cases a
theorem Zsg {lo hi j:Int} {own x:List Mark}:∀ {l:List Event} {s s':Nat×Bool×Event},ansL lo hi j own s l=some s'->ansL lo hi j (own++x) s l=some s'
 | [],s,s',h=>h
 | e :: l, s, s', h => by
   have h:(match ansE lo hi j own s e with | some s=>ansL lo hi j own s l | none=>none)=some s':=h
   show (match ansE lo hi j (own++x) s e with | some s=>ansL lo hi j (own++x) s l | none=>none)=_
   cases h1:ansE lo hi j own s e with
   | none=>rw [h1] at h;cases h
   | some v =>
     rw [h1] at h
     rw [Zxs h1]
     exact Zsg h
def Inb (c:Config) (x:Int):Prop:=c.bounded=true->c.lo<=x/\x<=c.hi
instance (c:Config) (x:Int):Decidable (Inb c x):=Classical.propDecidable _
def ZeC (c:Config) (i:Int):Int->List Mark->Option Int
 | x,[]=>some x
 | x,m::r=>if m.item≠i then ZeC c i x r else if m.prior=x/\Inb c (App m.op x c.lo c.hi).1 then ZeC c i (App m.op x c.lo c.hi).1 r else none
theorem ZqV {c:Config} {i x:Int} {m:Mark} {r:List Mark}:ZeC c i x (m::r)=if m.item≠i then ZeC c i x r else if m.prior=x/\Inb c (App m.op x c.lo c.hi).1 then ZeC c i (App m.op x c.lo c.hi).1 r else none:=rfl
theorem ZkV {c:Config} {i:Int}:∀ {a b:List Mark} {x y:Int},ZeC c i x a=some y->ZeC c i x (a++b)=ZeC c i y b
 | [],b,x,y,h=>by cases h;rfl
 | m :: a, b, x, y, h => by
   rw [List.cons_append,ZqV]
   rw [ZqV] at h
   by_cases e:m.item≠i
   . rw [if_pos e] at h ⊢;exact ZkV h
   . rw [if_neg e] at h ⊢
     by_cases g:m.prior=x/\Inb c (App m.op x c.lo c.hi).1
     . rw [if_pos g] at h ⊢;exact ZkV h
     . rw [if_neg g] at h;cases h
theorem ZpY {c:Config} {i:Int}:∀ {a:List Mark} {x y:Int},ZeC c i x a=some y->Inb c x->Inb c y
 | [],x,y,h,hx=>by cases h;exact hx
 | m :: a, x, y, h, hx => by
   unfold ZeC at h
   by_cases e:m.item≠i
   . rw [if_pos e] at h;exact ZpY h hx
   . rw [if_neg e] at h
     by_cases g:m.prior=x/\Inb c (App m.op x c.lo c.hi).1
     . rw [if_pos g] at h;exact ZpY h g.2
     . rw [if_neg g] at h;cases h
theorem ZCo {o:Op} {x lo hi:Int} (hx:Num x) (hlo:Num lo) (hv:Num o.v) (h:Zg7 o true=true) (h1:lo<=x) (h2:x<=hi):lo<=(App o x lo hi).1/\(App o x lo hi).1<=hi:=by
 have ha:=Zlw o x lo hi
 generalize App o x lo hi=r at ha ⊢
 unfold Zg7 at h
 simp only [cond_true,Bool.or_eq_true,beq_iff_eq,Bool.and_eq_true,decide_eq_true_eq] at h
 unfold ZcM at ha
 rcases h with h | ⟨h,hv0⟩
 . rw [ZaU (show ¬o.tag=1 by omega),ZaU (show ¬o.tag=2 by omega),ZaU (show ¬o.tag=3 by omega),ZaU (show ¬o.tag=4 by omega),ZaU (show ¬o.tag=5 by omega),ZaU (show ¬o.tag=6 by omega),ZaU (show ¬o.tag=7 by omega),Zbl h] at ha
   simp only [cond_false,cond_true,ZgP,ZgY,Zau] at ha
   generalize (decide (o.v>=0) == decide (Zad IntKind.i64 (x+o.v)>=x))=bb at ha
   cases bb with
   | false =>
     have:=Option.some.inj ha
     rw [<- this];exact ⟨h1,h2⟩
   | true =>
     simp only [Bool.not_true,cond_false] at ha
     split at ha
     . have:=Option.some.inj ha
       rw [<- this];exact ⟨h1,h2⟩
     . split at ha
       . have:=Option.some.inj ha
         rw [<- this];exact ⟨h1,h2⟩
       . have:=Option.some.inj ha
         rw [<- this]
         dsimp only
         omega
 . rw [ZaU (show ¬o.tag=1 by omega),ZaU (show ¬o.tag=2 by omega),ZaU (show ¬o.tag=3 by omega),ZaU (show ¬o.tag=4 by omega),ZaU (show ¬o.tag=5 by omega),ZaU (show ¬o.tag=6 by omega),ZaU (show ¬o.tag=7 by omega),ZaU (show ¬o.tag=8 by omega),Zbl h] at ha
   simp only [cond_false,cond_true,Zau] at ha
   rw [if_neg (by omega),if_neg (by omega),ZtI hx hlo h1] at ha
   have huv:IntKind.u64.wrap o.v=o.v:=by
     rw [<- Zb6]
     exact wrap_u64 hv0 (by have:=hv.2;omega)
   rw [huv] at ha
   split at ha
   . have:=Option.some.inj ha
     rw [<- this]
     dsimp only
     omega
   . have:=Option.some.inj ha
     rw [<- this]
     dsimp only
     have hxx:=hx
     have hll:=hlo
     unfold Num at hxx hll
     rw [Zaq (by omega) (by omega)]
     omega
theorem ZqN {c:Config} (hlo:Num c.lo) (it:Int) (s:Int):∀ (b:List Entry) (x:Int),Num x->Inb c x->(∀ e∈b,Num e.op.v/\Zg7 e.op c.bounded=true) ->
   ZeC c it x ((List.zipWith (fun (e:Entry) p=>(⟨e.t,it,e.op,p,0⟩:Mark)) b (Zeg c.lo c.hi b x)).map (ZcF s))=some (allT c.lo c.hi b x)
 | [],x,_,_,_=>rfl
 | e :: b, x, hx, hin, he => by
   show ZeC c it x (ZcF s ⟨e.t,it,e.op,x,0⟩::(List.zipWith (fun (e:Entry) p=>(⟨e.t,it,e.op,p,0⟩:Mark)) b (Zeg c.lo c.hi b (App e.op x c.lo c.hi).1)).map (ZcF s))=some (allT c.lo c.hi b (App e.op x c.lo c.hi).1)
   obtain ⟨n1,n2⟩:=he e (List.mem_cons_self ..)
   have hi2:Inb c (App e.op x c.lo c.hi).1:=by
     intro hb
     rw [hb] at n2
     exact ZCo hx hlo n1 n2 (hin hb).1 (hin hb).2
   unfold ZeC
   rw [if_neg (show ¬(ZcF s ⟨e.t,it,e.op,x,0⟩).item≠it from fun h=>h rfl),if_pos (show (ZcF s ⟨e.t,it,e.op,x,0⟩).prior=x/\Inb c (App (ZcF s ⟨e.t,it,e.op,x,0⟩).op x c.lo c.hi).1 from ⟨rfl,hi2⟩)]
   exact ZqN hlo it s b _ (ZrJ hx n1 hlo) hi2 (fun y hy=>he y (List.mem_cons_of_mem _ hy))
theorem Zpq {c:Config} {it i:Int} (hne:it≠i) (s:Int) {f:Entry->Int->Mark} (hf:∀ e p,(f e p).item=it):∀ (b:List Entry) (ps:List Int) (x:Int),ZeC c i x ((List.zipWith f b ps).map (ZcF s))=some x
 | [],_,x=>rfl
 | e::b,[],x=>rfl
 | e :: b, p :: ps, x => by
   show ZeC c i x (ZcF s (f e p)::(List.zipWith f b ps).map (ZcF s))=some x
   unfold ZeC
   rw [if_pos (show (ZcF s (f e p)).item≠i from by show (f e p).item≠i;rw [hf];exact hne)]
   exact Zpq hne s hf b ps x
theorem ZrQ {c:Config} (it s:Int) (j:Int):∀ (b:List Entry) (x:Int),(b.map (·.t)).Nodup ->
   Zb0 j ((List.zipWith (fun (e:Entry) p=>(⟨e.t,it,e.op,p,0⟩:Mark)) b (Zeg c.lo c.hi b x)).map (ZcF s)) =
     if idxOf b j<b.length then [⟨j,it,(b.getD (idxOf b j) ⟨0,⟨0,0⟩⟩).op,allT c.lo c.hi (b.take (idxOf b j)) x,s⟩] else []
 | [],x,_=>by simp [Zb0,idxOf,Zeg]
 | e :: b, x, hn => by
   rw [List.map_cons,List.nodup_cons] at hn
   show Zb0 j (ZcF s ⟨e.t,it,e.op,x,0⟩::(List.zipWith (fun (e:Entry) p=>(⟨e.t,it,e.op,p,0⟩:Mark)) b (Zeg c.lo c.hi b (App e.op x c.lo c.hi).1)).map (ZcF s))=_
   have ih:=ZrQ (c:=c) it s j b (App e.op x c.lo c.hi).1 hn.2
   have hcons:∀ (m:Mark) (r:List Mark),Zb0 j (m::r)=if m.t=j then m::Zb0 j r else Zb0 j r:=by
     intro m r
     unfold Zb0
     rw [List.filter_cons]
     by_cases h:m.t=j
     . rw [if_pos (by simp [h]),if_pos h]
     . rw [if_neg (by simp [h]),if_neg h]
   rw [hcons]
   show (if e.t=j then _ else _)=_
   by_cases h:e.t=j
   . have i0:idxOf (e::b) j=0:=by rw [<- h];exact ZtH
     have i1:¬idxOf b j<b.length:=by
       intro hlt
       apply hn.1
       unfold idxOf at hlt
       have hlt':(b.map (·.t)).findIdx (fun t=>t == j)<(b.map (·.t)).length:=by rwa [List.length_map]
       have:=List.findIdx_getElem (w:=hlt')
       rw [h,<- eq_of_beq this]
       exact List.getElem_mem hlt'
     rw [if_pos h,ih,if_neg i1,i0,if_pos (by simp)]
     show [ZcF s ⟨e.t,it,e.op,x,0⟩]=_
     rw [h]
     rfl
   . have i1:idxOf (e::b) j=idxOf b j+1:=by
       unfold idxOf
       rw [List.map_cons,List.findIdx_cons]
       have:(e.t == j)=false:=by simpa using h
       rw [this]
       rfl
     rw [if_neg h,ih,i1]
     by_cases hlt:idxOf b j<b.length
     . rw [if_pos hlt,if_pos (by rw [List.length_cons];omega)]
       rfl
     . rw [if_neg hlt,if_neg (by rw [List.length_cons];omega)]
end Go.Proofs.Mill
/- Whatever is done, the ops are as if done one after another: kept by every entry. -/
namespace Go.Proofs.Mill
theorem Zv8 (h:Thread):(Zdf h).phase=4\/(Zdf h).phase=7\/(Zdf h).phase=11\/(Zdf h).phase=2:=by
 unfold Zdf
 split
 . exact .inl rfl
 . have:=Zb2 { h with phase:=4,held:=h.held++[h.node],node:=h.node / 2,at_:=0 }
   have e:(ZgH { h with phase:=4,held:=h.held++[h.node],node:=h.node / 2 }).phase=(Zfo { h with phase:=4,held:=h.held++[h.node],node:=h.node / 2,at_:=0 }).phase:=rfl
   rw [e]
   omega
theorem Zi2 (h:Thread):(Zfo h).phase=7\/(Zfo h).phase=11\/(Zfo h).phase=2:=by
 have:=Zb2 h
 omega
section
variable {c:Config} {t:Int} {v v':Vw} {h:Thread} {log:List Mark} {done:Bool}
theorem Zbe {h':Thread}:(put v t h').th t=h':=Zag
theorem ZiQ (g:Thread):((Zbn g).phase=0↔Zey g=true):=by
 have:=Zeu g
 cases hd:Zey g with
 | true=>rw [hd] at this;simp at this ⊢;exact this.1
 | false=>rw [hd] at this;simp at this ⊢;omega
theorem Tr.idle (T:Tr c t v h v' log done) (hv:v.th t=h) (hp:h.phase≠0):((v'.th t).phase=0↔done=true):=by
 have no:∀ {p:Int},p≠0->(p=0↔false=true):=fun h=>⟨fun x=>(h x).elim,fun x=>by cases x⟩
 cases T with
 | nop s=>rw [hv];exact no hp
 | start p s=>rw [Zbe];cases s <;> exact no (by dsimp only;decide)
 | load p=>rw [Zbe];exact no (by dsimp only;decide)
 | casF p hw hw2=>rw [Zbe];exact no (by dsimp only;decide)
 | same p e=>rw [Zbe];exact ZiQ _
 | cas p e=>rw [Zbe];exact ZiQ _
 | on25 p o=>rw [Zbe];cases o <;> exact no (by dsimp only;decide)
 | look1 p k=>rw [Zbe];exact no (by dsimp only;decide)
 | look0 p=>rw [Zbe];exact no (by dsimp only;decide)
 | lookL p=>rw [Zbe];exact no (by have:=Zi2 { h with at_:=0 };show (Zfo { h with at_:=0 }).phase≠0;omega)
 | take p n e=>rw [Zbe];exact no (by have:=Zv8 h;omega)
 | takeF p=>rw [Zbe];exact no (by dsimp only;decide)
 | join p n e=>rw [Zbe];exact no (by have:=Zi2 { h with phase:=4,stop:=h.node,at_:=0 };show (Zfo { h with phase:=4,stop:=h.node,at_:=0 }).phase≠0;omega)
 | joinF p=>rw [Zbe];exact no (by dsimp only;decide)
 | seeF p a e=>rw [Zbe];exact no (by dsimp only;decide)
 | seeD p a k=>rw [Zbe];exact no (by dsimp only;decide)
 | close p a e=>rw [Zbe];exact no (by have:=Zi2 { h with at_:=Zad IntKind.i64 (h.at_+1) };show (Zfo { h with at_:=Zad IntKind.i64 (h.at_+1) }).phase≠0;omega)
 | closeF p=>rw [Zbe];exact no (by dsimp only;decide)
 | takeB p w=>rw [Zbe];exact no (by dsimp only;decide)
 | clear p a=>rw [Zbe];exact no (by have:=Zi2 { h with at_:=Zad IntKind.i64 (h.at_+1) };show (Zfo { h with at_:=Zad IntKind.i64 (h.at_+1) }).phase≠0;omega)
 | box11 p=>rw [Zbe];exact no (by dsimp only;decide)
 | dep p n=>rw [Zbe];exact no (by dsimp only;decide)
 | told p e=>rw [Zbe];exact no (by dsimp only;decide)
 | res p=>rw [Zbe];exact ZiQ _
 | tell1 p a w=>rw [Zbe];exact no (by dsimp only;decide)
 | tell2 p a w=>rw [Zbe];exact ZiQ _
 | box17 p=>rw [Zbe];exact no (by dsimp only;decide)
 | open18 p=>rw [Zbe];exact no (by dsimp only;decide)
 | swap20 p s w=>rw [Zbe];exact no (by dsimp only;decide)
 | swap23 p s=>rw [Zbe];exact no (by dsimp only;decide)
 | shut20 p e=>rw [Zbe];exact no (by dsimp only;decide)
 | shutF p e=>rw [Zbe];exact no (by dsimp only;decide)
 | cap21 p w e=>rw [Zbe];exact no (by dsimp only;decide)
 | capF p=>rw [Zbe];exact no (by dsimp only;decide)
 | absorb p w=>rw [Zbe];exact no (by dsimp only;decide)
 | spinF p e=>rw [Zbe];exact no (by dsimp only;decide)
 | spinL p e=>rw [Zbe];exact no (by dsimp only;omega)
 | spinO p e=>rw [Zbe];exact no (by dsimp only;decide)
 | open24 p=>rw [Zbe];exact no (by dsimp only;decide)
 | leave p e hw hw2 o=>rw [Zbe];cases o <;> exact no (by dsimp only;decide)
 | leaveF p e=>rw [Zbe];exact no (by dsimp only;decide)
def ZAj (c:Config) (v v':Vw) (h:Thread) (log:List Mark):Prop :=
 (log=[]/\∀ i,v'.b i 0=v.b i 0)\/(log=Zf5 c h (v.b h.item 0)/\v'.b h.item 0=allT c.lo c.hi h.batch (v.b h.item 0)/\∀ i,i≠h.item->v'.b i 0=v.b i 0)
theorem Tr.cells (T:Tr c t v h v' log done) (hy:h.phase=3->h.y=allT c.lo c.hi h.batch h.x) (hn:0<=Zax c) (hat:h.phase=8\/h.phase=10->Zbd h≠0):ZAj c v v' h log:=by
 have sm:∀ {a b:List Mark},(∀ i,v'.b i 0=v.b i 0)->ZAj c v v' h []:=fun x=>.inl ⟨rfl,x⟩
 have wn:∀ {i m w:Int},m≠0->∀ k,setb v.b i m w k 0=v.b k 0:=fun hm k=>ZcT (fun x=>hm x.2.symm)
 cases T with
 | same p e=>exact .inr ⟨rfl,e.symm,fun i _=>rfl⟩
 | cas p e =>
   refine .inr ⟨by rw [e],?_,fun i hi=>ZcT (fun x=>hi x.1)⟩
   show setb v.b h.item 0 h.y h.item 0=_
   rw [ZeH,hy p,e]
 | take p n e=>exact .inl ⟨rfl,wn (by omega)⟩
 | join p n e=>exact .inl ⟨rfl,wn (by omega)⟩
 | close p a e=>exact .inl ⟨rfl,wn (hat (.inl p))⟩
 | clear p a=>exact .inl ⟨rfl,wn (hat (.inr p))⟩
 | dep p n=>exact .inl ⟨rfl,wn (by omega)⟩
 | swap20 p s w=>exact .inl ⟨rfl,wn (by omega)⟩
 | swap23 p s=>exact .inl ⟨rfl,wn (by omega)⟩
 | nop s=>exact .inl ⟨rfl,fun i=>rfl⟩
 | start p s=>exact .inl ⟨rfl,fun i=>rfl⟩
 | load p=>exact .inl ⟨rfl,fun i=>rfl⟩
 | casF p hw hw2=>exact .inl ⟨rfl,fun i=>rfl⟩
 | on25 p o=>exact .inl ⟨rfl,fun i=>rfl⟩
 | look1 p k=>exact .inl ⟨rfl,fun i=>rfl⟩
 | look0 p=>exact .inl ⟨rfl,fun i=>rfl⟩
 | lookL p=>exact .inl ⟨rfl,fun i=>rfl⟩
 | takeF p=>exact .inl ⟨rfl,fun i=>rfl⟩
 | joinF p=>exact .inl ⟨rfl,fun i=>rfl⟩
 | seeF p a e=>exact .inl ⟨rfl,fun i=>rfl⟩
 | seeD p a k=>exact .inl ⟨rfl,fun i=>rfl⟩
 | closeF p=>exact .inl ⟨rfl,fun i=>rfl⟩
 | takeB p w=>exact .inl ⟨rfl,fun i=>rfl⟩
 | box11 p=>exact .inl ⟨rfl,fun i=>rfl⟩
 | told p e=>exact .inl ⟨rfl,fun i=>rfl⟩
 | res p=>exact .inl ⟨rfl,fun i=>rfl⟩
 | tell1 p a w=>exact .inl ⟨rfl,fun i=>rfl⟩
 | tell2 p a w=>exact .inl ⟨rfl,fun i=>rfl⟩
 | box17 p=>exact .inl ⟨rfl,fun i=>rfl⟩
 | open18 p=>exact .inl ⟨rfl,fun i=>rfl⟩
 | shut20 p e=>exact .inl ⟨rfl,fun i=>rfl⟩
 | shutF p e=>exact .inl ⟨rfl,fun i=>rfl⟩
 | cap21 p w e=>exact .inl ⟨rfl,fun i=>rfl⟩
 | capF p=>exact .inl ⟨rfl,fun i=>rfl⟩
 | absorb p w=>exact .inl ⟨rfl,fun i=>rfl⟩
 | spinF p e=>exact .inl ⟨rfl,fun i=>rfl⟩
 | spinL p e=>exact .inl ⟨rfl,fun i=>rfl⟩
 | spinO p e=>exact .inl ⟨rfl,fun i=>rfl⟩
 | open24 p=>exact .inl ⟨rfl,fun i=>rfl⟩
 | leave p e hw hw2 o=>exact .inl ⟨rfl,fun i=>rfl⟩
 | leaveF p e=>exact .inl ⟨rfl,fun i=>rfl⟩
end
structure LinT (c:Config) (w:Wld) (th:Thread) (ro:Int) (co:Option Int) (j:Int):Prop where
  ex:∃ (k:Nat) (op:Bool) (last:Event),ansL c.lo c.hi j (Zb0 j w.log) (0,false,ZgO) w.hist=some (k,op,last)/\(op=true↔ro≠0) /\
    (op=true->last.op=th.op/\last.item=th.item/\last.kind=1/\last.t=j/\last∈w.hist/\last.step<=w.steps) /\
    (co=none->(Zb0 j w.log).length=k) /\
    (∀ x,co=some x->(Zb0 j w.log).length=k+1/\((Zb0 j w.log).getD k Zbc).op=th.op/\((Zb0 j w.log).getD k Zbc).item=th.item/\((Zb0 j w.log).getD k Zbc).prior=x/\last.step<((Zb0 j w.log).getD k Zbc).step/\((Zb0 j w.log).getD k Zbc).step<=w.steps)
structure Lin (c:Config) (w:Wld) (ro:Int->Int) (co:Int->Option Int):Prop where
  ans:∀ j,InT c j->LinT c w ((vw c w.m w.t).th j) (ro j) (co j) j
  cells:∀ i,0<=i->i<c.items->ZeC c i c.init w.log=some ((vw c w.m w.t).b i 0)
  srt:w.log.Pairwise (fun a b=>a.step<=b.step)
  steps:∀ m∈w.log,1<=m.step/\m.step<=w.steps
  asked:∀ m∈w.log,∃ h∈w.hist,h.kind=1/\h.t=m.t/\h.item=m.item/\h.op=m.op/\h.step<m.step
  inlog:∀ m∈w.log,InT c m.t/\(0<=m.item/\m.item<c.items)/\Zg7 m.op c.bounded=true/\Num m.op.v
  ehist:∀ h∈w.hist,InT c h.t/\(h.kind=1\/h.kind=2\/h.kind=3)/\h.step<=w.steps/\0<=h.step/\Num h.op.v/\Num h.prior
  may:∀ j,InT c j->ro j≠0->Zg7 ((vw c w.m w.t).th j).op c.bounded=true
  hsrt:w.hist.Pairwise (fun a b=>a.step<=b.step)
section
variable {c:Config} {w:Wld} {n:Nat} {ro pa rt ro' pa' rt':Int->Int} {co co':Int->Option Int} {t:Int}
theorem LinT.skip {th:Thread} {r:Int} {cc:Option Int} {j:Int} (L:LinT c w th r cc j) {w':Wld} {h:Event} (hh:h.t≠j\/h.kind=3) (e1:w'.log=w.log) (e2:w'.hist=w.hist++[h]) (e3:w.steps<=w'.steps):LinT c w' th r cc j:=by
 obtain ⟨k,op,last,a,b,d,f,g⟩:=L.ex
 refine ⟨k,op,last,?_,b,fun x=>?_,by rw [e1];exact f,fun x hx=>?_⟩
 . rw [e1,e2,ZgV a,Zmb]
   unfold ansE
   rw [if_pos hh]
 . obtain ⟨d1,d2,d3,d4,d5,d6⟩:=d x
   exact ⟨d1,d2,d3,d4,by rw [e2];exact List.mem_append_left _ d5,by omega⟩
 . rw [e1]
   obtain ⟨g1,g2,g3,g4,g5,g6⟩:=g x hx
   exact ⟨g1,g2,g3,g4,g5,by omega⟩
theorem LinT.same {th:Thread} {r:Int} {cc:Option Int} {j:Int} (L:LinT c w th r cc j) {w':Wld} (e1:Zb0 j w'.log=Zb0 j w.log) (e2:w'.hist=w.hist) (e3:w.steps<=w'.steps):LinT c w' th r cc j:=by
 obtain ⟨k,op,last,a,b,d,f,g⟩:=L.ex
 refine ⟨k,op,last,by rw [e1,e2];exact a,b,fun x=>?_,by rw [e1];exact f,fun x hx=>?_⟩
 . obtain ⟨d1,d2,d3,d4,d5,d6⟩:=d x
   exact ⟨d1,d2,d3,d4,by rw [e2];exact d5,by omega⟩
 . rw [e1]
   obtain ⟨g1,g2,g3,g4,g5,g6⟩:=g x hx
   exact ⟨g1,g2,g3,g4,g5,by omega⟩
theorem Lin.hist_more (Li:Lin c w ro co) {h:Event} (hs:w.steps<=h.step):(w.hist++[h]).Pairwise (fun a b=>a.step<=b.step):=by
 rw [List.pairwise_append]
 refine ⟨Li.hsrt,List.pairwise_singleton _ _,fun a ha b hb=>?_⟩
 rw [List.mem_singleton] at hb
 subst hb
 have:=(Li.ehist a ha).2.2.1
 omega
theorem Lin.invoke (Li:Lin c w ro co) (W:WInv c w n ro pa rt co) (hC:CfgOK c) {e:SEntry} (ht:InT c e.t) (ho:Zg7 e.op c.bounded=true) (hop:Num e.op.v):(¬(w.t.getD e.t.toNat Zaw).phase=0->Lin c (invT w e) ro co)/\((w.t.getD e.t.toNat Zaw).phase=0->Lin c (invT w e) (seta ro e.t 1) co):=by
 have hth:(vw c w.m w.t).th e.t=w.t.getD e.t.toNat Zaw:=ZeI ht
 have hst:=W.steps
 constructor
 . intro hp
   have e0:invT w e={ w with hist:=w.hist++[⟨3,e.t,e.item,e.op,0,false,w.steps⟩] }:=by unfold invT;rw [if_pos hp]
   rw [e0]
   refine ⟨fun j hj=>(Li.ans j hj).skip (.inr rfl) rfl rfl (Int.le_refl _),Li.cells,Li.srt,Li.steps,fun m hm=>?_,Li.inlog,fun h hh=>?_,Li.may,Li.hist_more (Int.le_refl _)⟩
   . obtain ⟨h,h1,h2⟩:=Li.asked m hm
     exact ⟨h,List.mem_append_left _ h1,h2⟩
   . rcases List.mem_append.1 hh with hh | hh
     . exact Li.ehist h hh
     . rw [List.mem_singleton] at hh;subst hh
       exact ⟨ht,.inr (.inr rfl),Int.le_refl _,hst.1,hop,Zbg (show (-1000000:Int)<=0/\(0:Int)<=1000000 by decide)⟩
 . intro hp
   have h0:ro e.t=0:=(W.inv.busy ht).2 (by rw [hth];exact hp)
   have e0:invT w e={ w with t:=w.t.set e.t.toNat (ZgW w.c e.t e.item e.op w.now (w.t.getD e.t.toNat Zaw).width),hist:=w.hist++[⟨1,e.t,e.item,e.op,0,false,w.steps⟩] }:=by unfold invT;rw [if_neg (fun x=>x hp)]
   rw [e0]
   obtain ⟨b,hb⟩:∃ b,b=ZgW w.c e.t e.item e.op w.now (w.t.getD e.t.toNat Zaw).width:=⟨_,rfl⟩
   rw [<- hb]
   have hvt:(vw c w.m (w.t.set e.t.toNat b)).th=seta (vw c w.m w.t).th e.t b:=by
     rw [ZnL W.lenT ht];rfl
   refine ⟨fun j hj=>?_,Li.cells,Li.srt,Li.steps,fun m hm=>?_,Li.inlog,fun h hh=>?_,fun j hj hr=>?_,Li.hist_more (Int.le_refl _)⟩
   . show LinT c _ ((vw c w.m (w.t.set e.t.toNat b)).th j) (seta ro e.t 1 j) (co j) j
     rw [hvt]
     by_cases ej:j=e.t
     . rw [ej,Zag,Zag]
       obtain ⟨k,op,last,a,b1,d,f,g⟩:=(Li.ans e.t ht).ex
       have hop:op=false:=by
         cases op with
         | false=>rfl
         | true=>exact (b1.1 rfl h0).elim
       have hct:co e.t=none:=(W.inv.core.k0 e.t h0).1
       refine ⟨k,true,⟨1,e.t,e.item,e.op,0,false,w.steps⟩,?_,⟨fun _=>by decide,fun _=>rfl⟩,fun _=>⟨by rw [hb];rfl,by rw [hb];rfl,rfl,rfl,List.mem_append_right _ (List.mem_singleton.2 rfl),Int.le_refl _⟩,f,fun x hx=>by rw [hct] at hx;cases hx⟩
       rw [ZgV a,Zmb,hop]
       unfold ansE
       rw [if_neg (by show ¬(e.t≠e.t\/(1:Int)=3);simp),if_pos rfl,if_neg (show ¬(false=true) by decide)]
     . rw [Zaf ej,Zaf ej]
       exact (Li.ans j hj).skip (.inl (Ne.symm ej)) rfl rfl (Int.le_refl _)
   . obtain ⟨h,h1,h2⟩:=Li.asked m hm
     exact ⟨h,List.mem_append_left _ h1,h2⟩
   . rcases List.mem_append.1 hh with hh | hh
     . exact Li.ehist h hh
     . rw [List.mem_singleton] at hh;subst hh
       exact ⟨ht,.inl rfl,Int.le_refl _,hst.1,hop,Zbg (show (-1000000:Int)<=0/\(0:Int)<=1000000 by decide)⟩
   . show Zg7 ((vw c w.m (w.t.set e.t.toNat b)).th j).op c.bounded=true
     rw [hvt]
     by_cases ej:j=e.t
     . rw [ej,Zag,hb];exact ho
     . rw [Zaf ej] at hr ⊢;exact Li.may j hj hr
theorem Core.inBatch {ba:Int->List Entry} {ks:Int->List Kid} {opf:Int->Op} {it:Int->Int} (C:Core c ba ks opf it ro pa rt co) {r:Int} (hr:ro r=1) (j:Int):(ro j≠0/\co j=none/\rt j=r)↔idxOf (ba r) j<(ba r).length:=by
 obtain ⟨cr,rr⟩:=C.k1 r (by omega)
 constructor
 . rintro ⟨a,b,d⟩
   obtain ⟨_,_,o,hs⟩:=C.k5 j a b
   rw [d] at hs
   obtain ⟨r1,hr1⟩:=C.k3 j a
   have hm:(⟨j,opf j⟩:Entry)∈ba r:=hs.mem (by rw [hr1];exact List.mem_cons_self ..)
   exact ZCh hm
 . intro h
   unfold idxOf at h
   have h':((ba r).map (·.t)).findIdx (fun t=>t == j)<((ba r).map (·.t)).length:=by rwa [List.length_map]
   have h2:=List.findIdx_getElem (w:=h')
   have h3:j∈(ba r).map (·.t):=by
     rw [<- eq_of_beq h2];exact List.getElem_mem h'
   obtain ⟨e,he,rfl⟩:=List.mem_map.1 h3
   obtain ⟨a,b,d,f,g⟩:=C.k4 r (by omega) cr e he
   exact ⟨a,f,by rw [g,rr]⟩
theorem Lin.pick (Li:Lin c w ro co) (W:WInv c w n ro pa rt co) (hC:CfgOK c) (hlo:Num c.lo) (hhi:Num c.hi) (hn:n<=200000) (hci:Inb c c.init) (ht:InT c t) (hp:(w.t.getD t.toNat Zaw).phase≠0) :
   ∃ ro' pa' rt' co',WInv c (Zde w t (ZaO (Zbu w t))) (n+1) ro' pa' rt' co'/\Lin c (Zde w t (ZaO (Zbu w t))) ro' co':=by
 obtain ⟨_,ro',pa',rt',co1,W',info,T⟩:=W.pick hC hlo hhi hn ht hp
 refine ⟨ro',pa',rt',_,W',?_⟩
 have hth:(vw c w.m w.t).th t=w.t.getD t.toNat Zaw:=ZeI ht
 have hkp:=Zm8 (Zbu w t)
 have hL:=W.inv.loc t ht
 have hro:ro t≠0:=by
   intro h0
   have:=(W.inv.busy ht).1 h0
   rw [hth] at this
   exact hp this
 have hop1:(ZaO (Zbu w t)).th.op=(w.t.getD t.toNat Zaw).op:=ZvE hkp
 have hit1:(ZaO (Zbu w t)).th.item=(w.t.getD t.toNat Zaw).item:=Zxm hkp
 obtain ⟨u,hu⟩:∃ u,u=ZaO (Zbu w t):=⟨_,rfl⟩
 rw [<- hu] at W' info T hop1 hit1 ⊢
 have hst:=W.steps
 have hs:ZeA w=w.steps+1:=by unfold ZeA;rw [Zaq (by omega) (by omega)]
 have hvth:(vw c (Zde w t u).m (Zde w t u).t).th=seta (vw c w.m w.t).th t u.th:=by
   show vwT c (w.t.set t.toNat u.th)=_
   rw [Zxl W.lenT ht];rfl
 have hidle:=T.idle hth hp
 rw [hvth,Zag] at hidle
 have hcells:=T.cells (fun p=>by rw [<- hth] at p ⊢;exact hL.y p) (Zba c).1 (fun p=>by
   rw [<- hth] at p ⊢
   have ha:=hL.ari.2.2.2.2.2.2.1 (by omega)
   have:=(W.inv.nodes t ht).1 _ (ZdQ (by omega) ha)
   omega)
 have hbz:∀ j,InT c j->j≠t->(ro' j=0↔ro j=0):=by
   intro j hj hjt
   rw [W'.inv.busy hj,W.inv.busy hj,hvth,Zaf hjt]
 have hbt:ro' t=0↔u.done=true:=by
   rw [W'.inv.busy ht,hvth,Zag];exact hidle
 obtain ⟨co',hco'⟩:∃ co',co'=if u.done=true then seta co1 t none else co1:=⟨_,rfl⟩
 rw [<- hco'] at W' ⊢
 have hcoj:∀ j,j≠t->co' j=co1 j:=by
   intro j hj;rw [hco'];split
   . rw [Zaf hj]
   . rfl
 obtain ⟨ms,hms⟩:∃ ms,ms=u.log.map (ZcF (ZeA w)):=⟨_,rfl⟩
 have hlog:(Zde w t u).log=w.log++ms:=by rw [hms];rfl
 have hsteps:(Zde w t u).steps=w.steps+1:=hs
 have own:∀ j,InT c j->∃ (k:Nat) (op:Bool) (last:Event),ansL c.lo c.hi j (Zb0 j (w.log++ms)) (0,false,ZgO) w.hist=some (k,op,last)/\(op=true↔ro j≠0) /\
     (op=true->last.op=((vw c w.m w.t).th j).op/\last.item=((vw c w.m w.t).th j).item/\last.kind=1/\last.t=j/\last∈w.hist/\last.step<=w.steps) /\
     (co1 j=none->(Zb0 j (w.log++ms)).length=k) /\
     (∀ x,co1 j=some x->(Zb0 j (w.log++ms)).length=k+1/\((Zb0 j (w.log++ms)).getD k Zbc).op=((vw c w.m w.t).th j).op/\((Zb0 j (w.log++ms)).getD k Zbc).item=((vw c w.m w.t).th j).item/\((Zb0 j (w.log++ms)).getD k Zbc).prior=x/\last.step<((Zb0 j (w.log++ms)).getD k Zbc).step/\((Zb0 j (w.log++ms)).getD k Zbc).step<=w.steps+1):=by
   intro j hj
   obtain ⟨k,op,last,a,b,d,f,g⟩:=(Li.ans j hj).ex
   rcases info.1 with ⟨e1,e2⟩ | ⟨hr1,e1,e2⟩
   . have:ms=[]:=by rw [hms,e1];rfl
     rw [this,List.append_nil,e2]
     exact ⟨k,op,last,a,b,d,f,fun x hx=>by obtain ⟨g1,g2,g3,g4,g5,g6⟩:=g x hx;exact ⟨g1,g2,g3,g4,g5,by omega⟩⟩
   . have hmo:Zb0 j ms=if idxOf ((vw c w.m w.t).th t).batch j<((vw c w.m w.t).th t).batch.length then [⟨j,((vw c w.m w.t).th t).item,(((vw c w.m w.t).th t).batch.getD (idxOf ((vw c w.m w.t).th t).batch j) ⟨0,⟨0,0⟩⟩).op,allT c.lo c.hi (((vw c w.m w.t).th t).batch.take (idxOf ((vw c w.m w.t).th t).batch j)) ((vw c w.m w.t).b ((vw c w.m w.t).th t).item 0),ZeA w⟩] else []:=by
       rw [hms,e1]
       exact ZrQ _ _ j _ _ (W.inv.core.nod t hro)
     have hib:=W.inv.core.inBatch hr1 j
     rw [Zwd,hmo]
     by_cases hlt:idxOf ((vw c w.m w.t).th t).batch j<((vw c w.m w.t).th t).batch.length
     . obtain ⟨q1,q2,q3⟩:=hib.2 hlt
       have hf:=f q2
       have hc1:co1 j=some (allT c.lo c.hi (((vw c w.m w.t).th t).batch.take (idxOf ((vw c w.m w.t).th t).batch j)) ((vw c w.m w.t).b ((vw c w.m w.t).th t).item 0)):=by
         rw [e2];exact if_pos ⟨q1,q2,q3⟩
       have hd:=d (b.2 q1)
       have hget:(((vw c w.m w.t).th t).batch.getD (idxOf ((vw c w.m w.t).th t).batch j) ⟨0,⟨0,0⟩⟩)∈((vw c w.m w.t).th t).batch:=by
         rw [List.getD_eq_getElem?_getD,List.getElem?_eq_getElem hlt];exact List.getElem_mem hlt
       have hgt:(((vw c w.m w.t).th t).batch.getD (idxOf ((vw c w.m w.t).th t).batch j) ⟨0,⟨0,0⟩⟩).t=j:=by
         rw [List.getD_eq_getElem?_getD,List.getElem?_eq_getElem hlt]
         have h':(((vw c w.m w.t).th t).batch.map (·.t)).findIdx (fun t=>t == j)<(((vw c w.m w.t).th t).batch.map (·.t)).length:=by rw [List.length_map];exact hlt
         have h2:=List.findIdx_getElem (w:=h')
         have:=eq_of_beq h2
         rw [List.getElem_map] at this
         exact this
       have hk4:=W.inv.core.k4 t hro (W.inv.core.k1 t (by omega)).1 _ hget
       rw [hgt] at hk4
       rw [if_pos hlt]
       refine ⟨k,op,last,Zsg a,b,d,fun x=>(by rw [hc1] at x;cases x),fun x hx=>?_⟩
       rw [hc1] at hx
       have hx:=Option.some.inj hx
       have hg:(Zb0 j w.log++[(⟨j,((vw c w.m w.t).th t).item,(((vw c w.m w.t).th t).batch.getD (idxOf ((vw c w.m w.t).th t).batch j) ⟨0,⟨0,0⟩⟩).op,allT c.lo c.hi (((vw c w.m w.t).th t).batch.take (idxOf ((vw c w.m w.t).th t).batch j)) ((vw c w.m w.t).b ((vw c w.m w.t).th t).item 0),ZeA w⟩:Mark)]).getD k Zbc=⟨j,((vw c w.m w.t).th t).item,(((vw c w.m w.t).th t).batch.getD (idxOf ((vw c w.m w.t).th t).batch j) ⟨0,⟨0,0⟩⟩).op,allT c.lo c.hi (((vw c w.m w.t).th t).batch.take (idxOf ((vw c w.m w.t).th t).batch j)) ((vw c w.m w.t).b ((vw c w.m w.t).th t).item 0),ZeA w⟩:=by
         rw [List.getD_eq_getElem?_getD,List.getElem?_append_right (by omega),hf,Nat.sub_self];rfl
       rw [hg]
       refine ⟨by rw [List.length_append,hf];rfl,hk4.2.1.symm,hk4.2.2.1.symm,hx,?_,?_⟩
       . show last.step<ZeA w
         rw [hs];omega
       . show ZeA w<=w.steps+1
         rw [hs];exact Int.le_refl _
     . rw [if_neg hlt,List.append_nil]
       have hc1:co1 j=co j:=by rw [e2];exact if_neg (fun x=>hlt (hib.1 x))
       rw [hc1]
       exact ⟨k,op,last,a,b,d,f,fun x hx=>by obtain ⟨g1,g2,g3,g4,g5,g6⟩:=g x hx;exact ⟨g1,g2,g3,g4,g5,by omega⟩⟩
 have hmst:∀ m∈ms,m.step=w.steps+1:=by
   intro m hm
   rw [hms] at hm
   obtain ⟨m0,_,rfl⟩:=List.mem_map.1 hm
   exact hs
 have hment:∀ m∈ms,∃ e∈((vw c w.m w.t).th t).batch,ro t=1/\m.t=e.t/\m.op=e.op/\m.item=((vw c w.m w.t).th t).item:=by
   intro m hm
   rw [hms] at hm
   obtain ⟨m0,hm0,rfl⟩:=List.mem_map.1 hm
   rcases info.1 with ⟨e1,_⟩ | ⟨hr1,e1,_⟩
   . rw [e1] at hm0;cases hm0
   . rw [e1] at hm0
     unfold Zf5 at hm0
     obtain ⟨i,hi,hg⟩:=List.mem_iff_getElem.1 hm0
     rw [List.getElem_zipWith] at hg
     rw [List.length_zipWith] at hi
     exact ⟨((vw c w.m w.t).th t).batch[i]'(by omega),List.getElem_mem _,hr1,by rw [<- hg];rfl,by rw [<- hg];rfl,by rw [<- hg];rfl⟩
 have hk4m:∀ m∈ms,InT c m.t/\ro m.t≠0/\((vw c w.m w.t).th m.t).op=m.op/\((vw c w.m w.t).th m.t).item=m.item:=by
   intro m hm
   obtain ⟨e,he,hr1,a,b,d⟩:=hment m hm
   have hk:=W.inv.core.k4 t hro (W.inv.core.k1 t (by omega)).1 e he
   rw [a,b,d]
   exact ⟨W.inv.core.ent t hro e he,hk.1,hk.2.1,hk.2.2.1⟩
 have hopt:((vw c w.m w.t).th t).op=u.th.op:=by rw [hop1,hth]
 have hitt:((vw c w.m w.t).th t).item=u.th.item:=by rw [hit1,hth]
 refine ⟨fun j hj=>?_,fun i h0 h1=>?_,?_,fun m hm=>?_,fun m hm=>?_,fun m hm=>?_,fun h hh=>?_,fun j hj hr=>?_,?_⟩
 . rw [hvth]
   obtain ⟨k,op,last,a,b,d,f,g⟩:=own j hj
   by_cases ej:j=t
   . rw [ej] at a b d f g hj ⊢
     rw [Zag]
     have hopen:op=true:=b.2 hro
     obtain ⟨d1,d2,d3,d4,d5,d6⟩:=d hopen
     cases hd:u.done with
     | false =>
       have hh:(Zde w t u).hist=w.hist:=by show (if u.done=true then _ else _)=_;rw [hd];rfl
       have hct:co' t=co1 t:=by rw [hco',hd];rfl
       refine ⟨k,op,last,by rw [hlog,hh];exact a,⟨fun _ x=>?_,fun _=>hopen⟩,fun _=>⟨by rw [<- hopt];exact d1,by rw [<- hitt];exact d2,d3,d4,by rw [hh];exact d5,by rw [hsteps];omega⟩,fun x=>?_,fun x hx=>?_⟩
       . have:=hbt.1 x;rw [hd] at this;cases this
       . rw [hlog];exact f (by rw [<- hct];exact x)
       . rw [hlog,hsteps]
         have:=g x (by rw [<- hct];exact hx)
         rw [hopt,hitt] at this
         exact this
     | true =>
       have hh:(Zde w t u).hist=w.hist++[ZiS w t u]:=by show (if u.done=true then _ else _)=_;rw [hd];rfl
       have hc1:co1 t=some u.th.x:=by
         have:=info.2 hd
         rw [hvth,Zag] at this
         exact this
       have hct:co' t=none:=by rw [hco',hd,if_pos rfl,Zag]
       obtain ⟨g1,g2,g3,g4,g5,g6⟩:=g _ hc1
       have hfit:Fits c.lo c.hi (Zb0 t (w.log++ms)) k last (ZiS w t u):=by
         refine ⟨by omega,by rw [g2,hopt];rfl,by rw [g3,hitt];rfl,g4,?_,by rw [d1,hopt];rfl,by rw [d2,hitt];rfl,g5,?_⟩
         . show (App u.th.op u.th.x w.c.lo w.c.hi).2=(App u.th.op u.th.x c.lo c.hi).2
           rw [W.cE]
         . show _<=ZeA w
           rw [hs];exact g6
       refine ⟨k+1,false,last,?_,⟨fun x=>(by cases x),fun x=>(x (hbt.2 hd)).elim⟩,fun x=>(by cases x),fun _=>?_,fun x hx=>by rw [hct] at hx;cases hx⟩
       . rw [hlog,hh,ZgV a,Zmb]
         unfold ansE
         rw [if_neg (by show ¬(t≠t\/(2:Int)=3);simp),if_neg (by show ¬(2:Int)=1;decide),if_pos ⟨hopen,hfit⟩]
       . rw [hlog];exact g1
   . rw [Zaf ej,hcoj j ej]
     have hskip:ansL c.lo c.hi j (Zb0 j (Zde w t u).log) (0,false,ZgO) (Zde w t u).hist=some (k,op,last):=by
       rw [hlog]
       show ansL c.lo c.hi j (Zb0 j (w.log++ms)) (0,false,ZgO) (if u.done=true then w.hist++[ZiS w t u] else w.hist)=_
       split
       . rw [ZgV a,Zmb]
         unfold ansE
         rw [if_pos (.inl (by show t≠j;exact Ne.symm ej))]
       . exact a
     have hb:=hbz j hj ej
     refine ⟨k,op,last,hskip,⟨fun x=>fun y=>b.1 x (hb.1 y),fun x=>b.2 (fun y=>x (hb.2 y))⟩,fun x=>?_,fun x=>by rw [hlog];exact f x,fun x hx=>by rw [hlog,hsteps];exact g x hx⟩
     obtain ⟨d1,d2,d3,d4,d5,d6⟩:=d x
     refine ⟨d1,d2,d3,d4,?_,by rw [hsteps];omega⟩
     show last∈(if u.done=true then w.hist++[ZiS w t u] else w.hist)
     split
     . exact List.mem_append_left _ d5
     . exact d5
 . rw [hlog]
   have old:=Li.cells i h0 h1
   rw [ZkV old]
   have hCin:Inb c ((vw c w.m w.t).b i 0):=ZpY old hci
   have hnx:=W.inv.num.1 i 0
   rcases hcells with ⟨e1,e2⟩ | ⟨e1,e2,e3⟩
   . rw [hms,e1]
     show some _=some _
     rw [e2 i]
   . by_cases ei:i=(w.t.getD t.toNat Zaw).item
     . have hr1:ro t=1:=by
         rcases info.1 with ⟨x,_⟩ | ⟨x,_,_⟩
         . exfalso
           rw [x] at e1
           have hb:=W.inv.core.k3 t hro
           obtain ⟨r,hb⟩:=hb
           have hb:((vw c w.m w.t).th t).batch=⟨t,((vw c w.m w.t).th t).op⟩::r:=hb
           rw [hth] at hb
           unfold Zf5 at e1
           rw [hb] at e1
           cases e1
         . exact x
       rw [hms,e1,ei,e2]
       unfold Zf5
       rw [<- ei]
       have:=ZqN hlo i (ZeA w) (w.t.getD t.toNat Zaw).batch ((vw c w.m w.t).b i 0) hnx hCin (fun e he=>by
         rw [<- hth] at he
         have hk:=W.inv.core.k4 t hro (W.inv.core.k1 t (by omega)).1 e he
         refine ⟨hL.ops (by rw [hth];exact hp) e he,?_⟩
         have:=Li.may e.t (W.inv.core.ent t hro e he) hk.1
         have h2:((vw c w.m w.t).th e.t).op=e.op:=hk.2.1
         rwa [h2] at this)
       exact this
     . rw [hms,e1,e3 i ei]
       exact Zpq (Ne.symm ei) _ (fun _ _=>rfl) _ _ _
 . rw [hlog,List.pairwise_append]
   refine ⟨Li.srt,?_,fun a ha b hb=>?_⟩
   . rw [List.pairwise_iff_getElem]
     intro i j hi hj _
     rw [hmst _ (List.getElem_mem hi),hmst _ (List.getElem_mem hj)]
     exact Int.le_refl _
   . rw [hmst b hb]
     have:=(Li.steps a ha).2
     omega
 . rw [hsteps]
   rw [hlog] at hm
   rcases List.mem_append.1 hm with hm | hm
   . have:=Li.steps m hm;omega
   . rw [hmst m hm];omega
 . rw [hlog] at hm
   have hsub:∀ h∈w.hist,h∈(Zde w t u).hist:=by
     intro h hh
     show h∈(if u.done=true then w.hist++[ZiS w t u] else w.hist)
     split
     . exact List.mem_append_left _ hh
     . exact hh
   rcases List.mem_append.1 hm with hm | hm
   . obtain ⟨h,h1,h2⟩:=Li.asked m hm
     exact ⟨h,hsub h h1,h2⟩
   . obtain ⟨q1,q2,q3,q4⟩:=hk4m m hm
     obtain ⟨k,op,last,a,b,d,_,_⟩:=(Li.ans m.t q1).ex
     obtain ⟨d1,d2,d3,d4,d5,d6⟩:=d (b.2 q2)
     exact ⟨last,hsub _ d5,d3,d4,by rw [d2,q4],by rw [d1,q3],by rw [hmst m hm];omega⟩
 . rw [hlog] at hm
   rcases List.mem_append.1 hm with hm | hm
   . exact Li.inlog m hm
   . obtain ⟨q1,q2,q3,q4⟩:=hk4m m hm
     have hLm:=W.inv.loc m.t q1
     have hpm:((vw c w.m w.t).th m.t).phase≠0:=fun x=>q2 ((W.inv.busy q1).2 x)
     refine ⟨q1,by rw [<- q4];exact hLm.item hpm,by rw [<- q3];exact Li.may m.t q1 q2,?_⟩
     obtain ⟨e,he,_,_,b,_⟩:=hment m hm
     rw [b]
     exact hL.ops (by rw [hth];exact hp) e he
 . have hh:h∈(if u.done=true then w.hist++[ZiS w t u] else w.hist):=hh
   rw [hsteps]
   have old:h∈w.hist->_:=fun hh=>Li.ehist h hh
   split at hh
   . rcases List.mem_append.1 hh with hh | hh
     . have:=old hh;exact ⟨this.1,this.2.1,by omega,this.2.2.2⟩
     . rw [List.mem_singleton] at hh;subst hh
       refine ⟨ht,.inr (.inl rfl),by show ZeA w<=_;rw [hs];exact Int.le_refl _,by show 0<=ZeA w;rw [hs];omega,?_,?_⟩
       . show Num u.th.op.v
         obtain ⟨r,hb⟩:=W.inv.core.k3 t hro
         have hb:((vw c w.m w.t).th t).batch=⟨t,((vw c w.m w.t).th t).op⟩::r:=hb
         have:=hL.ops (by rw [hth];exact hp) ⟨t,((vw c w.m w.t).th t).op⟩ (by rw [hb];exact List.mem_cons_self ..)
         rw [<- hopt];exact this
       . show Num u.th.x
         have:=(W'.inv.loc t ht).nx
         rw [hvth,Zag] at this
         exact this
   . have:=old hh;exact ⟨this.1,this.2.1,by omega,this.2.2.2⟩
 . rw [hvth]
   by_cases ej:j=t
   . rw [ej,Zag,hop1,<- hth];exact Li.may t ht hro
   . rw [Zaf ej];exact Li.may j hj (fun x=>hr ((hbz j hj ej).2 x))
 . show (if u.done=true then w.hist++[ZiS w t u] else w.hist).Pairwise _
   split
   . exact Li.hist_more (by show w.steps<=ZeA w;rw [hs];omega)
   . exact Li.hsrt
theorem Lin.entry (Li:Lin c w ro co) (W:WInv c w n ro pa rt co) (hC:CfgOK c) (hlo:Num c.lo) (hhi:Num c.hi) (hn:n<=200000) (hci:Inb c c.init) {e:SEntry} (he:Zbv c e=0) (hop:Num e.op.v) :
   ∃ ro' pa' rt' co',WInv c (ZaV w e) (n+1) ro' pa' rt' co'/\Lin c (ZaV w e) ro' co':=by
 have hE:=(W.entry hC hlo hhi hn he hop).2
 rcases ZmP he with ⟨k,ht,hi,ho⟩ | ⟨k,ht⟩ | k
 . unfold ZaV
   rw [if_pos k]
   have hI:=Li.invoke W hC ht ho hop
   by_cases hp:(w.t.getD e.t.toNat Zaw).phase=0
   . have h2:=hI.2 hp
     have hth:(vw c w.m w.t).th e.t=w.t.getD e.t.toNat Zaw:=ZeI ht
     have hl:=W.log;have hh:=W.hist;have hst:=W.steps;have hnw:=W.now
     refine ⟨seta ro e.t 1,pa,seta rt e.t e.t,co,?_,h2⟩
     have hv:=W.inv.invoke hC ht (by rw [hth];exact hp) (i:=e.item) (op:=e.op) (now:=w.now) (wd:=(w.t.getD e.t.toNat Zaw).width) hi hop (by rw [hth])
     unfold invT
     rw [if_neg (fun x=>x hp)]
     refine ⟨W.cE,?_,W.lenW,W.lenB,W.tape,?_,?_,?_,?_,?_⟩
     . show ((w.t.set _ _).length:Int)=_
       rw [List.length_set];exact W.lenT
     . show w.log.length<=_;omega
     . show (w.hist++[_]).length<=_
       rw [List.length_append,List.length_singleton];omega
     . show 0<=w.steps/\w.steps<=((n+1:Nat):Int);omega
     . show 0<=w.now/\w.now<=((n+1:Nat):Int);omega
     . show Inv c (vw c w.m (w.t.set _ _)) _ _ _ _
       rw [ZnL W.lenT ht,W.cE]
       exact hv
   . have h2:=hI.1 hp
     have hl:=W.log;have hh:=W.hist;have hst:=W.steps;have hnw:=W.now
     refine ⟨ro,pa,rt,co,?_,h2⟩
     unfold invT
     rw [if_pos hp]
     refine ⟨W.cE,W.lenT,W.lenW,W.lenB,W.tape,?_,?_,?_,?_,W.inv⟩
     . show w.log.length<=_;omega
     . show (w.hist++[_]).length<=_
       rw [List.length_append,List.length_singleton];omega
     . show 0<=w.steps/\w.steps<=((n+1:Nat):Int);omega
     . show 0<=w.now/\w.now<=((n+1:Nat):Int);omega
 . unfold ZaV
   rw [if_neg (show ¬e.kind=1 by omega),if_pos k]
   have hl:=W.log;have hh:=W.hist;have hst:=W.steps;have hnw:=W.now
   by_cases hp:(w.t.getD e.t.toNat Zaw).phase=0
   . rw [if_pos hp]
     exact ⟨ro,pa,rt,co,⟨W.cE,W.lenT,W.lenW,W.lenB,W.tape,by omega,by omega,by omega,by omega,W.inv⟩,Li⟩
   . rw [if_neg hp]
     exact Li.pick W hC hlo hhi hn hci ht hp
 . have hl:=W.log;have hh:=W.hist;have hst:=W.steps;have hnw:=W.now
   unfold ZaV
   rw [if_neg (show ¬e.kind=1 by omega),if_neg (show ¬e.kind=2 by omega),if_pos k]
   refine ⟨ro,pa,rt,co,⟨W.cE,W.lenT,W.lenW,W.lenB,W.tape,?_,?_,?_,?_,W.inv⟩,⟨fun j hj=>(Li.ans j hj).same rfl rfl (Int.le_refl _),Li.cells,Li.srt,Li.steps,Li.asked,Li.inlog,Li.ehist,Li.may,Li.hsrt⟩⟩
   . show w.log.length<=_;omega
   . show w.hist.length<=_;omega
   . show 0<=w.steps/\w.steps<=((n+1:Nat):Int);omega
   . show 0<=Zad .i64 (w.now+1)/\Zad .i64 (w.now+1)<=((n+1:Nat):Int)
     rw [Zaq (by omega) (by omega)];omega
theorem Lin.entries (hC:CfgOK c) (hlo:Num c.lo) (hhi:Num c.hi) (hci:Inb c c.init):∀ {l:List SEntry} {w:Wld} {n:Nat} {ro pa rt:Int->Int} {co:Int->Option Int},WInv c w n ro pa rt co->Lin c w ro co->n+l.length<=200000->(∀ e∈l,Zbv c e=0/\Num e.op.v) ->
   ∃ ro' pa' rt' co',WInv c (l.foldl ZaV w) (n+l.length) ro' pa' rt' co'/\Lin c (l.foldl ZaV w) ro' co'
 | [],w,n,ro,pa,rt,co,W,Li,_,_=>⟨ro,pa,rt,co,W,Li⟩
 | e :: l, w, n, ro, pa, rt, co, W, Li, hn, he => by
   rw [List.length_cons] at hn
   obtain ⟨ro',pa',rt',co',W',Li'⟩:=Li.entry W hC hlo hhi (by omega) hci (he e (List.mem_cons_self ..)).1 (he e (List.mem_cons_self ..)).2
   have:=Lin.entries hC hlo hhi hci W' Li' (by omega) (fun x hx=>he x (List.mem_cons_of_mem _ hx))
   rw [List.length_cons,show n+(l.length+1)=n+1+l.length by omega]
   exact this
end
end Go.Proofs.Mill
/- Any script, run. -/
namespace Go.Proofs.Mill
theorem Zx2 {e:SEntry} (h:Ty.Ok .sentry e):Num e.op.v:=by
 have:=h (.int .i64 e.op.v) (by simp [Ty.enc,Zli])
 cases this with
 | int h=>exact Zys h
theorem Zpd {l:List SEntry} (h:(Zao .sentry).Ok l):∀ e∈l,Num e.op.v:=fun e he=>Zx2 (h.2 e he)
def ZAK:Wld:=Wld.mk (Config.mk (0:Int) (0:Int) (0:Int) (0:Int) (0:Int) (0:Int) (0:Int) (0:Int) false (0:Int) (0:Int) (0:Int)) (Memo.mk ([]:List Int) ([]:List (List Entry))) ([]:List Thread) (0:Int) (0:Int) (Tape.mk ([]:List Int) (0:Int)) ([]:List Mark) ([]:List Event)
theorem Zx0 {c:Config} {l:List SEntry} (h:(allE c l).2=0):CfgOK c/\l.length<=65536/\∀ e∈l,Zbv c e=0:=by
 obtain ⟨e,he,hE⟩:=ZhJ c
 unfold allE at h
 rw [he,Option.getD_some] at h
 by_cases h0:e≠0
 . rw [if_pos h0] at h;exact (h0 h).elim
 rw [if_neg h0] at h
 have h0:=Classical.not_not.1 h0
 by_cases h1:l.length>65536
 . rw [if_pos h1] at h;exact absurd h (by decide)
 rw [if_neg h1] at h
 refine ⟨hE.1 h0,by omega,?_⟩
 cases hb:Zha c 0 l with
 | none=>exact Zsd hb
 | some y =>
   rw [hb] at h
   have key:∀ (l:List SEntry) (i:Nat),Zha c i l=some y->y.2≠0:=by
     intro l
     induction l with
     | nil=>intro i h;cases h
     | cons e l ih =>
       intro i h
       unfold Zha at h
       by_cases g:Zbv c e=0
       . rw [if_pos g] at h;exact ih _ h
       . rw [if_neg g] at h;rw [<- Option.some.inj h];exact g
   exact (key l 0 hb h).elim
end Go.Proofs.Mill
/- Rounds, and how many of them a script ends with. -/
namespace Go.Proofs.Mill
def Zef (c:Config):Int:=20+8*c.depth+c.layers*(20+2*c.spin)
def ZbH (c:Config):Int:=20+4*Zef c*c.threads
theorem Znz {c:Config} (h:CfgOK c):20<=Zef c/\Zef c<=232:=by
 have h1:=h.depth
 have h2:=h.layers
 have h3:=h.spin
 have h4:0<=c.layers*(20+2*c.spin):=Int.mul_nonneg (by omega) (by omega)
 have h5:c.layers*(20+2*c.spin)<=3*60:=Int.mul_le_mul (by omega) (by omega) (by omega) (by omega)
 unfold Zef
 omega
theorem Zm5 {c:Config} (h:CfgOK c):20<=ZbH c/\ZbH c<=14868/\0<=4*Zef c*c.threads/\4*Zef c*c.threads<=14848:=by
 have h1:=h.threads
 have h2:=Znz h
 have h4:0<=4*Zef c*c.threads:=Int.mul_nonneg (by omega) (by omega)
 have h5:4*Zef c*c.threads<=928*16:=Int.mul_le_mul (by omega) (by omega) (by omega) (by omega)
 unfold ZbH
 omega
theorem Zts {c:Config} (h:CfgOK c):ZiH c=some (Zef c):=by
 have h1:=h.depth
 have h2:=h.layers
 have h3:=h.spin
 have h4:0<=c.layers*(20+2*c.spin):=Int.mul_nonneg (by omega) (by omega)
 have h5:c.layers*(20+2*c.spin)<=3*60:=Int.mul_le_mul (by omega) (by omega) (by omega) (by omega)
 unfold ZiH Zef
 rw [Zaq (n:=2*c.spin) (by omega) (by omega),Zaq (n:=20+2*c.spin) (by omega) (by omega),Zaq (n:=8*c.depth) (by omega) (by omega),Zaq (n:=20+8*c.depth) (by omega) (by omega),Zaq (n:=c.layers*(20+2*c.spin)) (by omega) (by omega),Zaq (by omega) (by omega)]
theorem Zpe {c:Config} (h:CfgOK c):ZjJ c=some (ZbH c):=by
 have h2:=Znz h
 have h3:=Zm5 h
 unfold ZjJ
 simp only [ZiC,Zts h]
 rw [Zaq (n:=4*Zef c) (by omega) (by omega),Zaq (n:=4*Zef c*c.threads) (by omega) (by omega),Zaq (by omega) (by omega)]
 rfl
def sE (t:Nat):SEntry:=⟨2,t,0,⟨0,0⟩⟩
def ZaH (T m:Nat):List SEntry:=(List.range m).map fun i=>sE (i % T)
theorem Zcg {T m:Nat}:(ZaH T m).length=m:=by simp [ZaH]
theorem Zq3 {T m:Nat}:ZaH T (m+1)=ZaH T m++[sE (m % T)]:=by simp [ZaH,List.range_succ]
theorem Zqv {T:Nat}:ZaH T 0=[]:=rfl
theorem Zx3 {T m i:Nat} (h:i<m):(ZaH T m).getD i ZaL=sE (i % T):=by
 simp [ZaH,List.getD_eq_getElem?_getD,h]
theorem Zxd {c:Config} (h:CfgOK c):ZkY c=some (ZaH c.threads.toNat c.threads.toNat):=by
 have h1:=h.threads
 have key:ZlR ([],c.threads,0)=some (ZaH c.threads.toNat c.threads.toNat):=by
   refine Zdo (step:=ZgA) (fun i=>(ZaH c.threads.toNat i,c.threads,(i:Int))) c.threads.toNat (fun i hi=>?_) ?_
   . show Zfg (ZaH c.threads.toNat i) c.threads (i:Int)=some (.inl (ZaH c.threads.toNat (i+1),c.threads,((i+1:Nat):Int)))
     unfold Zfg
     rw [decide_eq_true (show (i:Int)<c.threads by omega),ZbN (by rw [Zcg];simp;omega),Zaq (by omega) (by omega)]
     simp only [cond_true,Zq3,sE,Nat.mod_eq_of_lt hi,Int.natCast_add,Int.natCast_one]
   . show Zfg (ZaH c.threads.toNat c.threads.toNat) c.threads (c.threads.toNat:Int)=_
     unfold Zfg
     rw [decide_eq_false (show ¬((c.threads.toNat:Nat):Int)<c.threads by omega)]
     rfl
 unfold ZkY
 rw [key]
theorem Zzj {T r i:Nat} (hi:i<T):(r*T+i) % T=i:=by
 rw [Nat.mul_comm,Nat.mul_add_mod,Nat.mod_eq_of_lt hi]
theorem ZtP {c:Config} (h:CfgOK c) (n:Int) {r:Nat} (hr:r*c.threads.toNat<=65536):Zk5 (n,ZaH c.threads.toNat (r*c.threads.toNat),ZaH c.threads.toNat c.threads.toNat,ZaH c.threads.toNat c.threads.toNat,((ZaH c.threads.toNat c.threads.toNat).length:Int),0) =
    if (r+1)*c.threads.toNat<=65536 then some (.inr (n,ZaH c.threads.toNat ((r+1)*c.threads.toNat),ZaH c.threads.toNat c.threads.toNat)) else some (.inl (ZaH c.threads.toNat 65536)):=by
  have h1:=h.threads
  rw [Zcg]
  generalize hT:c.threads.toNat=T at *
  have hmul:(r+1)*T=r*T+T:=by rw [Nat.add_mul];omega
  have hstep:∀ i,i<T->r*T+i<65536->ZdH (n,ZaH T (r*T+i),ZaH T T,ZaH T T,(T:Int),(i:Int))=some (.inl (n,ZaH T (r*T+(i+1)),ZaH T T,ZaH T T,(T:Int),((i+1:Nat):Int))):=by
    intro i hi hlt
    show Zc5 n (ZaH T (r*T+i)) (ZaH T T) (ZaH T T) (T:Int) (i:Int)=_
    unfold Zc5
    rw [Zcg,Zcg,decide_eq_true (show (i:Int)<T by omega),decide_eq_true (show (0:Int)<=i by omega),decide_eq_false (show ¬((r*T+i:Nat):Int)>=65536 by omega),ZbN (by simp;omega),Zaq (by omega) (by omega),Int.toNat_natCast,Zx3 hi]
    simp only [cond_true,cond_false,<- Nat.add_assoc,Zq3,Zzj hi,Nat.mod_eq_of_lt hi,Int.natCast_add,Int.natCast_one]
  by_cases hle:(r+1)*T<=65536
  . rw [if_pos hle]
    have:=Zdo (step:=ZdH) (fun i=>(n,ZaH T (r*T+i),ZaH T T,ZaH T T,(T:Int),(i:Int))) T (y:=.inr (n,ZaH T ((r+1)*T),ZaH T T)) (fun i hi=>hstep i hi (by omega)) (by
      show Zc5 n (ZaH T (r*T+T)) (ZaH T T) (ZaH T T) (T:Int) (T:Int)=_
      unfold Zc5
      rw [decide_eq_false (by omega),hmul]
      rfl)
    exact this
  . rw [if_neg hle]
    have:=Zdo (step:=ZdH) (fun i=>(n,ZaH T (r*T+i),ZaH T T,ZaH T T,(T:Int),(i:Int))) (65536-r*T) (y:=.inl (ZaH T 65536)) (fun i hi=>hstep i (by omega) (by omega)) (by
      show Zc5 n (ZaH T (r*T+(65536-r*T))) (ZaH T T) (ZaH T T) (T:Int) ((65536-r*T:Nat):Int)=_
      unfold Zc5
      rw [Zcg,Zcg,decide_eq_true (show ((65536-r*T:Nat):Int)<T by omega),decide_eq_true (show (0:Int)<=((65536-r*T:Nat):Int) by omega),decide_eq_true (show ((r*T+(65536-r*T):Nat):Int)>=65536 by omega)]
      rw [show r*T+(65536-r*T)=65536 by omega]
      rfl)
    exact this
theorem Zpr {c:Config} (h:CfgOK c) (n:Int) (hn:n<4000000000):Zfy c n=some (ZaH c.threads.toNat (min (n.toNat*c.threads.toNat) 65536)):=by
 have h1:=h.threads
 have key:∀ (k r:Nat),r*c.threads.toNat<=65536->k<4000000000->Zc7 ((k:Int),ZaH c.threads.toNat (r*c.threads.toNat),ZaH c.threads.toNat c.threads.toNat)=some (ZaH c.threads.toNat (min ((r+k)*c.threads.toNat) 65536)):=by
   intro k
   induction k with
   | zero =>
     intro r hr _
     unfold Zc7
     rw [Zcb]
     have e:ZdG (((0:Nat):Int),ZaH c.threads.toNat (r*c.threads.toNat),ZaH c.threads.toNat c.threads.toNat)=some (.inr (ZaH c.threads.toNat (r*c.threads.toNat))):=rfl
     rw [e,Nat.add_zero,Nat.min_eq_left hr]
   | succ k ih =>
     intro r hr hk
     unfold Zc7
     rw [Zcb]
     have e:ZdG (((k+1:Nat):Int),ZaH c.threads.toNat (r*c.threads.toNat),ZaH c.threads.toNat c.threads.toNat)=ZeE ((k+1:Nat):Int) (ZaH c.threads.toNat (r*c.threads.toNat)) (ZaH c.threads.toNat c.threads.toNat):=rfl
     rw [e]
     unfold ZeE
     rw [decide_eq_true (show ((k+1:Nat):Int)>0 by omega),ZtP h _ hr]
     by_cases hle:(r+1)*c.threads.toNat<=65536
     . rw [if_pos hle]
       simp only [cond_true]
       rw [show ((k+1:Nat):Int)-1=k by omega,Zaq (n:=(k:Int)) (by omega) (by omega)]
       have:=ih (r+1) hle (by omega)
       unfold Zc7 at this
       rw [this,show r+1+k=r+(k+1) by omega]
     . rw [if_neg hle]
       simp only [cond_true]
       have:65536<=(r+(k+1))*c.threads.toNat:=by
         have h5:(r+1)*c.threads.toNat<=(r+(k+1))*c.threads.toNat:=Nat.mul_le_mul_right _ (by omega)
         omega
       rw [Nat.min_eq_right this]
 unfold Zfy
 simp only [Ze2,Zxd h]
 by_cases hneg:n<=0
 . have:Zc7 (n,[],ZaH c.threads.toNat c.threads.toNat)=some []:=by
     unfold Zc7
     rw [Zcb]
     have e:ZdG (n,[],ZaH c.threads.toNat c.threads.toNat)=some (.inr []):=by
       show ZeE n [] (ZaH c.threads.toNat c.threads.toNat)=_
       unfold ZeE
       rw [decide_eq_false (by omega)]
       rfl
     rw [e]
   rw [this,show n.toNat=0 by omega]
   simp [Zqv]
 . have:=key n.toNat 0 (by omega) (by omega)
   rw [show ((n.toNat:Nat):Int)=n by omega,Nat.zero_mul,Zqv,Nat.zero_add] at this
   rw [this]
end Go.Proofs.Mill
/- Rounds without an op that is invoked: all comes to its end. -/
namespace Go.Proofs.Mill
def Zk6 (c:Config):Int:=4+6*c.depth+c.layers*(9+c.spin)+2*c.threads
theorem Ztp {c:Config} {v:Vw} {ro pa rt:Int->Int} {co:Int->Option Int} (I:Inv c v ro pa rt co) (hC:CfgOK c) {j:Int} (hj:InT c j) (O:Own2 c (v.th j)):0<=mu c (v.th j)/\mu c (v.th j)<=Zk6 c:=by
 have L:=I.loc j hj
 have A:=L.ari
 have T:=L.tab
 have hT:=hC.threads
 have hs:=hC.spin
 have hd:=hC.depth
 have hl:=hC.layers
 have hp:0<=(v.th j).phase/\(v.th j).phase<=26:=by unfold Tab at T;omega
 have lay0:=Zrv hC (l:=0) (by omega)
 rw [Int.sub_zero] at lay0
 unfold Zk6
 by_cases p0:(v.th j).phase=0
 . rw [mu0 p0];omega
 have hk:=L.kidsN p0
 have hb:=I.short' hC (j:=j) (fun x=>p0 ((I.busy hj).1 x))
 by_cases p1:(v.th j).phase=1
 . rw [mu1 p1];omega
 by_cases p3:(v.th j).phase<=3
 . rw [mu23 (by omega)];omega
 by_cases p6:(v.th j).phase<=6
 . have:=O.up (by omega)
   have hn:=L.node (by omega)
   have:=ZoR hn.1.1
   rw [mu46 (by omega)];omega
 by_cases p10:(v.th j).phase<=10
 . have:=O.down (by omega)
   have ha:=A.2.2.2.2.2.2.1 (by omega)
   by_cases p8:(v.th j).phase<=8
   . rw [mu78 (by omega)];omega
   by_cases p9:(v.th j).phase=9
   . rw [mu9 p9];omega
   . rw [mu10 (by omega)];omega
 by_cases p11:(v.th j).phase=11
 . rw [mu11 p11];omega
 by_cases p12:(v.th j).phase=12
 . rw [mu12 p12];omega
 by_cases p13:(v.th j).phase=13
 . rw [mu13 p13];omega
 by_cases p14:(v.th j).phase=14
 . rw [mu14 p14];omega
 by_cases p16:(v.th j).phase<=16
 . have ha:=A.2.2.2.2.2.2.2 (by omega)
   by_cases p15:(v.th j).phase=15
   . rw [mu15 p15];omega
   . rw [mu16 (by omega)];omega
 have hy:=A.2.2.1 (by omega)
 have l1:=Zrv hC hy.2
 have l2:(c.layers-(v.th j).layer)*(9+c.spin)<=(c.layers-1)*(9+c.spin):=Int.mul_le_mul_of_nonneg_right (by omega) (by omega)
 rw [Int.sub_mul c.layers 1,Int.one_mul] at l2
 by_cases p17:(v.th j).phase=17
 . rw [mu17 p17];omega
 by_cases p18:(v.th j).phase=18
 . rw [mu18 p18];omega
 by_cases p19:(v.th j).phase=19
 . rw [mu19 p19];omega
 by_cases p20:(v.th j).phase=20
 . rw [mu20 p20];omega
 by_cases p21:(v.th j).phase=21
 . rw [mu21 p21];omega
 by_cases p22:(v.th j).phase=22
 . rw [mu22 p22];omega
 by_cases p23:(v.th j).phase=23
 . have:=O.left p23
   rw [ZmJ p23]
   split <;> omega
 by_cases p24:(v.th j).phase=24
 . rw [mu24 p24];omega
 by_cases p25:(v.th j).phase=25
 . rw [mu25 p25];omega
 . rw [mu26 (by omega)];omega
def phi (c:Config) (th:Int->Thread):Nat->Int
 | 0=>0
 | n+1=>phi c th n+mu c (th n)
theorem ZtU {c:Config} {th:Int->Thread} {t:Int} {h':Thread}:∀ n:Nat,phi c (seta th t h') n=phi c th n+(if 0<=t/\t<(n:Int) then mu c h'-mu c (th t) else 0)
 | 0 => by
   rw [if_neg (show ¬(0<=t/\t<((0:Nat):Int)) by omega)];rfl
 | n + 1 => by
   show phi c (seta th t h') n+mu c (seta th t h' n)=phi c th n+mu c (th n)+_
   rw [ZtU n]
   by_cases e:(n:Int)=t
   . subst e
     rw [Zag,if_neg (show ¬(0<=(n:Int)/\(n:Int)<(n:Int)) by omega),if_pos (show 0<=(n:Int)/\(n:Int)<((n+1:Nat):Int) by omega)]
     omega
   . rw [Zaf e]
     by_cases g:0<=t/\t<(n:Int)
     . rw [if_pos g,if_pos (show 0<=t/\t<((n+1:Nat):Int) by omega)];omega
     . rw [if_neg g,if_neg (show ¬(0<=t/\t<((n+1:Nat):Int)) by omega)];omega
theorem Zod {c:Config} {th:Int->Thread} {X:Int} (h:∀ j,InT c j->0<=mu c (th j)/\mu c (th j)<=X):∀ n:Nat,(n:Int)<=c.threads->0<=phi c th n/\phi c th n<=n*X
 | 0,_=>by show (0:Int)<=0/\(0:Int)<=((0:Nat):Int)*X;simp
 | n + 1, hn => by
   have ih:=Zod h n (by omega)
   have:=h n ⟨by omega,by omega⟩
   show 0<=phi c th n+mu c (th n)/\phi c th n+mu c (th n)<=((n+1:Nat):Int)*X
   have e:((n+1:Nat):Int)*X=(n:Int)*X+X:=by
     rw [show ((n+1:Nat):Int)=(n:Int)+1 by omega,Int.add_mul,Int.one_mul]
   omega
def StLe (v:Vw) (j k:Int):Prop:=ZdJ j v.b v.l (v.th j)\/rkQ v.b j (v.th j)+1<=k
theorem Adv.all {c:Config} {v v':Vw} {t:Int} (ht:InT c t) (A:Adv c t v v') :
   (phi c v'.th c.threads.toNat+1<=phi c v.th c.threads.toNat)\/(phi c v'.th c.threads.toNat=phi c v.th c.threads.toNat/\∀ j k,StLe v j k->StLe v' j (if t=j then k-1 else k)):=by
 obtain ⟨h',a1,_,a3⟩:=A
 have h0:=ht.1
 have h1:=ht.2
 have hp:=ZtU (c:=c) (th:=v.th) (t:=t) (h':=h') c.threads.toNat
 rw [if_pos (by omega)] at hp
 rw [a1]
 rcases a3 with a | ⟨b1,b2,b3,b4⟩
 . left;omega
 . refine .inr ⟨by omega,fun j k hs=>?_⟩
   unfold StLe at hs ⊢
   rw [b1,b2,a1]
   by_cases e:t=j
   . subst e
     rw [Zag,if_pos rfl]
     rcases b4 with ⟨d,e⟩ | ⟨d,e⟩
     . rw [e];exact .inl d
     . rcases hs with hs | hs
       . exact (d hs).elim
       . right;omega
   . rw [if_neg e,Zaf (fun x=>e x.symm)]
     exact hs
structure Gd (c:Config) (w:Wld) (n:Nat):Prop where
  inv:∃ ro pa rt co,WInv c w n ro pa rt co
  two:Inv2 c (vw c w.m w.t)
  own:∀ j,InT c j->Own2 c ((vw c w.m w.t).th j)
section
variable {c:Config} {w:Wld} {n:Nat}
theorem Gd.entry (G:Gd c w n) (hC:CfgOK c) (hlo:Num c.lo) (hhi:Num c.hi) (hn:n<=200000) {e:SEntry} (he:Zbv c e=0) (hop:Num e.op.v) :
   Gd c (ZaV w e) (n+1)/\(e.kind=2->Adv c e.t (vw c w.m w.t) (vw c (ZaV w e).m (ZaV w e).t)):=by
 obtain ⟨ro,pa,rt,co,W⟩:=G.inv
 have E:=(W.entry hC hlo hhi hn he hop).2
 rcases ZmP he with ⟨k,ht,hi,ho⟩ | ⟨k,ht⟩ | k
 . have hth:(vw c w.m w.t).th e.t=w.t.getD e.t.toNat Zaw:=ZeI ht
   by_cases hp:(w.t.getD e.t.toNat Zaw).phase=0
   . have ev:vw c (ZaV w e).m (ZaV w e).t=put (vw c w.m w.t) e.t (ZgW w.c e.t e.item e.op w.now (w.t.getD e.t.toNat Zaw).width):=by
       unfold ZaV
       rw [if_pos k]
       unfold invT
       rw [if_neg (fun x=>x hp)]
       exact ZnL W.lenT ht
     refine ⟨⟨E,?_,?_⟩,fun x=>by omega⟩
     . rw [ev]
       exact G.two.invoke ht (by rw [hth];exact hp) ⟨rfl,rfl,by rw [hth];rfl⟩
     . intro j hj
       rw [ev]
       show Own2 c (seta _ e.t _ j)
       by_cases x:j=e.t
       . rw [x,Zag]
         exact .none ⟨.inl (by show (1:Int)<4;omega),by show (1:Int)≠23;omega⟩
       . rw [Zaf x];exact G.own j hj
   . have e1:(ZaV w e).m=w.m/\(ZaV w e).t=w.t:=by
       unfold ZaV
       rw [if_pos k]
       unfold invT
       rw [if_pos hp]
       exact ⟨rfl,rfl⟩
     exact ⟨⟨E,by rw [e1.1,e1.2];exact G.two,by rw [e1.1,e1.2];exact G.own⟩,fun x=>by omega⟩
 . have hth:(vw c w.m w.t).th e.t=w.t.getD e.t.toNat Zaw:=ZeI ht
   by_cases hp:(w.t.getD e.t.toNat Zaw).phase=0
   . have es:ZaV w e=w:=by
       unfold ZaV
       rw [if_neg (show ¬e.kind=1 by omega),if_pos k,if_pos hp]
     rw [es] at E ⊢
     exact ⟨⟨E,G.two,G.own⟩,fun _=>⟨_,seta_same.symm,G.own e.t ht,.inr ⟨rfl,rfl,rfl,.inl ⟨.inl (by rw [hth];exact hp),rfl⟩⟩⟩⟩
   . have es:ZaV w e=Zde w e.t (ZaO (Zbu w e.t)):=by
       unfold ZaV
       rw [if_neg (show ¬e.kind=1 by omega),if_pos k,if_neg hp]
     obtain ⟨_,_,_,_,_,_,_,T⟩:=W.pick hC hlo hhi hn ht hp
     have T':=T
     rw [<- hth] at T'
     rw [es] at E ⊢
     have A:=T'.adv W.inv G.two (G.own e.t ht) hC ht
     refine ⟨⟨E,G.two.step W.inv hC ht T',fun j hj=>?_⟩,fun _=>A⟩
     obtain ⟨h',a1,a2,_⟩:=A
     rw [a1]
     by_cases x:j=e.t
     . rw [x,Zag];exact a2
     . rw [Zaf x];exact G.own j hj
 . have e1:(ZaV w e).m=w.m/\(ZaV w e).t=w.t:=by
     unfold ZaV
     rw [if_neg (show ¬e.kind=1 by omega),if_neg (show ¬e.kind=2 by omega),if_pos k]
     exact ⟨rfl,rfl⟩
   exact ⟨⟨E,by rw [e1.1,e1.2];exact G.two,by rw [e1.1,e1.2];exact G.own⟩,fun x=>by omega⟩
end
section
variable {c:Config}
theorem Gd.entries (hC:CfgOK c) (hlo:Num c.lo) (hhi:Num c.hi):∀ {l:List SEntry} {w:Wld} {n:Nat},Gd c w n->n+l.length<=200000->(∀ e∈l,Zbv c e=0/\Num e.op.v)->Gd c (l.foldl ZaV w) (n+l.length)
 | [],w,n,G,_,_=>G
 | e :: l, w, n, G, hn, he => by
   rw [List.length_cons] at hn
   have b:=(G.entry hC hlo hhi (by omega) (he e (List.mem_cons_self ..)).1 (he e (List.mem_cons_self ..)).2).1
   have f:=Gd.entries hC hlo hhi b (by omega) (fun x hx=>he x (List.mem_cons_of_mem _ hx))
   rw [List.length_cons,show n+(l.length+1)=n+1+l.length by omega]
   exact f
theorem ZA3 (hC:CfgOK c) (hci:Num c.init) {d:List Int} (hd:d.length<=4294967296):Gd c (newW c d) 0:=by
 have hth:=hC.threads
 have hit:=hC.items
 have hwd:=hC.width
 have W:=ZmA hC hci hd
 have hthr:∀ j,InT c j->(vw c (newW c d).m (newW c d).t).th j=newT:=by
   intro j hj
   have h0:=hj.1
   have h1:=hj.2
   rw [ZeI hj]
   show (List.replicate c.threads.toNat newT).getD j.toNat Zaw=newT
   rw [List.getD_eq_getElem?_getD,List.getElem?_replicate_of_lt (by omega)];rfl
 have hp:∀ j,InT c j->((vw c (newW c d).m (newW c d).t).th j).phase=0:=fun j hj=>by rw [hthr j hj];rfl
 have hnode:∀ i m,0<=i->i<c.items->1<=m->m<=Zax c->(vw c (newW c d).m (newW c d).t).b i m=0:=by
   intro i m a1 a2 a3 a4
   have hb:=ZfI hC
   rw [rd_B ⟨⟨a1,a2⟩,by omega,by omega⟩]
   have:=(Zob (t:=0) (i:=0) hC hci ⟨by omega,by omega⟩ ⟨by omega,by omega⟩).nodes i m a1 a2 a3 a4
   show (ZcV c).words.getD (pl c i m).toNat 0=0
   simpa using this
 refine ⟨⟨_,_,_,_,W⟩,⟨fun i m a1 a2 a3 a4 h=>(h (hnode i m a1 a2 a3 a4)).elim,fun i m j a1 a2 a3 a4 hj h=>?_,fun j hj h=>?_,fun j hj k hk=>?_,fun j hj h=>?_,fun j hj=>?_⟩,fun j hj=>.none ?_⟩
 . rw [hnode i m a1 a2 a3 a4] at h
   unfold InT at hj
   omega
 . have:=hp j hj;omega
 . unfold ZaN at hk
   rw [if_pos (hp j hj)] at hk
   cases hk
 . have:=hp j hj;omega
 . rw [hthr j hj]
   exact ⟨by show (1:Int)<=1;omega,hwd.1⟩
 . have:=hp j hj;omega
theorem walk (hC:CfgOK c) (hlo:Num c.lo) (hhi:Num c.hi):∀ {l:List SEntry} {w:Wld} {n:Nat},Gd c w n->n+l.length<=200000->(∀ e∈l,e.kind=2/\InT c e.t/\Zbv c e=0/\Num e.op.v) ->
   (phi c (vw c (l.foldl ZaV w).m (l.foldl ZaV w).t).th c.threads.toNat+1<=phi c (vw c w.m w.t).th c.threads.toNat) \/
   (phi c (vw c (l.foldl ZaV w).m (l.foldl ZaV w).t).th c.threads.toNat=phi c (vw c w.m w.t).th c.threads.toNat/\∀ j k,StLe (vw c w.m w.t) j k->StLe (vw c (l.foldl ZaV w).m (l.foldl ZaV w).t) j (k-((l.filter fun e=>e.t == j).length:Int)))
 | [],w,n,G,_,_=>.inr ⟨rfl,fun j k h=>by simpa using h⟩
 | e :: l, w, n, G, hn, he => by
   rw [List.length_cons] at hn
   obtain ⟨k,ht,hc,hop⟩:=he e (List.mem_cons_self ..)
   obtain ⟨G',A⟩:=G.entry hC hlo hhi (by omega) hc hop
   have ih:=walk hC hlo hhi G' (l:=l) (by omega) (fun x hx=>he x (List.mem_cons_of_mem _ hx))
   rw [List.foldl_cons]
   rcases (A k).all ht with a | ⟨a,b⟩
   . rcases ih with i | ⟨i,_⟩
     . left;omega
     . left;omega
   . rcases ih with i | ⟨i,i2⟩
     . left;omega
     . refine .inr ⟨by omega,fun j k hs=>?_⟩
       have:=i2 j _ (b j k hs)
       rw [List.filter_cons]
       by_cases x:e.t=j
       . rw [if_pos x] at this
         rw [if_pos (by simp [x]),List.length_cons]
         rwa [show k-(((l.filter fun e=>e.t == j).length+1:Nat):Int)=k-1-((l.filter fun e=>e.t == j).length:Int) by omega]
       . rw [if_neg x] at this
         rw [if_neg (by simp [x])]
         exact this
theorem ZCm (hC:CfgOK c) (hlo:Num c.lo) (hhi:Num c.hi) {l:List SEntry} {w:Wld} {n:Nat} (G:Gd c w n) (hn:n+l.length<=200000) (he:∀ e∈l,e.kind=2/\InT c e.t/\Zbv c e=0/\Num e.op.v)
   (h3:∀ j,InT c j->3<=((l.filter fun e=>e.t == j).length:Int)) :
   (phi c (vw c (l.foldl ZaV w).m (l.foldl ZaV w).t).th c.threads.toNat+1<=phi c (vw c w.m w.t).th c.threads.toNat)\/∀ j,InT c j->((vw c (l.foldl ZaV w).m (l.foldl ZaV w).t).th j).phase=0:=by
 have G':=Gd.entries hC hlo hhi G hn (fun e h=>⟨(he e h).2.2.1,(he e h).2.2.2⟩)
 rcases walk hC hlo hhi G hn he with a | ⟨_,b⟩
 . exact .inl a
 . right
   obtain ⟨ro,pa,rt,co,W⟩:=G'.inv
   refine ZzV W.inv G'.two hC (fun j hj=>?_)
   have r0:=Zr5 (b:=(vw c w.m w.t).b) (t:=j) (h:=(vw c w.m w.t).th j)
   have r1:=Zr5 (b:=(vw c (l.foldl ZaV w).m (l.foldl ZaV w).t).b) (t:=j) (h:=(vw c (l.foldl ZaV w).m (l.foldl ZaV w).t).th j)
   have:=h3 j hj
   rcases b j 3 (.inr (by omega)) with x | x
   . exact x
   . omega
theorem Zj3 {w:Wld} (h:∀ j,InT c j->((vw c w.m w.t).th j).phase=0):∀ {l:List SEntry},(∀ e∈l,e.kind=2/\InT c e.t)->l.foldl ZaV w=w
 | [],_=>rfl
 | e :: l, he => by
   obtain ⟨k,ht⟩:=he e (List.mem_cons_self ..)
   have hp:=h e.t ht
   rw [ZeI ht] at hp
   have es:ZaV w e=w:=by
     unfold ZaV
     rw [if_neg (show ¬e.kind=1 by omega),if_pos k,if_pos hp]
   rw [List.foldl_cons,es]
   exact Zj3 h (fun x hx=>he x (List.mem_cons_of_mem _ hx))
theorem Zj5 (T a b:Nat):ZaH T (a*T+b)=ZaH T (a*T)++ZaH T b:=by
 unfold ZaH
 rw [List.range_add,List.map_append,List.map_map]
 congr 1
 apply List.map_congr_left
 intro k hk
 show sE ((a*T+k) % T)=sE (k % T)
 rw [Nat.mul_comm,Nat.mul_add_mod]
theorem Zn2 {T:Nat} {t:Int} (h0:0<=t) (h1:t<(T:Int)):∀ n:Nat,n<=((ZaH T (n*T)).filter fun e=>e.t == t).length
 | 0=>Nat.zero_le _
 | n + 1 => by
   have ih:=Zn2 h0 h1 n
   rw [Nat.add_mul,Nat.one_mul,Zj5,List.filter_append,List.length_append]
   have:1<=((ZaH T T).filter fun e=>e.t == t).length:=by
     apply List.length_pos_of_mem (a:=sE t.toNat)
     rw [List.mem_filter]
     refine ⟨?_,by show (((t.toNat:Nat):Int) == t)=true;simp;omega⟩
     unfold ZaH
     rw [List.mem_map]
     exact ⟨t.toNat,by simp;omega,by rw [Nat.mod_eq_of_lt (by omega)]⟩
   omega
theorem Zca (hC:CfgOK c) {m:Nat}:∀ e∈ZaH c.threads.toNat m,e.kind=2/\InT c e.t/\Zbv c e=0/\Num e.op.v:=by
 intro e he
 have hT:=hC.threads
 unfold ZaH at he
 rw [List.mem_map] at he
 obtain ⟨k,_,rfl⟩:=he
 have:=Nat.mod_lt k (show 0<c.threads.toNat by omega)
 have ht:InT c (sE (k % c.threads.toNat)).t:=⟨by show (0:Int)<=((k % c.threads.toNat:Nat):Int);omega,by show ((k % c.threads.toNat:Nat):Int)<_;omega⟩
 have hk:(sE (k % c.threads.toNat)).kind=2:=rfl
 refine ⟨hk,ht,?_,⟨by show (-9223372036854775808:Int)<=0;omega,by show (0:Int)<=_;omega⟩⟩
 unfold InT at ht
 unfold Zbv
 rw [if_neg (by omega),if_neg (by omega),if_neg (by omega),if_pos hk]
theorem ZqJ (hC:CfgOK c) (hlo:Num c.lo) (hhi:Num c.hi) {w:Wld} {n:Nat} (G:Gd c w n) (hn:n+3*c.threads.toNat<=200000) :
   ∃ w1, w1 = (ZaH c.threads.toNat (3 * c.threads.toNat)).foldl ZaV w /\ Gd c w1 (n + 3 * c.threads.toNat) /\ 0 <= phi c (vw c w1.m w1.t).th c.threads.toNat /\
     ((phi c (vw c w1.m w1.t).th c.threads.toNat+1<=phi c (vw c w.m w.t).th c.threads.toNat)\/∀ j,InT c j->((vw c w1.m w1.t).th j).phase=0):=by
 have hT:=hC.threads
 have hl:(ZaH c.threads.toNat (3*c.threads.toNat)).length=3*c.threads.toNat:=Zcg
 have hw:=ZCm hC hlo hhi (l:=ZaH c.threads.toNat (3*c.threads.toNat)) G (by rw [hl];omega) (Zca hC) (fun j hj=>by
   have:=Zn2 hj.1 (show j<((c.threads.toNat:Nat):Int) by have:=hj.2;omega) 3
   omega)
 have G':=Gd.entries hC hlo hhi (l:=ZaH c.threads.toNat (3*c.threads.toNat)) G (by rw [hl];omega) (fun e h=>⟨(Zca hC e h).2.2.1,(Zca hC e h).2.2.2⟩)
 rw [hl] at G'
 refine ⟨_,rfl,G',?_,hw⟩
 obtain ⟨ro,pa,rt,co,W⟩:=G'.inv
 exact (Zod (X:=Zk6 c) (fun j hj=>Ztp W.inv hC hj (G'.own j hj)) c.threads.toNat (by omega)).1
theorem ends (hC:CfgOK c) (hlo:Num c.lo) (hhi:Num c.hi) (k:Nat):∀ {w:Wld} {n:Nat},Gd c w n->phi c (vw c w.m w.t).th c.threads.toNat<=(k:Int)->n+(3*(k+1))*c.threads.toNat<=200000 ->
   ∀ j,InT c j->((vw c ((ZaH c.threads.toNat ((3*(k+1))*c.threads.toNat)).foldl ZaV w).m ((ZaH c.threads.toNat ((3*(k+1))*c.threads.toNat)).foldl ZaV w).t).th j).phase=0:=by
 have he:=fun m=>@Zca c hC m
 induction k with
 | zero =>
   intro w n G hk hn
   obtain ⟨w1,e1,_,hp,hw⟩:=ZqJ hC hlo hhi G (by omega)
   rw [show (3*(0+1))*c.threads.toNat=3*c.threads.toNat from rfl,<- e1]
   rcases hw with a | a
   . omega
   . exact a
 | succ k ih =>
   intro w n G hk hn
   have e1:(3*(k+1+1))*c.threads.toNat=3*c.threads.toNat+(3*(k+1))*c.threads.toNat:=by
     rw [show 3*(k+1+1)=3+3*(k+1) by omega,Nat.add_mul]
   rw [e1] at hn ⊢
   obtain ⟨w1,e2,G',hp,hw⟩:=ZqJ hC hlo hhi G (by omega)
   rw [Zj5,List.foldl_append,<- e2]
   rcases hw with a | a
   . exact ih G' (by omega) (by omega)
   . rw [Zj3 a (fun e h=>⟨(he _ e h).1,(he _ e h).2.1⟩)]
     exact a
end
end Go.Proofs.Mill
/- What the program says of logs and histories. -/
namespace Go.Proofs.Mill
theorem Zsy {σ ρ α:Type} {step:σ->α->Option (σ⊕ρ)} {f:σ->α->σ} (I:σ->Prop):∀ (l:List α) (st:σ),I st->(∀ st,I st->∀ x∈l,step st x=some (.inl (f st x))/\I (f st x))->Zdp step l st=some (.inl (l.foldl f st))
 | [],st,_,_=>rfl
 | x :: l, st, h0, h => by
   obtain ⟨h1,h2⟩:=h st h0 x (List.mem_cons_self ..)
   unfold Zdp
   rw [h1]
   exact Zsy I l (f st x) h2 fun st hs y hy=>h st hs y (List.mem_cons_of_mem _ hy)
def ZCk (m:Mark):Prop:=Num m.op.v
def ZA9 (e:Event):Prop:=Num e.op.v/\Num e.prior
def ZnS (c:Config):Prop:=Num c.init/\Num c.lo/\Num c.hi
theorem ZBS {c:Config} (o:(Zar celConfig).Ok c):ZnS c:=by
 have h1:∀ x:Int,AV.int .i64 x∈celConfig.enc c->Num x:=fun x hx=>Zys (o _ hx)
 refine ⟨h1 _ ?_,h1 _ ?_,h1 _ ?_⟩ <;> simp [celConfig,ZcC,Zam,Zav,celBool]
def ZCt (lo hi:Int) (st:Int×Bool) (m:Mark):Int×Bool:=((App m.op st.1 lo hi).1,st.2 && st.1 == m.prior)
def replay (c:Config) (l:List Mark) (k:Int):Int×Bool:=(l.filter fun m=>m.item == k).foldl (ZCt c.lo c.hi) (c.init,true)
def evts (l:List Event) (k:Int):List Event:=l.filter fun e=>e.t == k && e.kind != 3
theorem ZzA {σ:Type} {it:ItV} {step:σ->it.α->Option (σ⊕Empty)} {z:it.κ×σ} {y:σ} (hb:it.okB z.1=true) (h:Zdp step (it.els z.1) z.2=some (.inl y)):ZiW it step z=some y:=by
 unfold ZiW
 rw [hb,h]
 rfl
def Zj7:Event:=⟨0,0,0,⟨0,0⟩,0,false,0⟩
def pend (L:List Event):Event×Bool:=match L.getLast? with
 | some e=>bif e.kind == 1 then (e,true) else (Zj7,false)
 | none=>(Zj7,false)
theorem ZrP:∀ (L:List Event) (z:Event×Bool),L.foldl (fun _ e=>(e,e.kind == (1:Int))) z=match L.getLast? with | some e=>(e,e.kind == (1:Int)) | none=>z
 | [],_=>rfl
 | e :: L, z => by
   rw [List.foldl_cons,ZrP L,List.getLast?_cons]
   cases L.getLast? <;> rfl
theorem Zqk {l:List Event} (k:Int) (h:l.length<=4294967296):ZeT l k=some (pend (evts l k)):=by
 have hf:=Zsy (ρ:=Empty) (step:=Zex) (f:=fun (_:Event×Bool) e=>(e,e.kind == (1:Int))) (fun _=>True) (evts l k) (Zj7,false) trivial (fun _ _ _ _=>⟨rfl,trivial⟩)
 rw [ZrP] at hf
 have hw:ZfT ((l,k),Zj7,false)=some (match (evts l k).getLast? with | some e=>(e,e.kind == (1:Int)) | none=>(Zj7,false)):=ZzA (it:=itEvents) (ZbN h) hf
 have hw:ZfT ((l,k),Event.mk (0:Int) (0:Int) (0:Int) (Op.mk (0:Int) (0:Int)) (0:Int) false (0:Int),false)=_:=hw
 simp only [ZeT,hw,pend]
 cases (evts l k).getLast? with
 | none=>rfl
 | some e=>cases he:e.kind == (1:Int) <;> simp [he,Zj7]
def count (l:List Event) (k:Int):Int:=((l.filter fun e=>e.kind == k).length:Int)
def fit (c:Config) (m:Mark) (call e:Event):Bool :=
 (e.op.tag == call.op.tag && (e.op.v == call.op.v && true)) && (e.item == call.item) && (m.op.tag == e.op.tag && (m.op.v == e.op.v && true)) && (m.item == e.item) && (m.prior == e.prior) && (e.did == (App e.op e.prior c.lo c.hi).2) && decide (call.step<m.step) && decide (m.step<=e.step)
def Srt (l:List Mark):Prop:=∀ i,i<l.length-1->¬(l.getD (i+1) Zbc).step<(l.getD i Zbc).step
end Go.Proofs.Mill
/- Whether a world is linear, as the program says it. -/
namespace Go.Proofs.Mill
def AnsP (lo hi j:Int) (own:List Mark) (l:List Event):Prop :=
 ∃ n op last,ansL lo hi j own (0,false,ZgO) l=some (n,op,last)/\(own.length=n\/(own.length=n+1/\op=true/\(own.getD n Zbc).op=last.op/\(own.getD n Zbc).item=last.item/\last.step<(own.getD n Zbc).step))
instance (lo hi j:Int) (own:List Mark) (l:List Event):Decidable (AnsP lo hi j own l):=Classical.propDecidable _
structure LinP (w:Wld):Prop where
  srt:Srt w.log
  items:∀ i:Nat,(i:Int)<w.c.items->(replay w.c w.log i).2=true/\(replay w.c w.log i).1=w.m.words.getD (pl w.c i 0).toNat 0
  threads:∀ j:Nat,(j:Int)<w.c.threads->AnsP w.c.lo w.c.hi j (Zb0 j w.log) w.hist
instance (w:Wld):Decidable (LinP w):=Classical.propDecidable _
structure WldOK (w:Wld):Prop where
  cfg:CfgOK w.c
  conf:ZnS w.c
  marks:∀ m∈w.log,ZCk m
  events:∀ e∈w.hist,ZA9 e
  log:w.log.length<=1000000
  hist:w.hist.length<=1000000
  words:(w.m.words.length:Int)=sizeOf w.c
end Go.Proofs.Mill
/- The world behind any script is linear; who is pending; how many are. -/
namespace Go.Proofs.Mill
section
variable {c:Config} {w:Wld} {n:Nat} {ro pa rt:Int->Int} {co:Int->Option Int}
theorem Lin.ok (Li:Lin c w ro co) (W:WInv c w n ro pa rt co) (hC:CfgOK c) (hc:ZnS c) (hn:n<=60000):WldOK w:=by
 have hl:=W.log
 have hh:=W.hist
 exact ⟨by rw [W.cE];exact hC,by rw [W.cE];exact hc,fun m hm=>(Li.inlog m hm).2.2.2,fun e he=>(Li.ehist e he).2.2.2.2,by omega,by omega,by rw [W.cE];exact W.lenW⟩
end
section
variable {c:Config} {w:Wld} {n:Nat} {ro pa rt:Int->Int} {co:Int->Option Int}
end
end Go.Proofs.Mill
/- The document's suffixes; how many whole rounds a script ends with. -/
namespace Go.Proofs.Mill
structure IsLast (l:List SEntry) (k:Nat):Prop where
  le:k<=l.length
  at_:k=0\/(l.getD (k-1) ZaL).kind=1
  none:∀ j,k<=j->j<l.length->(l.getD j ZaL).kind≠1
end Go.Proofs.Mill
