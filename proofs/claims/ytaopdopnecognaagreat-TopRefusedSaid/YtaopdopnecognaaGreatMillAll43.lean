/- Parts of the proof: MillQTop0, MillQRunW, MillQTop. -/
import Derived.Test.YtaopdopnecognaaGreatMillAll41
import Derived.Test.YtaopdopnecognaaGreatMillFEb
import Derived.KernelRfl
import Derived.Test.YtaopdopnecognaaGreatMillPureFairEnds
set_option linter.all false
set_option maxRecDepth 100000
noncomputable section
/- What the statements at the top show: a run of three threads, on each backend. -/
namespace Go.Proofs.Mill
def inv3:List SEntry:=[⟨1,0,0,⟨1,1⟩⟩,⟨1,1,0,⟨1,2⟩⟩,⟨1,2,0,⟨1,4⟩⟩]
def cfg3 (b:Int):Config:=⟨3,1,b,1,1,1,2,0,false,0,0,5⟩
def Zok (b:Int):Bool :=
 match Zeb (cfg3 b) (inv3++ZaQ 3 120) [] with
 | some y=>Nat.ble 1 y.1.m.words.length && (y.1.m.words.getD 0 0 == (12:Int) && (Nat.beq y.1.log.length 3 && (Nat.beq y.1.hist.length 6 && ((y.1.t.all fun t=>t.phase == (0:Int)) && (match Zcr y.1 with | some b=>b | none=>false)))))
 | none=>false
theorem ZBi:Zok 1=true:=by kernel_rfl
theorem ZBB:Zok 2=true:=by kernel_rfl
theorem ZBH:Zok 3=true:=by kernel_rfl
end Go.Proofs.Mill
/- Any script, run; and who is idle has nothing pending. -/
namespace Go.Proofs.Mill
theorem Zz4 {c:Config} {l:List SEntry} {d:List Int} (hc:Num c.init/\Num c.lo/\Num c.hi) (hl:∀ e∈l,Num e.op.v) (hd:d.length<=4294967296) :
   (Zeb c l d=some (ZCN,allE c l)/\(allE c l).2≠0) \/
   (Zeb c l d=some (l.foldl ZaT (newW c d),0,0)/\CfgOK c/\(∀ e∈l,Zbb c e=0)/\∃ ro pa rt co,WInv c (l.foldl ZaT (newW c d)) l.length ro pa rt co):=by
 by_cases h:(allE c l).2=0
 . obtain ⟨hC,h1,h2⟩:=ZyI h
   have hE:=WInv.entries hC hc.2.1 hc.2.2 (ZpJ hC hc.1 hd) (l:=l) (by omega) (fun e he=>⟨h2 e he,hl e he⟩)
   rw [Nat.zero_add] at hE
   exact .inr ⟨ZxX hC h1 h2 hd hE.1,hC,h2,hE.2⟩
 . refine .inl ⟨?_,h⟩
   unfold Zeb
   rw [show ZhJ (c,l)=some (allE c l) from Zq0 c l]
   simp only []
   rw [Zha h]
   rfl
def PendI (c:Config) (w:Wld):Prop:=∀ j,InT c j->(w.t.getD j.toNat Zas).phase=0->(pend (evts w.hist j)).2=false
theorem Zk5 {l:List Event} {h:Event} {j:Int}:evts (l++[h]) j=if h.t=j/\h.kind≠3 then evts l j++[h] else evts l j:=by
 unfold evts
 rw [List.filter_append,List.filter_cons]
 by_cases g:h.t=j/\h.kind≠3
 . rw [if_pos g,if_pos (by simp [g.1,g.2])];rfl
 . rw [if_neg g,if_neg (by simpa using g)];simp
theorem PendI.step {c:Config} {w:Wld} {n:Nat} {ro pa rt:Int->Int} {co:Int->Option Int} (P:PendI c w) (W:WInv c w n ro pa rt co) (hC:CfgOK c) (hlo:Num c.lo) (hhi:Num c.hi) (hn:n<=200000) {e:SEntry} (he:Zbb c e=0):PendI c (ZaT w e):=by
 have hlT:=W.lenT
 intro j hj hp
 have h0:=hj.1
 have h1:=hj.2
 rcases ZiQ he with ⟨k,ht,_⟩ | ⟨k,ht⟩ | k
 . have t0:=ht.1
   have t1:=ht.2
   unfold ZaT at hp ⊢
   rw [if_pos k] at hp ⊢
   unfold invT at hp ⊢
   by_cases q:(w.t.getD e.t.toNat Zas).phase=0
   . rw [if_neg (fun x=>x q)] at hp ⊢
     have hp:((w.t.set e.t.toNat (Zfz w.c e.t e.item e.op w.now (w.t.getD e.t.toNat Zas).width)).getD j.toNat Zas).phase=0:=hp
     show (pend (evts (w.hist++[_]) j)).2=false
     by_cases x:e.t=j
     . subst x
       rw [List.getD_eq_getElem?_getD,List.getElem?_set_self (by omega)] at hp
       exact absurd hp (by show ¬(1:Int)=0;decide)
     . rw [List.getD_eq_getElem?_getD,List.getElem?_set_ne (by omega),<- List.getD_eq_getElem?_getD] at hp
       rw [Zk5,if_neg (fun y=>x y.1)]
       exact P j hj hp
   . rw [if_pos q] at hp ⊢
     show (pend (evts (w.hist++[_]) j)).2=false
     rw [Zk5,if_neg (fun y=>y.2 rfl)]
     exact P j hj hp
 . by_cases q:(w.t.getD e.t.toNat Zas).phase=0
   . have es:ZaT w e=w:=by
       unfold ZaT
       rw [if_neg (show ¬e.kind=1 by omega),if_pos k,if_pos q]
     rw [es] at hp ⊢
     exact P j hj hp
   . have t0:=ht.1
     have t1:=ht.2
     have es:ZaT w e=Zc8 w e.t (ZaM (Zbl w e.t)):=by
       unfold ZaT
       rw [if_neg (show ¬e.kind=1 by omega),if_pos k,if_neg q]
     obtain ⟨_,_,_,_,_,W',_,T⟩:=W.pick hC hlo hhi hn ht q
     have hid:=T.idle (ZfX ht) q
     rw [es] at hp ⊢
     obtain ⟨u,hu⟩:∃ u,u=ZaM (Zbl w e.t):=⟨_,rfl⟩
     rw [<- hu] at hid hp ⊢
     have hp:((w.t.set e.t.toNat u.th).getD j.toNat Zas).phase=0:=hp
     show (pend (evts (if u.done=true then w.hist++[Zi8 w e.t u] else w.hist) j)).2=false
     by_cases x:e.t=j
     . subst x
       have hd:u.done=true:=by
         apply hid.1
         rw [ZfX hj]
         exact hp
       rw [if_pos hd,Zk5,if_pos ⟨rfl,by show ¬(2:Int)=3;decide⟩]
       unfold pend
       rw [List.getLast?_concat]
       rfl
     . rw [List.getD_eq_getElem?_getD,List.getElem?_set_ne (by omega),<- List.getD_eq_getElem?_getD] at hp
       have:=P j hj hp
       by_cases hd:u.done=true
       . rw [if_pos hd,Zk5,if_neg (fun y=>x y.1)];exact this
       . rw [if_neg hd];exact this
 . have es:ZaT w e={ w with now:=Zad .i64 (w.now+1) }:=by
     unfold ZaT
     rw [if_neg (show ¬e.kind=1 by omega),if_neg (show ¬e.kind=2 by omega),if_pos k]
   rw [es] at hp ⊢
   exact P j hj hp
theorem PendI.entries {c:Config} (hC:CfgOK c) (hlo:Num c.lo) (hhi:Num c.hi):∀ {l:List SEntry} {w:Wld} {n:Nat} {ro pa rt:Int->Int} {co:Int->Option Int},PendI c w->WInv c w n ro pa rt co->n+l.length<=200000->(∀ e∈l,Zbb c e=0/\Num e.op.v)->PendI c (l.foldl ZaT w)
 | [],w,n,ro,pa,rt,co,P,W,_,_=>P
 | e :: l, w, n, ro, pa, rt, co, P, W, hn, he => by
   rw [List.length_cons] at hn
   obtain ⟨a,b⟩:=he e (List.mem_cons_self ..)
   obtain ⟨_,ro',pa',rt',co',W'⟩:=W.entry hC hlo hhi (by omega) a b
   exact PendI.entries hC hlo hhi (l:=l) (P.step W hC hlo hhi (by omega) a) W' (by omega) (fun x hx=>he x (List.mem_cons_of_mem _ hx))
end Go.Proofs.Mill
/- What the statements at the top have in common: their configs, what they show, what is behind rounds enough. -/
namespace Go.Proofs.Mill
theorem Zxu {c:Config}:∃ b,ZiV c=some b/\(b=true->CfgOK c/\c.threads<=6/\c.depth<=3/\c.layers<=2/\c.spin<=5):=by
 obtain ⟨e,he,h⟩:=ZhH c
 show ∃ b,Zln c=some b/\_
 unfold Zln
 simp only [Zhi,he,Zaw]
 by_cases h0:e=0
 . rw [Zbg h0,cond_true]
   by_cases h1:c.threads<=6
   . rw [if_pos h1]
     by_cases h2:c.depth<=3
     . rw [if_pos h2]
       by_cases h3:c.layers<=2
       . rw [if_pos h3]
         exact ⟨_,rfl,fun x=>⟨h.1 h0,h1,h2,h3,of_decide_eq_true x⟩⟩
       . rw [if_neg h3];exact ⟨false,rfl,fun x=>by cases x⟩
     . rw [if_neg h2];exact ⟨false,rfl,fun x=>by cases x⟩
   . rw [if_neg h1];exact ⟨false,rfl,fun x=>by cases x⟩
 . rw [ZaR h0,cond_false];exact ⟨false,rfl,fun x=>by cases x⟩
theorem ZvM {b:Int} (hb:1<=b/\b<=3):CfgOK (cfg3 b) :=
 ⟨by show (1:Int)<=3/\(3:Int)<=16;omega,by show (1:Int)<=1/\(1:Int)<=4;omega,hb,by show (0:Int)<=1/\(1:Int)<=4;omega,by show (0:Int)<=1/\(1:Int)<=3;omega,by show (1:Int)<=1/\(1:Int)<=8;omega,
   by show (0:Int)<=2/\(2:Int)<=20;omega,by show (0:Int)<=0/\(0:Int)<=1000;omega,fun h=>by cases h⟩
theorem ZvI {b:Int}:∀ e∈inv3,Zbb (cfg3 b) e=0/\Num e.op.v:=by
 intro e he
 unfold inv3 at he
 rcases List.mem_cons.1 he with rfl | he
 . exact ⟨rfl,Zbh (by decide)⟩
 rcases List.mem_cons.1 he with rfl | he
 . exact ⟨rfl,Zbh (by decide)⟩
 rcases List.mem_cons.1 he with rfl | he
 . exact ⟨rfl,Zbh (by decide)⟩
 cases he
theorem cfg3_nums {b:Int}:ZqJ (cfg3 b):=⟨Zbh (by show (-1000000:Int)<=5/\(5:Int)<=1000000;omega),Zbh (by show (-1000000:Int)<=0/\(0:Int)<=1000000;omega),Zbh (by show (-1000000:Int)<=0/\(0:Int)<=1000000;omega)⟩
theorem ZtU {b:Int} (hb:1<=b/\b<=3) (m:Nat) (hm:m<=2000):Zeb (cfg3 b) (inv3++ZaQ 3 m) []=some ((inv3++ZaQ 3 m).foldl ZaT (newW (cfg3 b) []),0,0):=by
 have hC:=ZvM hb
 have hall:∀ e∈inv3++ZaQ 3 m,Zbb (cfg3 b) e=0/\Num e.op.v:=by
   intro e he
   rcases List.mem_append.1 he with h | h
   . exact ZvI e h
   . have:=Zf1 hC (m:=m) e h
     exact ⟨this.2.2.1,this.2.2.2⟩
 have hlen:(inv3++ZaQ 3 m).length=3+m:=by rw [List.length_append,Zc6];rfl
 rcases Zz4 (c:=cfg3 b) (l:=inv3++ZaQ 3 m) (d:=[]) cfg3_nums (fun e he=>(hall e he).2) (by decide) with ⟨r1,r2⟩ | ⟨r1,_⟩
 . exact (r2 (by rw [Zrv hC (by rw [hlen];omega) (fun e he=>(hall e he).1)])).elim
 . exact r1
theorem Zww {c:Config} {ops:List Kid} {l ps:List SEntry} {w:Wld} {n:Int} (hloop:∀ w0:Wld,ZlF (ops,([]:List Int),c,w0,([]:List SEntry),(0:Int))=some (([]:List Int),c,w0,l)) (hR:ZcK c=some n)
   (hS:Zct (c,n)=some ps) (hl:l.length+ps.length<=4294967296) (hrun:ZcW (c,l++ps,([]:List Int))=some (w,0,0)) (hb:Zel w=some 0) (hh:(w.hist.length:Int)=Zad .i64 (2*(l.length:Int))) :
   ZdE (c,ops,([]:List Int))=some (w,true):=by
 show Zkv c ops []=_
 unfold Zkv
 simp only [hloop,hR,hS]
 rw [Zbv hl,cond_true,hrun]
 simp only [beq_self_eq_true,cond_true,hb]
 rw [hh,beq_self_eq_true]
theorem Zx5 {f:Config×(List Kid)×(List Int)->Option (Wld×Bool)} {b:Int} {w:Wld} (hb:b<=3/\0<=b) (h:f (cfg3 b,Kid.mk (1:Int) (1:Int)::Kid.mk (1:Int) (2:Int)::Kid.mk (1:Int) (4:Int)::([]:List Kid),([]:List Int))=some (w,true))
   (a2:1<=w.m.words.length) (a3:w.m.words.getD 0 0=12) (a4:w.log.length=3) (a5:Zcr w=some true):Zfx f b=some (.inl (b+1)):=by
 unfold Zfx
 simp only [Zaw]
 rw [if_pos hb.1]
 rw [show f (Config.mk (3:Int) (1:Int) b (1:Int) (1:Int) (1:Int) (2:Int) (0:Int) false (0:Int) (0:Int) (5:Int),Kid.mk (1:Int) (1:Int)::Kid.mk (1:Int) (2:Int)::Kid.mk (1:Int) (4:Int)::([]:List Kid),([]:List Int))=some (w,true) from h]
 simp only [Bool.not_true,cond_false,a5]
 rw [if_neg (by omega),if_pos (by omega),ZgB (show w.m.words.getD (Int.toNat 0) 0=12 from a3),cond_false,ZgB (show (w.log.length:Int)=3 by omega),cond_false,Zat (by omega) (by omega)]
theorem ZyG {f:Config×(List Kid)×(List Int)->Option (Wld×Bool)}:Zfx f 4=some (.inr (.inl ())):=rfl
theorem ZwQ {step:Int->Option (Int⊕(Unit⊕Bool))} (h1:step 1=some (.inl 2)) (h2:step 2=some (.inl 3)) (h3:step 3=some (.inl 4)) (h4:step 4=some (.inr (.inl ()))):ZaC step 1=some (.inl ()) :=
 whileM_some.2 (.more _ _ _ h1 (.more _ _ _ h2 (.more _ _ _ h3 (.done _ _ h4))))
theorem Zyp {w:Int->Option (Unit⊕Bool)} (h:w 1=some (.inl ())):Zi3 w=some true:=by
 unfold Zi3
 rw [h]
theorem Zx0 {b:Int} (hb:1<=b/\b<=3) (h:Zok b=true):∃ w:Wld,ZdE (cfg3 b,Kid.mk (1:Int) (1:Int)::Kid.mk (1:Int) (2:Int)::Kid.mk (1:Int) (4:Int)::([]:List Kid),([]:List Int))=some (w,true) /\
   1<=w.m.words.length/\w.m.words.getD 0 0=12/\w.log.length=3/\Zcr w=some true:=by
 have hC:=ZvM hb
 have a1:=ZtU hb 120 (by omega)
 have b1:=ZtU hb 1932 (by omega)
 unfold Zok at h
 obtain ⟨w,hw⟩:∃ w,w=(inv3++ZaQ 3 120).foldl ZaT (newW (cfg3 b) []):=⟨_,rfl⟩
 rw [<- hw] at a1
 rw [a1] at h
 have h:(Nat.ble 1 w.m.words.length && (w.m.words.getD 0 0 == (12:Int) && (Nat.beq w.log.length 3 && (Nat.beq w.hist.length 6 && ((w.t.all fun t=>t.phase == (0:Int)) && (match Zcr w with | some b=>b | none=>false))))))=true:=h
 simp only [Bool.and_eq_true] at h
 obtain ⟨h1,h2,h3,h4,h5,h6⟩:=h
 have hidle:∀ t∈w.t,t.phase=0:=fun t ht=>eq_of_beq (List.all_eq_true.1 h5 t ht)
 have hvi:∀ j,InT (cfg3 b) j->((vw (cfg3 b) w.m w.t).th j).phase=0:=by
   intro j hj
   rw [ZfX hj,List.getD_eq_getElem?_getD]
   cases hg:w.t[j.toNat]? with
   | none=>rfl
   | some t=>exact hidle t (List.mem_of_getElem? hg)
 have hstay:(inv3++ZaQ 3 1932).foldl ZaT (newW (cfg3 b) [])=w:=by
   rw [show (1932:Nat)=40*3+1812 from rfl,ZwZ,<- List.append_assoc,List.foldl_append]
   rw [show (40:Nat)*3=120 from rfl,<- hw]
   exact ZpR hvi (fun e he=>⟨(Zf1 hC (m:=1812) e he).1,(Zf1 hC (m:=1812) e he).2.1⟩)
 rw [hstay] at b1
 have hT:w.t.length<=4294967296:=by
   have hE:=(WInv.entries hC cfg3_nums.2.1 cfg3_nums.2.2 (ZpJ hC cfg3_nums.1 (d:=[]) (by decide)) (l:=inv3++ZaQ 3 120) (by rw [List.length_append,Zc6];decide) (fun e he=>by
     rcases List.mem_append.1 he with x | x
     . exact ZvI e x
     . exact ⟨(Zf1 hC (m:=120) e x).2.2.1,(Zf1 hC (m:=120) e x).2.2.2⟩)).2
   rw [<- hw] at hE
   obtain ⟨_,_,_,_,W⟩:=hE
   have:(w.t.length:Int)=3:=W.lenT
   omega
 obtain ⟨ps,hps⟩:∃ ps,ps=ZaQ 3 1932:=⟨_,rfl⟩
 have hpl:ps.length=1932:=by rw [hps];exact Zc6
 have hS:Zct (cfg3 b,644)=some ps:=by
   show Zhg (cfg3 b) 644=_
   rw [ZuD hC _ (by omega),hps]
   show some (ZaQ 3 (min (644*3) 65536))=_
   rw [show min (644*3) 65536=1932 by decide]
 rw [<- hps] at b1
 clear hps hstay hvi a1 hw
 have hrun:ZcW (cfg3 b,inv3++ps,([]:List Int))=some (w,0,0):=by unfold ZcW;exact b1
 clear b1
 have hL:Zcr w=some true:=by
   cases hq:Zcr w with
   | none=>rw [hq] at h6;cases h6
   | some b=>rw [hq] at h6;have h6:b=true:=h6;rw [h6]
 have hb0:Zel w=some (0:Int):=by
   have:Zel w=some (Zml w.t:Int):=Zwk hT
   rw [this,ZxY hidle];rfl
 refine ⟨w,?_,Nat.le_of_ble_eq_true h1,eq_of_beq h2,Nat.eq_of_beq_eq_true h3,hL⟩
 have hR:ZcK (cfg3 b)=some 644:=Zu1 hC
 have e6:w.hist.length=6:=Nat.eq_of_beq_eq_true h4
 refine Zww (l:=inv3) (fun w0=>?_) hR hS ?_ hrun hb0 ?_
 . kernel_rfl
 . rw [hpl];decide
 . rw [e6];rfl
theorem Zx2:Zd9 ()=some true:=by
 have hstep:∀ b:Int,1<=b/\b<=3->Zok b=true->ZcJ b=some (.inl (b+1)):=by
   intro b hb hl
   obtain ⟨w,a1,a2,a3,a4,a5⟩:=Zx0 hb hl
   have h:=Zx5 (f:=ZdE) ⟨hb.2,by omega⟩ a1 a2 a3 a4 a5
   unfold ZcJ ZjP
   exact h
 have h1:ZcJ 1=some (.inl 2):=hstep 1 (by omega) ZBi
 have h2:ZcJ 2=some (.inl 3):=hstep 2 (by omega) ZBB
 have h3:ZcJ 3=some (.inl 4):=hstep 3 (by omega) ZBH
 have h4:ZcJ 4=some (.inr (.inl ())):=by
   unfold ZcJ ZjP
   exact ZyG
 have hw:Zfy 1=some (.inl ()):=by
   unfold Zfy
   exact ZwQ h1 h2 h3 h4
 unfold Zd9 ZoT
 exact Zyp hw
end Go.Proofs.Mill
