/- The plain law of WorldSteps. -/
import Derived.Test.YtecgogmolkjhjaaGreatMillPureWorldRuns
set_option linter.all false
namespace Go.Proofs.Mill
theorem ZEM {c:Config} {d:List Int} {e:Int} (he:ZeS c=some e) (h0:e≠0):Zhp (c,d)=some (Zpm,e)/\Zhn (c,d)=some (Zpm,e):=by
 constructor
 . show ZhA c d=_
   unfold ZhA
   simp only [ZfK,ZqK,he]
   rw [ZeQ h0,cond_true]
   rfl
 . show Zhq c d=_
   unfold Zhq
   simp only [Zdf,he]
   rw [ZeQ h0,cond_true]
   rfl
section
variable {c:Config}
theorem ZBl (hC:CfgOK c) (hlo:Num c.lo) (hhi:Num c.hi) (hci:Inb c c.init) {w:Wld} {n:Nat} {ro pa rt:Int->Int} {co:Int->Option Int} (W:WInv c w n ro pa rt co) (Li:Lin c w ro co) (S:Shorts w) (hn:n<=1000) (e:SEntry) (hop:Num e.op.v) :
   Shorts (ZdR w e).1/\∃ ro' pa' rt' co',WInv c (ZdR w e).1 (n+1) ro' pa' rt' co'/\Lin c (ZdR w e).1 ro' co':=by
 unfold ZdR
 by_cases k:Zdn w.c e=0
 . rw [if_neg (fun x=>x k)]
   have k':Zdn c e=0:=by rw [<- W.cE];exact k
   exact ⟨S.entry W hC hlo hhi (by omega) k',Li.entry W hC hlo hhi (by omega) hci k' hop⟩
 . rw [if_pos k]
   have hl:=W.log
   have hh:=W.hist
   have hs:=W.steps
   have hnow:=W.now
   exact ⟨S,ro,pa,rt,co,⟨W.cE,W.lenT,W.lenW,W.lenB,W.tape,by show w.log.length<=_;omega,by show w.hist.length<=_;omega,by show 0<=w.steps/\w.steps<=((n+1:Nat):Int);omega,by show 0<=w.now/\w.now<=((n+1:Nat):Int);omega,W.inv⟩,Li⟩
theorem Zr6 (hC:CfgOK c) (hlo:Num c.lo) (hhi:Num c.hi) (hci:Inb c c.init) {l:List SEntry} (hl:l.length<=60) (hln:∀ e∈l,Num e.op.v):∀ (k j:Nat) (w:Wld) (n:Nat) (ro pa rt:Int->Int) (co:Int->Option Int),j+k=l.length->n<=j->WInv c w n ro pa rt co->Lin c w ro co->Shorts w ->
   ZfJ (l,w,w,(j:Int))=some (.inl ())
 | 0, j, w, n, ro, pa, rt, co, hk, hn, W, Li, S => by
   refine whileM_some.2 (.done _ _ ?_)
   show Zc0 _ _ _ _=_
   unfold Zc0
   simp only [Zas]
   rw [if_neg (by omega)]
 | k + 1, j, w, n, ro, pa, rt, co, hk, hn, W, Li, S => by
   have hj:j<l.length:=by omega
   have hm:l.getD j Za9∈l:=by
     rw [List.getD_eq_getElem?_getD,List.getElem?_eq_getElem hj,Option.getD_some]
     exact List.getElem_mem hj
   have hop:=hln _ hm
   have hw:Zaf IntKind.i64 ((j:Int)+1)=((j+1:Nat):Int):=by rw [Zat (by omega) (by omega)];omega
   have hcut:(l.take (j+1)).drop j=[l.getD j Za9]:=by
     rw [List.drop_take,ZxL Za9 hj,Nat.add_sub_cancel_left]
     rfl
   have e1:Zk2 [l.getD j Za9]=some [l.getD j Za9]:=Zw4 _ (by simp)
   have s1:=Zzg W hC hlo hhi (by omega) (l.getD j Za9) hop
   have s2:=ZyM W hC hlo hhi (by omega) (l.getD j Za9)
   obtain ⟨S',ro',pa',rt',co',W',L'⟩:=ZBl hC hlo hhi hci W Li S (by omega) (l.getD j Za9) hop
   have B:=W.big S hC (by omega)
   have B':=W'.big S' hC (by omega)
   have hh':=W'.hist
   have hf':=L'.few W' hC
   have t1:Zc3 w=some w:=ZiW B.toWSm
   have t2:Zdy (w,w)=some true:=Zlz B
   have t3:Zc3 (ZdR w (l.getD j Za9)).1=some (ZdR w (l.getD j Za9)).1:=ZiW B'.toWSm
   have t4:Zdy ((ZdR w (l.getD j Za9)).1,(ZdR w (l.getD j Za9)).1)=some true:=Zlz B'
   have hs:ZdS (l,w,w,(j:Int))=some (.inl (l,(ZdR w (l.getD j Za9)).1,(ZdR w (l.getD j Za9)).1,((j+1:Nat):Int))):=by
     show Zc0 _ _ _ _=_
     unfold Zc0
     have a1:(j:Int)<(l.length:Int):=by omega
     have a2:(0:Int)<=(j:Int):=by omega
     have a3:(j:Int)<=((j+1:Nat):Int):=by omega
     have a4:((j+1:Nat):Int)<=(l.length:Int):=by omega
     simp only [Zas,a1,a2,hw,a3,a4,if_true,Int.toNat_natCast,s1,hcut,e1,List.length_cons,List.length_nil,Nat.zero_add,List.getD_cons_zero,Int.toNat_zero,s2,bne_self_eq_false,cond_false,t1,t2,t3,t4,Bool.not_true]
     rw [if_pos (by decide),if_neg (by omega),if_neg (by omega)]
   exact whileM_some.2 (.more _ _ _ hs (whileM_some.1 (Zr6 hC hlo hhi hci hl hln k (j+1) _ (n+1) ro' pa' rt' co' (by omega) (by omega) W' L' S')))
end
theorem ZsO (c:Config) (l:List SEntry) (d:List Int) (o0:(Zap celConfig).Ok c) (o1:(Zaw .sentry).Ok l) (o2:(Zaw .int).Ok d):ZgQ c l d=some true:=by
 unfold ZgQ
 simp only [ZD2,Zas]
 by_cases h1:(l.length:Int)>60
 . rw [if_pos h1]
 rw [if_neg h1]
 by_cases h2:(d.length:Int)>100
 . rw [if_pos h2]
 rw [if_neg h2]
 simp only [Bool.not_true,cond_false]
 have hc:=ZEi o0
 have hln:=ZwO o1
 obtain ⟨e,he,hE⟩:=ZoO c
 by_cases h0:e=0
 . have hC:=hE.1 h0
   have hd:d.length<=4294967296:=by omega
   have n1:Zhp (c,d)=some (newW c d,0):=ZBm hC hd
   have n2:=ZzX (c:=c) (d:=d) hC hd
   have W:=ZBQ hC hc.1 (d:=d) hd
   have S:=Zxv (c:=c) d
   have B:=W.big S hC (by omega)
   have t1:Zc3 (newW c d)=some (newW c d):=ZiW B.toWSm
   have t2:Zdy (newW c d,newW c d)=some true:=Zlz B
   have hl:=Zr6 hC hc.2.1 hc.2.2 (fun hb=>hC.bounds hb) (l:=l) (by omega) hln l.length 0 (newW c d) 0 _ _ _ _ (by omega) (Nat.le_refl _) W (ZCk hC hc.1) S
   simp only [n1,n2,bne_self_eq_false,cond_false,t1,t2,Bool.not_true]
   rw [show ZfJ (l,newW c d,newW c d,0)=_ from hl]
 . obtain ⟨n1,n2⟩:=ZEM (d:=d) he h0
   have t1:Zc3 Zpm=some Zpm:=ZiW zero_big.toWSm
   have t2:Zdy (Zpm,Zpm)=some true:=Zlz zero_big
   simp only [n1,n2,bne_self_eq_false,cond_false,t1,t2,Bool.not_true]
   rw [ZeQ h0,cond_true]
end Go.Proofs.Mill
