/- The plain law of WorldRuns. -/
import Derived.Test.YtecgogmolkjhjaaGreatMillAll37
set_option linter.all false
namespace Go.Proofs.Mill
theorem Ztd {w:Wld} (hl:w.t.length<=4294967296):ZiW w=Zgy w:=by
 have key:∀ (k i n:Nat),i+k=w.t.length->n<=i->ZjW (w,(n:Int),(i:Int))=some ((n+Zd8 (w.t.drop i):Nat):Int):=by
   intro k
   induction k with
   | zero =>
     intro i n hk hn
     rw [List.drop_of_length_le (by omega)]
     refine whileM_some.2 (.done _ _ ?_)
     show Zdp _ _ _=_
     unfold Zdp
     simp only [Zap]
     rw [if_neg (by omega)]
     rfl
   | succ k ih =>
     intro i n hk hn
     have hi:i<w.t.length:=by omega
     rw [Zrl Zaw hi]
     have hw:Zaf IntKind.i64 ((i:Int)+1)=((i+1:Nat):Int):=by rw [Zat (by omega) (by omega)];omega
     have hw2:Zaf IntKind.i64 ((n:Int)+1)=((n+1:Nat):Int):=by rw [Zat (by omega) (by omega)];omega
     have a1:(i:Int)<(w.t.length:Int):=by omega
     have a2:(0:Int)<=(i:Int):=by omega
     by_cases p:(w.t.getD i Zaw).phase=0
     . have h:=ih (i+1) n (by omega) (by omega)
       have e:Zd8 (w.t.getD i Zaw::w.t.drop (i+1))=Zd8 (w.t.drop (i+1)):=by
         unfold Zd8
         rw [List.filter_cons,if_neg (show ¬((w.t.getD i Zaw).phase != 0)=true by rw [ZdP p];decide)]
       rw [e]
       refine whileM_some.2 (.more _ _ _ ?_ (whileM_some.1 h))
       show Zdp _ _ _=_
       unfold Zdp
       simp only [Zap,a1,a2,if_true,Int.toNat_natCast,ZeE,ZiB,ZdP p,cond_false,hw]
     . have h:=ih (i+1) (n+1) (by omega) (by omega)
       have e:Zd8 (w.t.getD i Zaw::w.t.drop (i+1))=Zd8 (w.t.drop (i+1))+1:=by
         unfold Zd8
         rw [List.filter_cons,if_pos (show ((w.t.getD i Zaw).phase != 0)=true from Zdj p),List.length_cons]
       rw [e,show n+(Zd8 (w.t.drop (i+1))+1)=n+1+Zd8 (w.t.drop (i+1)) by omega]
       refine whileM_some.2 (.more _ _ _ ?_ (whileM_some.1 h))
       show Zdp _ _ _=_
       unfold Zdp
       simp only [Zap,a1,a2,if_true,Int.toNat_natCast,ZeE,ZiB,Zdj p,cond_true,hw,hw2]
 have h0:=key w.t.length 0 0 (by omega) (Nat.le_refl _)
 rw [List.drop_zero,Nat.zero_add] at h0
 have h1:ZiW w=some (Zd8 w.t:Int):=by
   show ZmI w=_
   unfold ZmI
   rw [show ZjW (w,0,0)=_ from h0]
 rw [h1]
 exact (ZpF hl).symm
theorem zero_big:WBig Zkp:=by
 have e:∀ {α:Type} {P:α->Prop},∀ x∈([]:List α),P x:=fun x h=>by cases h
 exact { boxes:=Nat.zero_le _,box:=e,t:=Nat.zero_le _,batch:=e,kids:=e,log:=Nat.zero_le _,hist:=Nat.zero_le _,words:=Nat.zero_le _,held:=e,tape:=Nat.zero_le _ }
theorem ZtT (c:Config) (l:List SEntry) (d:List Int) (o0:(Zaq celConfig).Ok c) (o1:(Zax .sentry).Ok l) (o2:(Zax .int).Ok d):Zhm c l d=some true:=by
 unfold Zhm
 simp only [ZFb,ZEI,Zap]
 by_cases hb:400<l.length\/200<d.length
 . rw [if_pos hb]
 rw [if_neg hb]
 simp only [Bool.not_true,cond_false]
 have hc:=ZDZ o0
 have hln:=ZwY o1
 have e1:ZkV l=some l:=ZxI l (by omega)
 have e2:=Zz4 (c:=c) (l:=l) (d:=d) hc hln (by omega) (by omega)
 rcases ZCT (c:=c) (l:=l) (d:=d) hc hln (by omega) (by omega) with ⟨r1,r2⟩ | ⟨w,_,r1,_,hC,_,_,B,ro,pa,rt,co,W,Li⟩
 . have eth:Zg7 Zkp=some Zkp:=Zq2 zero_big.toWSm
   have esm:Zit (Zkp,Zkp)=some true:=Ztb zero_big
   have eb:Zgy Zkp=some 0:=ZpF (w:=Zkp) (by decide)
   have eb2:=Ztd (w:=Zkp) (by decide)
   rw [eb] at eb2
   simp only [e1,e2,r1,beq_self_eq_true,cond_true,eth,esm,eb,eb2]
   rfl
 . have hT:=hC.threads
   have hlT:=W.lenT
   have hlB:=W.lenB
   have hh:=W.hist
   have hf:=Li.few W hC
   have eth:Zg7 w=some w:=Zq2 B.toWSm
   have esm:Zit (w,w)=some true:=Ztb B
   have eb:Zgy w=some (Zd8 w.t:Int):=ZpF (by omega)
   have eb2:=Ztd (w:=w) (by omega)
   rw [eb] at eb2
   simp only [e1,e2,r1,beq_self_eq_true,cond_true,eth,esm,eb,eb2]
   rw [if_pos (by omega),if_pos (by omega),if_pos (by omega),if_pos (by omega)]
end Go.Proofs.Mill
