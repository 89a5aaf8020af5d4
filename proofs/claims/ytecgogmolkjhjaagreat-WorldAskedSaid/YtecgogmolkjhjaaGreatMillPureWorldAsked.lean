/- The plain law of WorldAsked. -/
import Derived.Test.YtecgogmolkjhjaaGreatMillAll37
set_option linter.all false
namespace Go.Proofs.Mill
def Zop (m:Mark) (h:Event):Bool:=h.kind == 1 && (h.t == m.t && (h.item == m.item && ((h.op.tag == m.op.tag && (h.op.v == m.op.v && true)) && decide (h.step<m.step))))
theorem Zsr {w:Wld} {i:Nat} (hi:i<w.log.length) (hl:w.hist.length<=4294967296):∀ (k j:Nat) (f:Bool),j+k=w.hist.length ->
   ZeD (w,(i:Int),f,(j:Int))=some (w,(i:Int),f || (w.hist.drop j).any (Zop (w.log.getD i ZaS)))
 | 0, j, f, hk => by
   rw [List.drop_of_length_le (by omega)]
   refine whileM_some.2 (.done _ _ ?_)
   show ZcQ _ _ _ _=_
   unfold ZcQ
   simp only [Zaz]
   rw [if_neg (by omega),List.any_nil,Bool.or_false]
 | k + 1, j, f, hk => by
   have hj:j<w.hist.length:=by omega
   rw [ZC2 Za3 hj,List.any_cons]
   have hw:Zaf IntKind.i64 ((j:Int)+1)=((j+1:Nat):Int):=by rw [ZaF (by omega) (by omega)];omega
   have hs:Zdw (w,(i:Int),f,(j:Int))=some (.inl (w,(i:Int),f || Zop (w.log.getD i ZaS) (w.hist.getD j Za3),((j+1:Nat):Int))):=by
     show ZcQ _ _ _ _=_
     unfold ZcQ
     have a1:(j:Int)<(w.hist.length:Int):=by omega
     have a2:(0:Int)<=(j:Int):=by omega
     have a3:(0:Int)<=(i:Int):=by omega
     have a4:(i:Int)<(w.log.length:Int):=by omega
     simp only [Zaz,Int.toNat_natCast,hw,a1,a2,a3,a4,if_true]
     unfold Zop
     cases f with
     | true=>rfl
     | false =>
       simp only [cond_false,Bool.false_or]
       cases ((w.hist.getD j Za3).kind == 1) with
       | false=>rfl
       | true =>
         simp only [cond_true,Bool.true_and]
         cases ((w.hist.getD j Za3).t == (w.log.getD i ZaS).t) with
         | false=>rfl
         | true =>
           simp only [cond_true,Bool.true_and]
           cases ((w.hist.getD j Za3).item == (w.log.getD i ZaS).item) with
           | false=>rfl
           | true =>
             simp only [cond_true,Bool.true_and]
             cases ((w.hist.getD j Za3).op.tag == (w.log.getD i ZaS).op.tag && ((w.hist.getD j Za3).op.v == (w.log.getD i ZaS).op.v && true)) with
             | false=>rfl
             | true=>rfl
   have ih:=Zsr hi hl k (j+1) (f || Zop (w.log.getD i ZaS) (w.hist.getD j Za3)) (by omega)
   rw [Bool.or_assoc] at ih
   exact whileM_some.2 (.more _ _ _ hs (whileM_some.1 ih))
theorem Zq6 (c:Config) (l:List SEntry) (d:List Int) (o0:(Zap celConfig).Ok c) (o1:(Zau .sentry).Ok l) (o2:(Zau .int).Ok d):Zfr c l d=some true:=by
 unfold Zfr
 simp only [ZDS,ZC4,Zaz]
 by_cases hb:400<l.length\/200<d.length
 . rw [if_pos hb]
 rw [if_neg hb]
 simp only [Bool.not_true,cond_false]
 have hc:=ZDw o0
 rcases ZEQ (c:=c) (l:=l) (d:=d) hc (Zv7 o1) (by omega) (by omega) with ⟨r1,r2⟩ | ⟨w,_,r1,_,hC,_,_,_,ro,pa,rt,co,W,Li⟩
 . rw [r1]
   simp only []
   rw [Zgq r2]
   rfl
 . rw [r1]
   have hf:=Li.few W hC
   have hh:=W.hist
   have h0:Zhg (w,0)=some (.inl ()):=by
     refine ZjL (step:=ZdO) (fun j=>(w,(j:Int))) w.log.length (y:=.inl ()) (fun j hj=>?_) ?_
     . show ZcY _ _=_
       unfold ZcY
       have e1:=Zsr (w:=w) hj (by omega) w.hist.length 0 false (by omega)
       have hm:w.log.getD j ZaS∈w.log:=by
         rw [List.getD_eq_getElem?_getD,List.getElem?_eq_getElem hj,Option.getD_some]
         exact List.getElem_mem hj
       obtain ⟨h,h1,h2,h3,h4,h5,h6⟩:=Li.asked _ hm
       have hany:w.hist.any (Zop (w.log.getD j ZaS))=true:=by
         rw [List.any_eq_true]
         refine ⟨h,h1,?_⟩
         unfold Zop
         rw [Zbp h2,Zbp h3,Zbp h4,ZDX h5,decide_eq_true h6]
         rfl
       rw [List.drop_zero,hany,Bool.or_true] at e1
       obtain ⟨s1,s2⟩:=Li.steps _ hm
       rw [show ZeD (w,(j:Int),false,0)=_ from e1]
       have a1:(j:Int)<(w.log.length:Int):=by omega
       have a2:(0:Int)<=(j:Int):=by omega
       simp only [Zaz,a1,a2,if_true,Int.toNat_natCast,Bool.not_true,cond_false]
       rw [if_neg (by omega),if_neg (by omega),ZaF (by omega) (by omega)]
       rfl
     . show ZcY _ _=_
       unfold ZcY
       simp only [Zaz]
       rw [if_neg (by omega)]
   simp only [bne_self_eq_false,cond_false,h0]
end Go.Proofs.Mill
