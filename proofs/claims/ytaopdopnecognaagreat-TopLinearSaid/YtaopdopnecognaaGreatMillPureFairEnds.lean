/- The plain law of FairEnds: behind rounds enough all that was invoked has responded. -/
import Derived.Test.YtaopdopnecognaaGreatMillAll45
import Derived.Test.YtaopdopnecognaaGreatMillAll45
import Derived.Test.YtaopdopnecognaaGreatMillAll45
set_option linter.all false
namespace Go.Proofs.Mill
theorem Zvg (c:Config) (e:SEntry):Zj6 (c,e)=some (Zbu c e):=by
 show ZjT c e=_
 unfold ZjT Zbu
 simp only [Zat,ZlW,ZtG]
 by_cases h1:e.kind<1
 . rw [if_pos h1,if_pos (.inl h1)]
 rw [if_neg h1]
 by_cases h2:e.kind>3
 . rw [if_pos h2,if_pos (.inr h2)]
 rw [if_neg h2,if_neg (show ¬(e.kind<1\/e.kind>3) by omega)]
 by_cases h3:e.kind=3
 . rw [Zbf h3,if_pos h3];rfl
 rw [ZaS h3,if_neg h3,cond_false]
 by_cases h4:e.t<0
 . rw [if_pos h4,if_pos (.inl h4)]
 rw [if_neg h4]
 by_cases h5:e.t>=c.threads
 . rw [if_pos h5,if_pos (.inr h5)]
 rw [if_neg h5,if_neg (show ¬(e.t<0\/e.t>=c.threads) by omega)]
 by_cases h6:e.kind=2
 . rw [Zbf h6,if_pos h6];rfl
 rw [ZaS h6,if_neg h6,cond_false]
 by_cases h7:e.item<0
 . rw [if_pos h7,if_pos (.inl h7)]
 rw [if_neg h7]
 by_cases h8:e.item>=c.items
 . rw [if_pos h8,if_pos (.inr h8)]
 rw [if_neg h8,if_neg (show ¬(e.item<0\/e.item>=c.items) by omega)]
 cases Zfi e.op c.bounded <;> rfl
theorem ZCk {α:Type} {l:List α} (d:α) {i:Nat} (h:i<l.length):l.drop i=l.getD i d::l.drop (i+1):=by
 rw [List.drop_eq_getElem_cons h,List.getD_eq_getElem?_getD,List.getElem?_eq_getElem h];rfl
theorem Zrd {c:Config} {l:List SEntry} (hl:l.length<=4294967296):∀ (k i:Nat),i+k=l.length->ZjC (l,c,(i:Int))=some (match ZeT c i (l.drop i) with | none=>.inl () | some y=>.inr y)
 | 0, i, hk => by
   rw [List.drop_of_length_le (by omega)]
   refine whileM_some.2 (.done _ _ ?_)
   show ZfH _ _ _=_
   unfold ZfH
   simp only [Zat]
   rw [if_neg (by omega)]
   rfl
 | k + 1, i, hk => by
   have hi:i<l.length:=by omega
   rw [ZCk ZaE hi]
   have e1:ZeT c i (l.getD i ZaE::l.drop (i+1))=if Zbu c (l.getD i ZaE)=0 then ZeT c (i+1) (l.drop (i+1)) else some ((i:Int),Zbu c (l.getD i ZaE)):=rfl
   have hs:Zhh (l,c,(i:Int))=if Zbu c (l.getD i ZaE)=0 then some (.inl (l,c,((i+1:Nat):Int))) else some (.inr (.inr ((i:Int),Zbu c (l.getD i ZaE)))):=by
     show ZfH _ _ _=_
     unfold ZfH
     simp only [Zat,Zvg,Int.toNat_natCast]
     rw [if_pos (show (i:Int)<(l.length:Int) by omega),if_pos (show (0:Int)<=(i:Int) by omega),if_pos (show (i:Int)<(l.length:Int) by omega)]
     by_cases h0:Zbu c (l.getD i ZaE)=0
     . rw [if_pos h0,Zf7 h0,Zas (by omega) (by omega)];rfl
     . rw [if_neg h0,ZeV h0];rfl
   rw [e1]
   by_cases h0:Zbu c (l.getD i ZaE)=0
   . rw [if_pos h0] at hs ⊢
     exact whileM_some.2 (.more _ _ _ hs (whileM_some.1 (Zrd hl k (i+1) (by omega))))
   . rw [if_neg h0] at hs ⊢
     exact whileM_some.2 (.done _ _ hs)
theorem Zzk (c:Config) (l:List SEntry):ZlL (c,l)=some (allE c l):=by
 obtain ⟨e,he,hE⟩:=ZgU c
 show Zlz c l=_
 unfold Zlz allE
 simp only [ZfM,he,Option.getD_some,Zat]
 by_cases h0:e=0
 . rw [Zf7 h0,cond_false,if_neg (show ¬e≠0 from fun h=>h h0)]
   by_cases h1:l.length>65536
   . rw [if_pos h1,if_pos (show (l.length:Int)>65536 by omega)]
   . rw [if_neg h1,if_neg (show ¬(l.length:Int)>65536 by omega)]
     have:=Zrd (c:=c) (l:=l) (by omega) l.length 0 (by omega)
     rw [List.drop_zero] at this
     rw [show ZjC (l,c,0)=_ from this]
     cases ZeT c 0 l <;> rfl
 . rw [ZeV h0,cond_true,if_pos h0]
end Go.Proofs.Mill
