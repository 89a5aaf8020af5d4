/- The plain law of TopLinear: what is read out of bytes runs so that its history is linear. -/
import Derived.Test.YtaopdopnecognaaGreatMillAll47
import Derived.Test.YtaopdopnecognaaGreatMillAll45
import Derived.Test.YtaopdopnecognaaGreatMillPureFairEnds
import Derived.Test.YtaopdopnecognaaGreatMillAll47
set_option linter.all false
namespace Go.Proofs.Mill
theorem ZwK {f:Unit->Option Bool} (hf:f ()=some true) (c:Config) (s:ByteArray) (d:List Int) (o0:(Zaq celConfig).Ok c) (o2:(Zap .int).Ok d):Zf9 f c s d=some true:=by
 unfold Zf9
 simp only [hf,Bool.not_true,cond_false,Zat]
 by_cases h1:(s.size:Int)>3000
 . rw [if_pos h1]
 rw [if_neg h1]
 by_cases h2:(d.length:Int)>100
 . rw [if_pos h2]
 rw [if_neg h2]
 obtain ⟨l,j,g,hl,hn,e1,e2⟩:=Zvf (s:=s) (by omega)
 have hc:=ZB6 o0
 simp only [e1,e2,bne_self_eq_false,cond_false,Zzk]
 rcases ZBC (c:=c) (l:=l) (d:=d) hc hn (by omega) with ⟨r1,r2⟩ | ⟨r1,r2,hC,r3,r4,ro,pa,rt,co,W,Li⟩
 . rw [show ZcI (c,l,d)=some (ZwR,allE c l) from r1]
   simp only [bne_self_eq_false,cond_false]
   rw [ZeV r2]
   rfl
 . obtain ⟨w,hw⟩:∃ w,w=l.foldl ZcE (newW c d):=⟨_,rfl⟩
   rw [<- hw] at r1 W Li
   rw [show ZcI (c,l,d)=some (w,0,0) from r1,r2]
   have hO:=Li.ok W hC hc (by omega)
   have hL:ZbR w=some true:=by
     show Zfk w=_
     rw [ZrF hO,decide_eq_true (Li.linear W hC)]
   simp only [bne_self_eq_false,cond_false,beq_self_eq_true,cond_true,hL]
theorem ZrG (c:Config) (s:ByteArray) (d:List Int) (o0:(Zaq celConfig).Ok c) (o1:(valStr).Ok s) (o2:(Zap .int).Ok d):Zga c s d=some true:=by
 unfold Zga
 exact ZwK Zx1 c s d o0 o2
end Go.Proofs.Mill
