/- The plain law of WorldNothing. -/
import Derived.Test.YtecgogmolkjhjaaGreatMillAll37
set_option linter.all false
namespace Go.Proofs.Mill
theorem Zwz {c:Config} {k i:Int} {op:Op} (k0:0<=k) (k1:k<c.threads) (i0:0<=i) (i1:i<c.items) (h:ZdP op c.bounded=true):ZbI c ⟨1,k,i,op⟩=0:=by
 show (if (1:Int)<1\/(1:Int)>3 then (90:Int) else if (1:Int)=3 then 0 else if k<0\/k>=c.threads then 91 else if (1:Int)=2 then 0 else if i<0\/i>=c.items then 92 else if ZdP op c.bounded=true then 0 else 93)=0
 rw [if_neg (by omega),if_neg (by omega),if_neg (by omega),if_neg (by omega),if_neg (by omega),if_pos h]
theorem Zx7 {c:Config} {k i:Int} {op:Op} (k0:0<=k) (k1:k<c.threads):ZbI c ⟨2,k,i,op⟩=0:=by
 show (if (2:Int)<1\/(2:Int)>3 then (90:Int) else if (2:Int)=3 then 0 else if k<0\/k>=c.threads then 91 else if (2:Int)=2 then 0 else if i<0\/i>=c.items then 92 else if ZdP op c.bounded=true then 0 else 93)=0
 rw [if_neg (by omega),if_neg (by omega),if_neg (by omega),if_pos rfl]
theorem Zx1 {c:Config} {k i:Int} {op:Op}:ZbI c ⟨3,k,i,op⟩=0:=by
 show (if (3:Int)<1\/(3:Int)>3 then (90:Int) else if (3:Int)=3 then 0 else if k<0\/k>=c.threads then 91 else if (3:Int)=2 then 0 else if i<0\/i>=c.items then 92 else if ZdP op c.bounded=true then 0 else 93)=0
 rw [if_neg (by omega),if_pos rfl]
theorem Zo8 (c:Config) (l:List SEntry) (d:List Int) (x3 x4:Int) (op:Op) (o0:(Zap celConfig).Ok c) (o1:(Zau .sentry).Ok l) (o2:(Zau .int).Ok d) (o3:(Zad .u8).Ok x3) (o4:(Zad .u8).Ok x4) (o5:(Zap celOp).Ok op):Ze9 c l d x3 x4 op=some true:=by
 unfold Ze9
 simp only [ZDQ,ZDs,Zaw]
 by_cases hb:400<l.length\/200<d.length
 . rw [if_pos hb]
 rw [if_neg hb]
 simp only [Bool.not_true,cond_false]
 have hc:=ZCO o0
 have hop:=ZDV o5
 rcases ZEw (c:=c) (l:=l) (d:=d) hc (Zwu o1) (by omega) (by omega) with ⟨r1,r2⟩ | ⟨w,_,r1,_,hC,hck,_,B,ro,pa,rt,co,W,Li⟩
 . rw [r1]
   simp only []
   rw [ZfB r2]
   rfl
 rw [r1]
 have hT:(w.t.length:Int)=c.threads:=W.lenT
 have hth:=hC.threads
 have hit:=hC.items
 have hh:=W.hist
 have hnow:=W.now
 have eth:Zck w=some w:=ZvN B.toWSm
 have esm:ZeZ (w,w)=some true:=Zxx B
 simp only [bne_self_eq_false,cond_false,Zgg hT,ZgH,Zuy]
 cases hm:ZdP op c.bounded with
 | false=>simp only [Bool.not_false,cond_true,Zbl hT]
 | true =>
 simp only [Bool.not_true,cond_false]
 rw [wrap_u8 o3,wrap_u8 o4]
 simp only [show ¬c.threads=0 by omega,show ¬c.items=0 by omega,if_false]
 obtain ⟨u1,u2⟩:=ZuT o3
 obtain ⟨v1,v2⟩:=ZuT o4
 have k0:=Int.tmod_nonneg c.threads u1
 have k1:=Int.tmod_lt_of_pos x3 (show (0:Int)<c.threads by omega)
 have i0:=Int.tmod_nonneg c.items v1
 have i1:=Int.tmod_lt_of_pos x4 (show (0:Int)<c.items by omega)
 generalize x3.tmod c.threads=k at *
 generalize x4.tmod c.items=i at *
 rw [if_pos k0,if_pos (by omega)]
 simp only [Zbn,ZdH]
 have st:=ZmU W hC hc.2.1 hc.2.2 (by omega) ⟨3,0,0,⟨0,0⟩⟩ (ZbG (by decide))
 have rt:Zhj w ⟨3,0,0,⟨0,0⟩⟩=({ w with now:=w.now+1 },0):=by
   unfold Zhj
   rw [if_neg (fun x=>x Zx1)]
   have e1:ZlJ w ⟨3,0,0,⟨0,0⟩⟩=0:=if_neg (fun x=>absurd x.1 (by decide))
   have e2:ZbW w ⟨3,0,0,⟨0,0⟩⟩={ w with now:=Zaf .i64 (w.now+1) }:=by
     unfold ZbW
     rw [if_neg (by decide),if_neg (by decide),if_pos rfl]
   rw [e1,e2,Zaz (by omega) (by omega)]
 rw [rt] at st
 have hback:({ ({ w with now:=w.now+1 }:Wld) with now:=Zaf IntKind.i64 (w.now+1-1) }:Wld)=w:=by
   rw [Int.add_sub_cancel,Zaz (by omega) (by omega)]
 by_cases hp:(w.t.getD k.toNat Zax).phase=0
 ·
   rw [Zgg hp,cond_false]
   have sp:=ZmU W hC hc.2.1 hc.2.2 (by omega) ⟨2,k,0,⟨0,0⟩⟩ (ZbG (show (-1000000:Int)<=0/\(0:Int)<=1000000 by decide))
   have rp:Zhj w ⟨2,k,0,⟨0,0⟩⟩=(w,0):=by
     unfold Zhj
     rw [if_neg (fun x=>x (by rw [W.cE];exact Zx7 k0 k1))]
     have e1:ZlJ w ⟨2,k,0,⟨0,0⟩⟩=0:=if_neg (fun x=>absurd x.1 (show ¬(2:Int)=1 by decide))
     have e2:ZbW w ⟨2,k,0,⟨0,0⟩⟩=w:=by
       unfold ZbW
       rw [if_neg (show ¬(2:Int)=1 by decide),if_pos rfl,if_pos hp]
     rw [e1,e2]
   rw [rp] at sp
   simp only [sp,st,bne_self_eq_false,cond_false,hback,eth,esm,Bool.not_true,beq_self_eq_true,cond_true]
 . rw [ZfB hp,cond_true]
   have sp:=ZmU W hC hc.2.1 hc.2.2 (by omega) ⟨1,k,i,op⟩ hop
   have rp:Zhj w ⟨1,k,i,op⟩=({ w with hist:=w.hist++[⟨3,k,i,op,0,false,w.steps⟩] },170):=by
     unfold Zhj
     rw [if_neg (fun x=>x (by rw [W.cE];exact Zwz k0 k1 i0 i1 hm))]
     have e1:ZlJ w ⟨1,k,i,op⟩=170:=if_pos ⟨rfl,hp⟩
     have e2:ZbW w ⟨1,k,i,op⟩={ w with hist:=w.hist++[⟨3,k,i,op,0,false,w.steps⟩] }:=by
       unfold ZbW invT
       rw [if_pos rfl,if_pos hp]
     rw [e1,e2]
   rw [rp] at sp
   have hg:(w.hist++[(⟨3,k,i,op,0,false,w.steps⟩:Event)]).getD w.hist.length Zbb=⟨3,k,i,op,0,false,w.steps⟩:=by
     rw [List.getD_eq_getElem?_getD,List.getElem?_append_right (Nat.le_refl _),Nat.sub_self]
     rfl
   have htk:(w.hist++[(⟨3,k,i,op,0,false,w.steps⟩:Event)]).take w.hist.length=w.hist:=by
     rw [List.take_append_of_le_length (Nat.le_refl _),List.take_length]
   have hl1:(((w.hist++[(⟨3,k,i,op,0,false,w.steps⟩:Event)]).length:Nat):Int)=(w.hist.length:Int)+1:=by
     rw [List.length_append,List.length_singleton];omega
   have hw1:Zaf IntKind.i64 ((w.hist.length:Int)+1)=(w.hist.length:Int)+1:=Zaz (by omega) (by omega)
   simp only [sp,st,bne_self_eq_false,cond_false,hback,eth,esm,Bool.not_true,hl1,hw1,Int.toNat_natCast,hg,htk,beq_self_eq_true,Bool.and_self,Int.toNat_zero,List.drop_zero]
   rw [if_pos (by omega),if_pos (by omega)]
end Go.Proofs.Mill
