/- The plain law of WorldRefuses. -/
import Derived.Test.YtecgogmolkjhjaaGreatMillAll37
set_option linter.all false
namespace Go.Proofs.Mill
theorem Zpn {c:Config} {b:SEntry} (hb:Zbn c b≠0) {r:List SEntry}:∀ {a:List SEntry} {i:Nat},(∀ e∈a,Zbn c e=0)->Zeu c i (a++b::r)=some (((i+a.length:Nat):Int),Zbn c b)
 | [], i, _ => by
   show Zeu c i (b::r)=_
   unfold Zeu
   rw [if_neg hb]
   rfl
 | e :: a, i, h => by
   show Zeu c i (e::(a++b::r))=_
   unfold Zeu
   rw [if_pos (h e (List.mem_cons_self ..)),Zpn hb (fun x hx=>h x (List.mem_cons_of_mem _ hx)),List.length_cons]
   congr 2
   omega
theorem ZxM {c:Config} (hC:CfgOK c) {a r:List SEntry} {b:SEntry} (hb:Zbn c b≠0) (ha:∀ e∈a,Zbn c e=0) (hl:(a++b::r).length<=65536):allE c (a++b::r)=((a.length:Int),Zbn c b):=by
 obtain ⟨e,he,hE⟩:=Zie c
 have he0:=hE.2 hC
 subst he0
 unfold allE
 rw [he,Option.getD_some,if_neg (fun h=>h rfl),if_neg (by omega),Zpn hb ha,Nat.zero_add]
 rfl
theorem ZxG {e:SEntry} (o:(Zap celSEntry).Ok e):Num e.op.v:=by
 have h1:∀ x:Int,AV.int .i64 x∈celSEntry.enc e->Num x:=fun x hx=>Zuk (o _ hx)
 refine h1 _ ?_
 simp [celSEntry,Za5,Zae,Zao,celBool,celOp]
theorem Zpb (c:Config) (l:List SEntry) (d:List Int) (bad:SEntry) (x4:Int) (o0:(Zap celConfig).Ok c) (o1:(Zau .sentry).Ok l) (o2:(Zau .int).Ok d) (o3:(Zap celSEntry).Ok bad) (o4:(Zad .u8).Ok x4):Ze4 c l d bad x4=some true:=by
 unfold Ze4
 simp only [ZD7,ZCP,Zaw]
 by_cases hb:400<l.length\/200<d.length
 . rw [if_pos hb]
 rw [if_neg hb]
 simp only [Bool.not_true,cond_false]
 have hc:=ZC5 o0
 have hnb:=ZxG o3
 have hln:=ZwL o1
 rcases ZCA (c:=c) (l:=l) (d:=d) hc hln (by omega) (by omega) with ⟨r1,r2⟩ | ⟨w,_,r1,_,hC,hck,_,B,ro,pa,rt,co,W,Li⟩
 . rw [r1]
   simp only []
   rw [Zf8 r2]
   rfl
 rw [r1]
 have hT:(w.t.length:Int)=c.threads:=W.lenT
 have e1:ZjX (bad::[])=some [bad]:=Zwt _ (by simp)
 simp only [bne_self_eq_false,cond_false,e1,List.length_cons,List.length_nil,Nat.zero_add,List.getD_cons_zero,Int.toNat_zero]
 rw [if_pos (by decide)]
 simp only [Zv2]
 by_cases hw:Zbn c bad=0
 . rw [Zbi hw,cond_true,Zbi hT]
 rw [ZaU hw,cond_false]
 have hstep:=Zx6 W hC hc.2.1 hc.2.2 (by omega) bad hnb
 have hR:Zo8 w bad=(w,Zbn c bad):=by unfold Zo8;rw [W.cE,if_pos hw]
 rw [hR] at hstep
 rw [hstep]
 obtain ⟨u1,u2⟩:=ZyW o4
 rw [wrap_u8 o4]
 have hl1:Zaf IntKind.i64 ((l.length:Int)+1)=(l.length:Int)+1:=Zaz (by omega) (by omega)
 have k0:=Int.tmod_nonneg ((l.length:Int)+1) u1
 have k1:=Int.tmod_lt_of_pos x4 (show (0:Int)<(l.length:Int)+1 by omega)
 obtain ⟨k,hk⟩:∃ k:Nat,x4.tmod ((l.length:Int)+1)=(k:Int):=⟨_,(Int.toNat_of_nonneg k0).symm⟩
 have hkl:k<=l.length:=by omega
 rw [hl1,hk]
 simp only [Int.toNat_natCast,List.drop_zero,List.take_length]
 rw [if_neg (by omega),if_pos (by omega),if_pos (by omega),Zbj (by simp;omega),cond_true,Zbj (by simp;omega),cond_true,if_pos (by omega),Zbj (by simp;omega),cond_true]
 have hl':l.take k++bad::[]++l.drop k=l.take k++bad::l.drop k:=by simp
 rw [hl']
 have hlen:(l.take k++bad::l.drop k).length=l.length+1:=by simp;omega
 have hA:=ZxM hC hw (r:=l.drop k) (fun e he=>hck e (List.mem_of_mem_take he)) (by rw [hlen];omega)
 have hrun:Zfv (c,l.take k++bad::l.drop k,d)=some (ZyK,allE c (l.take k++bad::l.drop k)):=by
   rcases ZCA (c:=c) (l:=l.take k++bad::l.drop k) (d:=d) hc (fun e he=>by
       rcases List.mem_append.1 he with he | he
       . exact hln e (List.mem_of_mem_take he)
       . rcases List.mem_cons.1 he with rfl | he
         . exact hnb
         . exact hln e (List.mem_of_mem_drop he)) (by omega) (by rw [hlen];omega) with ⟨s1,_⟩ | ⟨_,_,_,_,_,s2,_⟩
   . exact s1
   . exact (hw (s2 bad (List.mem_append_right _ (List.mem_cons_self ..)))).elim
 rw [hrun,hA]
 have htl:(l.take k).length=k:=by rw [List.length_take];omega
 have eth:Zgj w=some w:=Zvc B.toWSm
 have esm:ZkO (w,w)=some true:=ZxQ B
 simp only [beq_self_eq_true,cond_true,eth,esm,htl]
 rw [if_pos (by omega),if_pos (Int.le_refl _)]
 rfl
end Go.Proofs.Mill
