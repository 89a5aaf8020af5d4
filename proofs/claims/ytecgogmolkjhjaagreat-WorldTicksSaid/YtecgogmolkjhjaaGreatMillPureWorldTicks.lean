/- The plain law of WorldTicks. -/
import Derived.Test.YtecgogmolkjhjaaGreatMillAll37
set_option linter.all false
namespace Go.Proofs.Mill
def tickE:SEntry:=SEntry.mk (3:Int) (0:Int) (0:Int) (Op.mk (0:Int) (0:Int))
theorem Zsc (a b:List SEntry):Zbk (a++b)=Zbk a++Zbk b:=List.filter_append ..
theorem ZkH (a b:List SEntry):ZcD (a++b)=ZcD a+ZcD b:=by unfold ZcD;rw [List.filter_append,List.length_append]
theorem ZoR {e:SEntry}:ZcD [e]=if e.kind=3 then 1 else 0:=by
 unfold ZcD
 rw [List.filter_cons]
 by_cases k:e.kind=3
 . rw [if_pos (by simp [k]),if_pos k];rfl
 . rw [if_neg (by simp [k]),if_neg k];rfl
theorem ZwG {e:SEntry}:Zbk [e]=if e.kind=3 then [] else [e]:=by
 unfold Zbk
 rw [List.filter_cons]
 by_cases k:e.kind=3
 . rw [if_neg (by simp [k]),if_pos k];rfl
 . rw [if_pos (by simp [k]),if_neg k];rfl
theorem Zur (l:List SEntry):ZcD l<=l.length:=List.length_filter_le _ _
theorem Zic {l:List SEntry} {d:List Int} {m:Int} {c:Config} (hl:l.length<=1000):∀ (k j:Nat) (s:List SEntry),j+k=l.length->s.length<=2*j ->
   ∃ s',Ze8 (l,d,m,c,s,(ZcD s:Int),(j:Int))=some (d,c,s',(ZcD s':Int))/\s'.length<=2*l.length/\(∀ e∈s',e∈s\/e∈l\/e=tickE)
 | 0, j, s, hk, hs => by
   refine ⟨s,whileM_some.2 (.done _ _ ?_),by omega,fun e he=>.inl he⟩
   show ZbT _ _ _ _ _ _ _=_
   unfold ZbT
   simp only [Zaw]
   rw [if_neg (by omega)]
 | k + 1, j, s, hk, hs => by
   have hj:j<l.length:=by omega
   have hm:l.getD j ZaV∈l:=by
     rw [List.getD_eq_getElem?_getD,List.getElem?_eq_getElem hj,Option.getD_some]
     exact List.getElem_mem hj
   have hw:Zaf IntKind.i64 ((j:Int)+1)=((j+1:Nat):Int):=by rw [Zaz (by omega) (by omega)];omega
   have a1:(j:Int)<(l.length:Int):=by omega
   have a2:(0:Int)<=(j:Int):=by omega
   have ht:=Zur s
   by_cases k3:(l.getD j ZaV).kind=3
   . obtain ⟨s',h1,h2,h3⟩:=Zic (d:=d) (m:=m) (c:=c) hl k (j+1) s (by omega) (by omega)
     refine ⟨s',whileM_some.2 (.more _ _ _ ?_ (whileM_some.1 h1)),h2,h3⟩
     show ZbT _ _ _ _ _ _ _=_
     unfold ZbT
     simp only [Zaw,a1,a2,if_true,Int.toNat_natCast,hw]
     rw [Zbu k3,cond_true]
   . by_cases hq:((j:Int).tmod 7 == (IntKind.i64.wrap m).tmod 7)=true
     . have et:ZcD (s++[tickE]++[l.getD j ZaV])=ZcD s+1:=by
         rw [ZkH,ZkH,ZoR,ZoR,if_neg k3,if_pos (show tickE.kind=3 from rfl)]
       obtain ⟨s',h1,h2,h3⟩:=Zic (d:=d) (m:=m) (c:=c) hl k (j+1) (s++[tickE]++[l.getD j ZaV]) (by omega) (by simp;omega)
       refine ⟨s',whileM_some.2 (.more _ _ _ ?_ (whileM_some.1 h1)),h2,fun e he=>?_⟩
       . show ZbT _ _ _ _ _ _ _=_
         unfold ZbT
         simp only [Zaw,a1,a2,if_true,Int.toNat_natCast,hw,hq,cond_true]
         rw [ZaW k3,cond_false,Zbx (by simp;omega),cond_true,Zbx (by simp;omega),cond_true,Zaz (n:=(ZcD s:Int)+1) (by omega) (by omega),et]
         rfl
       . rcases h3 e he with h | h | h
         . rcases List.mem_append.1 h with h | h
           . rcases List.mem_append.1 h with h | h
             . exact .inl h
             . exact .inr (.inr (List.mem_singleton.1 h))
           . rw [List.mem_singleton.1 h];exact .inr (.inl hm)
         . exact .inr (.inl h)
         . exact .inr (.inr h)
     . have et:ZcD (s++[l.getD j ZaV])=ZcD s:=by
         rw [ZkH,ZoR,if_neg k3];rfl
       obtain ⟨s',h1,h2,h3⟩:=Zic (d:=d) (m:=m) (c:=c) hl k (j+1) (s++[l.getD j ZaV]) (by omega) (by simp;omega)
       refine ⟨s',whileM_some.2 (.more _ _ _ ?_ (whileM_some.1 h1)),h2,fun e he=>?_⟩
       . show ZbT _ _ _ _ _ _ _=_
         unfold ZbT
         have hq:((j:Int).tmod 7 == (IntKind.i64.wrap m).tmod 7)=false:=by simpa using hq
         simp only [Zaw,a1,a2,if_true,Int.toNat_natCast,hw,hq,cond_false]
         rw [ZaW k3,cond_false,Zbx (by simp;omega),cond_true,et]
       . rcases h3 e he with h | h | h
         . rcases List.mem_append.1 h with h | h
           . exact .inl h
           . rw [List.mem_singleton.1 h];exact .inr (.inl hm)
         . exact .inr (.inl h)
         . exact .inr (.inr h)
theorem Zop {s:List SEntry} {d:List Int} {n:Int} {c:Config} (hs:s.length<=4294967296):∀ (k j:Nat) (acc:List SEntry),j+k=s.length->acc.length<=j ->
   ZeO (d,c,s,n,acc,(j:Int))=some (d,c,s,n,acc++Zbk (s.drop j))
 | 0, j, acc, hk, ha => by
   rw [List.drop_of_length_le (by omega)]
   refine whileM_some.2 (.done _ _ ?_)
   show ZcS _ _ _ _ _ _=_
   unfold ZcS
   simp only [Zaw]
   rw [if_neg (by omega)]
   show _=some (Sum.inr (d,c,s,n,acc++[]))
   rw [List.append_nil]
 | k + 1, j, acc, hk, ha => by
   have hj:j<s.length:=by omega
   rw [ZDD ZaV hj]
   have hw:Zaf IntKind.i64 ((j:Int)+1)=((j+1:Nat):Int):=by rw [Zaz (by omega) (by omega)];omega
   have a1:(j:Int)<(s.length:Int):=by omega
   have a2:(0:Int)<=(j:Int):=by omega
   have hs2:ZdB (d,c,s,n,acc,(j:Int))=some (.inl (d,c,s,n,acc++Zbk [s.getD j ZaV],((j+1:Nat):Int))):=by
     show ZcS _ _ _ _ _ _=_
     unfold ZcS
     simp only [Zaw,a1,a2,if_true,Int.toNat_natCast,hw]
     rw [ZwG]
     by_cases k3:(s.getD j ZaV).kind=3
     . rw [Zjd k3,cond_false,if_pos k3,List.append_nil]
     . rw [ZgS k3,cond_true,if_neg k3,Zbx (by simp;omega),cond_true]
   have hacc:(acc++Zbk [s.getD j ZaV]).length<=j+1:=by
     rw [List.length_append]
     have:(Zbk [s.getD j ZaV]).length<=1:=List.length_filter_le _ _
     omega
   have ih:=Zop (d:=d) (n:=n) (c:=c) hs k (j+1) (acc++Zbk [s.getD j ZaV]) (by omega) hacc
   have hr:=whileM_some.2 (.more _ _ _ hs2 (whileM_some.1 ih))
   refine Eq.trans hr ?_
   rw [List.append_assoc,<- Zsc]
   rfl
theorem Zl2 {c:Config}:∀ {l:List SEntry} {i j:Nat},(Zc5 c i l).map (·.2)=(Zc5 c j (Zbk l)).map (·.2)
 | [],i,j=>rfl
 | e :: l, i, j => by
   by_cases k3:e.kind=3
   . have h0:ZbL c e=0:=by
       unfold ZbL
       rw [if_neg (by omega),if_pos k3]
     have e3:Zbk (e::l)=Zbk l:=by
       unfold Zbk
       rw [List.filter_cons,if_neg (by simp [k3])]
     rw [e3]
     have e1:Zc5 c i (e::l)=if ZbL c e=0 then Zc5 c (i+1) l else some ((i:Int),ZbL c e):=rfl
     rw [e1,if_pos h0]
     exact Zl2
   . have e3:Zbk (e::l)=e::Zbk l:=by
       unfold Zbk
       rw [List.filter_cons,if_pos (by simp [k3])]
     rw [e3]
     have e1:Zc5 c i (e::l)=if ZbL c e=0 then Zc5 c (i+1) l else some ((i:Int),ZbL c e):=rfl
     have e2:Zc5 c j (e::Zbk l)=if ZbL c e=0 then Zc5 c (j+1) (Zbk l) else some ((j:Int),ZbL c e):=rfl
     rw [e1,e2]
     split
     . exact Zl2
     . rfl
theorem Zyy {c:Config} {l:List SEntry} (hl:l.length<=65536):(allE c l).2=(allE c (Zbk l)).2:=by
 have hl2:(Zbk l).length<=l.length:=List.length_filter_le _ _
 unfold allE
 split
 . rfl
 . rw [if_neg (by omega),if_neg (by omega)]
   have:=Zl2 (c:=c) (l:=l) (i:=0) (j:=0)
   cases h1:Zc5 c 0 l with
   | none =>
     cases h2:Zc5 c 0 (Zbk l) with
     | none=>rfl
     | some y=>rw [h1,h2] at this;cases this
   | some x =>
     cases h2:Zc5 c 0 (Zbk l) with
     | none=>rw [h1,h2] at this;cases this
     | some y =>
       rw [h1,h2] at this
       exact Option.some.inj this
theorem ZuN:∀ {l:List SEntry} {w:Wld},(∀ e∈l,e.kind≠3)->(l.foldl Zbs w).now=w.now
 | [],_,_=>rfl
 | e :: l, w, h => by
   show (l.foldl Zbs (Zbs w e)).now=_
   rw [ZuN (fun x hx=>h x (List.mem_cons_of_mem _ hx)),Zqf (h e (List.mem_cons_self ..))]
theorem ZqP (c:Config) (l:List SEntry) (d:List Int) (x3:Int) (o0:(Zap celConfig).Ok c) (o1:(Zau .sentry).Ok l) (o2:(Zau .int).Ok d) (o3:(Zad .u8).Ok x3):ZfI c l d x3=some true:=by
 unfold ZfI
 simp only [ZEJ,ZD3,Zaw]
 by_cases hb:400<l.length\/200<d.length
 . rw [if_pos hb]
 rw [if_neg hb]
 simp only [Bool.not_true,cond_false]
 have hc:=ZDh o0
 have hln:=ZwR o1
 obtain ⟨c',hc'⟩:∃ c',c'=({ c with wait:=(0:Int) }:Config):=⟨_,rfl⟩
 rw [<- hc']
 have hw0:c'.wait=0:=by rw [hc']
 have hcc:ZzB c':=by rw [hc'];exact hc
 obtain ⟨s,h1,h2,h3⟩:=Zic (l:=l) (d:=d) (m:=x3) (c:=c') (by omega) l.length 0 [] (by omega) (by simp)
 have h1:Ze8 (l,d,x3,c',([]:List SEntry),(0:Int),(0:Int))=some (d,c',s,(ZcD s:Int)):=h1
 have hnl:(Zbk s).length<=s.length:=List.length_filter_le _ _
 have h4:=Zop (s:=s) (d:=d) (n:=(ZcD s:Int)) (c:=c') (by omega) s.length 0 [] (by omega) (by simp)
 rw [List.drop_zero,List.nil_append] at h4
 have h4:ZeO (d,c',s,(ZcD s:Int),([]:List SEntry),(0:Int))=some (d,c',s,(ZcD s:Int),Zbk s):=h4
 have hsn:∀ e∈s,Num e.op.v:=fun e he=>by
   rcases h3 e he with h | h | h
   . cases h
   . exact hln e h
   . rw [h];exact ZbU (show (-1000000:Int)<=0/\(0:Int)<=1000000 by decide)
 have hsn2:∀ e∈Zbk s,Num e.op.v:=fun e he=>hsn e (List.mem_filter.1 he).1
 have hE:=Zyy (c:=c') (l:=s) (by omega)
 simp only [h1,h4]
 rcases Zy1 (c:=c') (l:=s) (d:=d) hcc hsn (by omega) (by omega) with ⟨r1,r2⟩ | ⟨a,ha,r1,r2,hC,_,_,Ba,_⟩
 . rcases Zy1 (c:=c') (l:=Zbk s) (d:=d) hcc hsn2 (by omega) (by omega) with ⟨s1,s2⟩ | ⟨b,hb',s1,s2,_⟩
   . rw [r1,s1]
     simp only []
     rw [ZgS r2,cond_true,hE,beq_self_eq_true]
   . rw [hE,s2] at r2
     exact (r2 rfl).elim
 . rcases Zy1 (c:=c') (l:=Zbk s) (d:=d) hcc hsn2 (by omega) (by omega) with ⟨s1,s2⟩ | ⟨b,hb',s1,s2,_,_,_,Bb,_⟩
   . rw [<- hE,r2] at s2
     exact (s2 rfl).elim
   . have hev:Evers (newW c' d):=⟨hw0,fun h hh=>by
       have hh:h∈List.replicate c'.threads.toNat newT:=hh
       rw [(List.mem_replicate.1 hh).2]
       exact Int.le_refl 0⟩
     have hf:=ZmQ (l:=s) hev ⟨Int.le_refl 0,by show (0:Int)+s.length<=_;omega⟩
     have hn0:(newW c' d).now=0:=rfl
     rw [<- ha,<- hb',hn0,Int.zero_add] at hf
     have hbn:b.now=0:=by rw [hb',ZuN ZqY];rfl
     have ht:=Zur s
     have han:a.now=(ZcD s:Int):=by rw [hf];rfl
     have heq:({ a with now:=Zaf IntKind.i64 (a.now-(ZcD s:Int)) }:Wld)=b:=by
       rw [han,Int.sub_self,Zaz (by decide) (by decide),hf]
       show ({ b with now:=0 }:Wld)=b
       rw [<- hbn]
     have eth:Zgg b=some b:=Zvk Bb.toWSm
     have esm:ZkK (b,b)=some true:=ZyH Bb
     rw [r1,s1]
     simp only [bne_self_eq_false,cond_false,heq,eth,esm]
end Go.Proofs.Mill
