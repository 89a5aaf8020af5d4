/- The plain law of WorldGoesOn. -/
import Derived.Test.YtecgogmolkjhjaaGreatMillAll37
set_option linter.all false
namespace Go.Proofs.Mill
structure Grows (w w':Wld):Prop where
  log:w.log <+: w'.log
  hist:w.hist <+: w'.hist
  steps:w.steps<=w'.steps
  now:w.now<=w'.now
theorem Grows.refl (w:Wld):Grows w w:=⟨List.prefix_refl _,List.prefix_refl _,Int.le_refl _,Int.le_refl _⟩
theorem Grows.trans {a b c:Wld} (h:Grows a b) (k:Grows b c):Grows a c:=⟨h.log.trans k.log,h.hist.trans k.hist,Int.le_trans h.steps k.steps,Int.le_trans h.now k.now⟩
section
variable {c:Config} {w:Wld} {n:Nat} {ro pa rt:Int->Int} {co:Int->Option Int}
theorem Grows.entry (W:WInv c w n ro pa rt co) (hn:n<=200000) {e:SEntry}:Grows w (ZbF w e):=by
 have hs:=W.steps
 have hnow:=W.now
 unfold ZbF
 split
 . unfold invT
   split
   . exact ⟨List.prefix_refl _,List.prefix_append _ _,Int.le_refl _,Int.le_refl _⟩
   . exact ⟨List.prefix_refl _,List.prefix_append _ _,Int.le_refl _,Int.le_refl _⟩
 split
 . split
   . exact Grows.refl w
   . have hx:w.steps<=ZdU w:=by
       show w.steps<=Zaf IntKind.i64 (w.steps+1)
       rw [Zaz (by omega) (by omega)]
       omega
     unfold Zci
     split
     . exact ⟨List.prefix_append _ _,List.prefix_append _ _,hx,Int.le_refl _⟩
     . exact ⟨List.prefix_append _ _,List.prefix_refl _,hx,Int.le_refl _⟩
 split
 . refine ⟨List.prefix_refl _,List.prefix_refl _,Int.le_refl _,?_⟩
   show w.now<=Zaf IntKind.i64 (w.now+1)
   rw [Zaz (by omega) (by omega)]
   omega
 . exact Grows.refl w
theorem Grows.entries (hC:CfgOK c) (hlo:Num c.lo) (hhi:Num c.hi):∀ {l:List SEntry} {w:Wld} {n:Nat} {ro pa rt:Int->Int} {co:Int->Option Int},WInv c w n ro pa rt co->n+l.length<=190000->(∀ e∈l,ZbC c e=0/\Num e.op.v)->Grows w (l.foldl ZbF w)
 | [],w,n,ro,pa,rt,co,_,_,_=>Grows.refl w
 | e :: l, w, n, ro, pa, rt, co, W, hn, he => by
   rw [List.length_cons] at hn
   obtain ⟨_,ro',pa',rt',co',b⟩:=W.entry hC hlo hhi (by omega) (he e (List.mem_cons_self ..)).1 (he e (List.mem_cons_self ..)).2
   have h1:Grows w (ZbF w e):=Grows.entry W (by omega)
   have h2:Grows (ZbF w e) (l.foldl ZbF (ZbF w e)):=Grows.entries hC hlo hhi b (by omega) (fun x hx=>he x (List.mem_cons_of_mem _ hx))
   exact h1.trans h2
theorem Zq0 (hC:CfgOK c) (hlo:Num c.lo) (hhi:Num c.hi) {b:List SEntry} {y:Wld} (hb:b.length<=100000) (he:∀ e∈b,ZbC c e=0/\Num e.op.v):∀ (k j:Nat) (w:Wld) (n:Nat) (ro pa rt:Int->Int) (co:Int->Option Int),j+k=b.length->WInv c w n ro pa rt co->n+k<=190000 ->
   ZeK (b,w,y,(j:Int))=some ((b.drop j).foldl ZbF w,y)
 | 0, j, w, n, ro, pa, rt, co, hk, W, hn => by
   rw [List.drop_of_length_le (by omega)]
   refine whileM_some.2 (.done _ _ ?_)
   show ZcI _ _ _ _=_
   unfold ZcI
   simp only [Zaw]
   rw [if_neg (by omega)]
   rfl
 | k + 1, j, w, n, ro, pa, rt, co, hk, W, hn => by
   have hj:j<b.length:=by omega
   have hm:b.getD j Zbc∈b:=by
     rw [List.getD_eq_getElem?_getD,List.getElem?_eq_getElem hj,Option.getD_some]
     exact List.getElem_mem hj
   rw [ZDM Zbc hj]
   have hw:Zaf IntKind.i64 ((j:Int)+1)=((j+1:Nat):Int):=by rw [Zaz (by omega) (by omega)];omega
   obtain ⟨_,ro',pa',rt',co',W'⟩:=W.entry hC hlo hhi (by omega) (he _ hm).1 (he _ hm).2
   have hst:=ZyQ W hC hlo hhi (by omega) (b.getD j Zbc) (he _ hm).2
   have hR:Zo0 w (b.getD j Zbc)=(ZbF w (b.getD j Zbc),Zo3 w (b.getD j Zbc)):=by
     unfold Zo0
     rw [if_neg (fun x=>x (by rw [W.cE];exact (he _ hm).1))]
   rw [hR] at hst
   have hs:Zdk (b,w,y,(j:Int))=some (.inl (b,ZbF w (b.getD j Zbc),y,((j+1:Nat):Int))):=by
     show ZcI _ _ _ _=_
     unfold ZcI
     have a1:(j:Int)<(b.length:Int):=by omega
     have a2:(0:Int)<=(j:Int):=by omega
     simp only [Zaw,a1,a2,if_true,Int.toNat_natCast,hst,hw]
   exact whileM_some.2 (.more _ _ _ hs (whileM_some.1 (Zq0 hC hlo hhi hb he k (j+1) _ (n+1) ro' pa' rt' co' (by omega) W' (by omega))))
end
theorem ZpD {α:Type} {a b:List α} (h:a <+: b) (d:α) {j:Nat} (hj:j<a.length):b.getD j d=a.getD j d:=by
 obtain ⟨r,rfl⟩:=h
 rw [List.getD_eq_getElem?_getD,List.getD_eq_getElem?_getD,List.getElem?_append_left hj]
theorem ZBG {b:List SEntry} {x y:Wld} (h:x.log <+: y.log) (hl:x.log.length<=4294967296):ZgI (b,x,y,0)=some (.inl (b,x,y)):=by
 have hle:=h.length_le
 refine ZbP (step:=Zdl) (fun j=>(b,x,y,(j:Int))) x.log.length (y:=.inl (b,x,y)) (fun j hj=>?_) ?_
 . show ZcL _ _ _ _=_
   unfold ZcL
   have a1:(j:Int)<(x.log.length:Int):=by omega
   have a2:(0:Int)<=(j:Int):=by omega
   have a3:(j:Int)<(y.log.length:Int):=by omega
   simp only [Zaw,a1,a2,a3,if_true,Int.toNat_natCast,ZpD h ZaU hj,beq_self_eq_true,Bool.and_self,Bool.not_true,cond_false]
   rw [Zaz (by omega) (by omega)]
   rfl
 . show ZcL _ _ _ _=_
   unfold ZcL
   simp only [Zaw]
   rw [if_neg (by omega)]
theorem Zy8 {b:List SEntry} {x y:Wld} (h:x.hist <+: y.hist) (hl:x.hist.length<=4294967296):ZgK (b,x,y,0)=some (.inl (b,x,y)):=by
 have hle:=h.length_le
 refine ZbP (step:=Zdm) (fun j=>(b,x,y,(j:Int))) x.hist.length (y:=.inl (b,x,y)) (fun j hj=>?_) ?_
 . show ZcK _ _ _ _=_
   unfold ZcK
   have a1:(j:Int)<(x.hist.length:Int):=by omega
   have a2:(0:Int)<=(j:Int):=by omega
   have a3:(j:Int)<(y.hist.length:Int):=by omega
   simp only [Zaw,a1,a2,a3,if_true,Int.toNat_natCast,ZpD h Za0 hj,beq_self_eq_true,Bool.and_self,Bool.not_true,cond_false]
   rw [Zaz (by omega) (by omega)]
   rfl
 . show ZcK _ _ _ _=_
   unfold ZcK
   simp only [Zaw]
   rw [if_neg (by omega)]
theorem Zrf {c:Config} {b:List SEntry} {y:Int×Int}:∀ {a:List SEntry} {i:Nat},ZeE c i a=some y->ZeE c i (a++b)=some y
 | [],i,h=>by cases h
 | e :: a, i, h => by
   show ZeE c i (e::(a++b))=_
   unfold ZeE at h ⊢
   by_cases h0:ZbC c e=0
   . rw [if_pos h0] at h ⊢;exact Zrf h
   . rw [if_neg h0] at h ⊢;exact h
theorem Zzx {c:Config} {a b:List SEntry} (ha:a.length<=65536) (hl:(a++b).length<=65536) (h:(allE c a).2≠0):(allE c (a++b)).2=(allE c a).2:=by
 unfold allE at h ⊢
 by_cases h0:(Zc8 c).getD 0≠0
 . rw [if_pos h0,if_pos h0]
 . rw [if_neg h0,if_neg (by omega)] at h
   rw [if_neg h0,if_neg h0,if_neg (by omega),if_neg (by omega)]
   cases hb:ZeE c 0 a with
   | none=>rw [hb] at h;exact (h rfl).elim
   | some y=>rw [Zrf hb]
theorem ZpZ (c:Config) (a b:List SEntry) (d:List Int) (o0:(Zap celConfig).Ok c) (o1:(Zau .sentry).Ok a) (o2:(Zau .sentry).Ok b) (o3:(Zau .int).Ok d):ZfE c a b d=some true:=by
 unfold ZfE
 simp only [ZEi,ZDF,Zaw]
 by_cases hb:400<a.length\/200<d.length
 . rw [if_pos hb]
 rw [if_neg hb]
 by_cases hb2:400<b.length\/200<d.length
 . rw [if_pos hb2]
 rw [if_neg hb2]
 simp only [Bool.not_true,cond_false]
 have hc:=ZDu o0
 have ha:=Zpn o1
 have hbn:=Zpn o2
 have hlen:(a++b).length=a.length+b.length:=List.length_append
 rw [Zbm (by omega),Zbm (by omega)]
 simp only [cond_true]
 rcases ZxT (c:=c) (l:=a++b) (d:=d) hc (fun e he=>(List.mem_append.1 he).elim (ha e) (hbn e)) (by omega) (by omega) with ⟨r1,r2⟩ | ⟨y,hy,r1,_,hC,hck,_,By,ro,pa,rt,co,Wy,Ly⟩
 . rcases ZxT (c:=c) (l:=a) (d:=d) hc ha (by omega) (by omega) with ⟨s1,s2⟩ | ⟨x,hx,s1,_,hC,_,_,Bx,ro,pa,rt,co,Wx,Lx⟩
   . rw [r1,s1]
     simp only []
     rw [ZfJ s2,cond_true,ZaW s2,cond_false,Zzx (by omega) (by omega) s2,beq_self_eq_true]
   . rw [r1,s1]
     simp only [bne_self_eq_false,cond_false]
     rw [ZfJ r2,cond_true]
     rfl
 . have hA:∀ e∈a,ZbC c e=0:=fun e he=>hck e (List.mem_append_left _ he)
   have hB:∀ e∈b,ZbC c e=0/\Num e.op.v:=fun e he=>⟨hck e (List.mem_append_right _ he),hbn e he⟩
   rcases ZxT (c:=c) (l:=a) (d:=d) hc ha (by omega) (by omega) with ⟨s1,s2⟩ | ⟨x,hx,s1,_,_,_,_,Bx,ro2,pa2,rt2,co2,Wx,Lx⟩
   . rw [Zsl hC (by omega) hA] at s2
     exact (s2 rfl).elim
   . have hyx:y=b.foldl ZbF x:=by rw [hy,hx,List.foldl_append]
     have hG:Grows x y:=by rw [hyx];exact Grows.entries hC hc.2.1 hc.2.2 Wx (by omega) hB
     have hxl:=Wx.log
     have hxh:=Wx.hist
     have g1:=hG.log.length_le
     have g2:=hG.hist.length_le
     have hsl:=Zq0 hC hc.2.1 hc.2.2 (b:=b) (y:=y) (by omega) hB b.length 0 x a.length ro2 pa2 rt2 co2 (by omega) Wx (by omega)
     rw [List.drop_zero,<- hyx] at hsl
     have eth:Zgh y=some y:=Zvz By.toWSm
     have esm:ZkE (y,y)=some true:=Zx2 By
     rw [r1,s1]
     simp only [bne_self_eq_false,cond_false]
     rw [if_neg (by omega),if_neg (by omega),if_neg (by have:=hG.steps;omega),if_neg (by have:=hG.now;omega),ZBG hG.log (by omega)]
     simp only []
     rw [Zy8 hG.hist (by omega)]
     simp only []
     rw [show ZeK (b,x,y,0)=_ from hsl]
     simp only [eth,esm]
end Go.Proofs.Mill
