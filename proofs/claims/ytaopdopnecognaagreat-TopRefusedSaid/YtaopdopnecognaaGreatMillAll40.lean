/- Parts of the proof: MillQInvN, MillQInvK, MillQInvS, MillQFwd, MillQProg, MillQDead, MillQAlone2, MillQAlone3, MillQMAlone. -/
import Derived.Test.YtaopdopnecognaaGreatMillAll39
set_option linter.all false
/- What is kept: steps that write a node. -/
namespace Go.Proofs.Mill
section
variable {c:Config} {v:Vw} {ro pa rt:Int->Int} {co:Int->Option Int} {t:Int}
theorem Ziy {b:Int->Int->Int} (h:∀ i r,Num (b i r)) {i0 r0 w:Int} (hw:Num w):∀ i r,Num (setb b i0 r0 w i r):=by
 intro i r
 unfold setb
 split
 . exact hw
 . exact h i r
theorem Zyt (I:Inv c v ro pa rt co) (hC:CfgOK c) (ht:InT c t) (p:(v.th t).phase=5) (e:v.b (v.th t).item (v.th t).node=0) :
   Kept c v (put (wB v (v.th t).item (v.th t).node (8*(t+1)+1)) t (Zdf (v.th t))) ro pa rt co t [] false:=by
 have L:=I.loc t ht
 have A:=L.ari
 have hT:=Zdo L.tab (by omega)
 have hl:v.l t=0:=by omega
 have hn:=L.node (by omega)
 have hi:=L.item (by omega)
 have hs:=A.2.2.2.2.1 (by omega)
 have hh:=L.held (by omega)
 have hun:ZaV (v.th t)=(v.th t).held:=ZbX (by omega)
 have hnb:=Zbx c
 have hth:=hC.threads
 have hin:=ht
 unfold InT at hin
 obtain ⟨h',hh'⟩:∃ h',h'=Zdf (v.th t):=⟨_,rfl⟩
 have f1:h'.batch=(v.th t).batch/\h'.kids=(v.th t).kids/\h'.op=(v.th t).op/\h'.item=(v.th t).item/\h'.stop=(v.th t).stop/\h'.x=(v.th t).x/\h'.width=(v.th t).width/\h'.held=(v.th t).held++[(v.th t).node]:=by
   rw [hh'];unfold Zdf;split <;> exact ⟨rfl,rfl,rfl,rfl,rfl,rfl,rfl,rfl⟩
 have f2:(h'.phase=4/\1<=h'.node/\h'.node<(v.th t).node)\/(h'.phase=7/\h'.at_=0):=by
   rw [hh'];unfold Zdf
   split
   . rename_i g;exact .inl ⟨rfl,by show 1<=(v.th t).node / 2;omega,by show (v.th t).node / 2<(v.th t).node;omega⟩
   . refine .inr ⟨?_,rfl⟩
     rcases Zb2 { (v.th t) with phase:=4,held:=(v.th t).held++[(v.th t).node],node:=(v.th t).node / 2,at_:=0 } with g | g
     . exact g.1
     . exfalso
       apply g.1
       show (0:Int)<=0/\(0:Int)<(((v.th t).held++[(v.th t).node]).length:Int)
       rw [List.length_append,List.length_singleton];omega
 obtain ⟨g1,g2,g3,g4,g5,g6,g7,g8⟩:=f1
 have hun':ZaV h'=(v.th t).held++[(v.th t).node]:=by
   rcases f2 with g | g
   . rw [ZbX (by omega),g8]
   . rw [Zbu (by omega),g8,g.2];rfl
 rw [<- hh']
 have hpw:((v.th t).held++[(v.th t).node]).Pairwise (· > ·):=by
   rw [List.pairwise_append]
   exact ⟨hh.1,List.pairwise_singleton _ _,fun a ha b hb=>by rw [List.mem_singleton] at hb;subst hb;exact hn.2 a ha⟩
 have hin2:∀ m∈(v.th t).held++[(v.th t).node],1<=m/\m<=Zaz c:=by
   intro m hm
   rcases List.mem_append.1 hm with hm | hm
   . exact hh.2 m hm
   . rw [List.mem_singleton] at hm;subst hm;exact hn.1
 have hfree:∀ j,InT c j->(v.th j).item=(v.th t).item->(v.th t).node∉ZaV (v.th j):=by
   intro j hj hij hm
   have:=(I.tree.t2 j hj _ hm).1
   rw [hij] at this
   exact this e
 refine Zgj I ht (q:=ro t) (Zkd) g1 g3 g4 (Zd6 g2 (by omega) (by omega)) ⟨by omega,by omega,by omega⟩ (.inl rfl) ?_ ?_ (Ziy I.num.1 (Zbh (by omega))) (I.num.2.1 t)
 . refine ⟨A.mod (by omega) ⟨g4,g5,g2⟩ ?_ (fun k=>by omega) (fun _=>hs) (fun k=>by omega) (fun k=>?_) (fun k=>by omega),fun k=>by omega,L.boxl,fun k=>by omega,by rw [g6];exact L.nx,by rw [g7];exact L.nw,fun _=>?_,fun k=>?_,fun k=>by omega,fun k=>by omega,fun k=>by omega,fun k=>by omega,fun _=>by rw [g1,g2];exact L.kidsN (by omega),fun _=>by rw [g1];exact L.ops (by omega)⟩
   . rw [hT.1,hl];exact Zic (by omega)
   . rw [g8,List.length_append,List.length_singleton];omega
   . rw [g8];exact ⟨hpw,hin2⟩
   . have f3:1<=h'.node/\h'.node<(v.th t).node:=by omega
     refine ⟨by omega,fun m hm=>?_⟩
     rw [g8] at hm
     rcases List.mem_append.1 hm with hm | hm
     . have:=hn.2 m hm;omega
     . rw [List.mem_singleton] at hm;omega
 . rw [seta_same]
   refine I.tree.write ht rfl g4 hn.1 (fun j _=>⟨rfl,rfl⟩) (fun h=>⟨h,rfl⟩) (.inr ⟨t,1,ht,by omega,rfl⟩) ?_ ?_ ?_ ?_ (by omega) (by omega) ?_ ?_ ?_ ?_ (by omega) (by omega)
   . intro j hj hjt hij hm;exact (hfree j hj hij hm).elim
   . intro j hj hjt hb;unfold InT at hj;omega
   . intro j hj hjt hr hb;unfold InT at hj;omega
   . intro j hj hw;omega
   . intro j hj hjt hp hij hm
     have:=(I.tree.t7 j hj hp).2.1
     rw [hij,hm,e] at this
     have:=(I.tree.t7 j hj hp).1
     unfold InT at this
     omega
   . intro m hm
     rw [hun'] at hm
     by_cases em:m=(v.th t).node
     . subst em
       rw [ZeJ]
       exact ⟨by omega,fun h hx=>by omega⟩
     . rw [ZcU (fun x=>em x.2)]
       refine I.tree.t2 t ht m ?_
       rw [hun]
       rcases List.mem_append.1 hm with hm | hm
       . exact hm
       . rw [List.mem_singleton] at hm;exact (em hm).elim
   . intro j m hj hjt hij hm hmj
     rw [hun'] at hm
     rcases List.mem_append.1 hm with hm | hm
     . exact hjt (I.tree.t3 j t m hj ht hij hmj (by rw [hun];exact hm))
     . rw [List.mem_singleton] at hm
       subst hm
       exact hfree j hj hij hmj
   . intro k;rw [g5] at k;omega
theorem Zyd (I:Inv c v ro pa rt co) (hC:CfgOK c) (ht:InT c t) (p:(v.th t).phase=6) (e:v.b (v.th t).item (v.th t).node=(v.th t).x) :
   Kept c v (put (wB v (v.th t).item (v.th t).node (8*(t+1)+2)) t (Zgo { (v.th t) with phase:=4,stop:=(v.th t).node })) ro pa rt co t [] false:=by
 have L:=I.loc t ht
 have A:=L.ari
 have hT:=Zdo L.tab (by omega)
 have hl:v.l t=0:=by omega
 have hn:=L.node (by omega)
 have hi:=L.item (by omega)
 have hh:=L.held (by omega)
 obtain ⟨k0,hk0,hx0⟩:=L.x6 p
 rw [hx0] at e
 unfold InT at hk0
 have hun:ZaV (v.th t)=(v.th t).held:=ZbX (by omega)
 have hth:=hC.threads
 have hin:=ht
 unfold InT at hin
 have hd:=Zb2 { (v.th t) with phase:=4,stop:=(v.th t).node,at_:=0 }
 have hu':=ZgA (h:={ (v.th t) with phase:=4,stop:=(v.th t).node,at_:=0 }) (Int.le_refl 0)
 obtain ⟨h',hh'⟩:∃ h',h'=Zgo { (v.th t) with phase:=4,stop:=(v.th t).node }:=⟨_,rfl⟩
 have hd:(h'.phase=7/\(0:Int)<=0/\0<((v.th t).held.length:Int))\/(¬((0:Int)<=0/\0<((v.th t).held.length:Int))/\((h'.phase=11/\0<(v.th t).node)\/(h'.phase=2/\¬0<(v.th t).node))):=by rw [hh'];exact hd
 have hun':ZaV h'=(v.th t).held:=by rw [hh'];exact hu'
 have f1:h'.batch=(v.th t).batch/\h'.kids=(v.th t).kids/\h'.op=(v.th t).op/\h'.item=(v.th t).item/\h'.stop=(v.th t).node/\h'.x=(v.th t).x/\h'.width=(v.th t).width/\h'.held=(v.th t).held/\h'.at_=0:=by
   rw [hh'];exact ⟨rfl,rfl,rfl,rfl,rfl,rfl,rfl,rfl,rfl⟩
 obtain ⟨g1,g2,g3,g4,g5,g6,g7,g8,g9⟩:=f1
 rw [<- hh']
 have hph:h'.phase=7\/h'.phase=11:=by omega
 have hne:∀ m∈(v.th t).held,m≠(v.th t).node:=fun m hm=>by have:=hn.2 m hm;omega
 refine Zgj I ht (q:=ro t) (Zkd) g1 g3 g4 (Zd6 g2 (by omega) (by omega)) ⟨by omega,by omega,by omega⟩ (.inl rfl) ?_ ?_ (Ziy I.num.1 (Zbh (by omega))) (I.num.2.1 t)
 . refine ⟨?_,fun k=>by omega,L.boxl,fun k=>by omega,by rw [g6];exact L.nx,by rw [g7];exact L.nw,fun _=>by rw [g8];exact hh,fun k=>by omega,fun k=>by omega,fun k=>by omega,fun k=>by omega,fun k=>by omega,fun _=>by rw [g1,g2];exact L.kidsN (by omega),fun _=>by rw [g1];exact L.ops (by omega)⟩
   refine ⟨by rw [hT.1,hl];exact Zic (by omega),fun _=>by rw [g4];exact hi,fun k=>by omega,fun _=>by rw [g5];omega,fun k=>by omega,fun _=>by rw [g5];omega,fun k=>?_,fun k=>by omega⟩
   rw [g8,g9];omega
 . rw [seta_same]
   refine I.tree.write ht rfl g4 hn.1 (fun j _=>⟨rfl,rfl⟩) (fun h=>⟨h,rfl⟩) (.inr ⟨t,2,ht,by omega,rfl⟩) ?_ ?_ ?_ ?_ (by omega) (by omega) ?_ ?_ ?_ ?_ (by omega) (by omega)
   . intro j hj hjt hij hm;exact ⟨by omega,fun h hx=>by omega⟩
   . intro j hj hjt hb;omega
   . intro j hj hjt hr hb;omega
   . intro j hj hw;omega
   . intro j hj hjt hp hij hm
     have:=(I.tree.t7 j hj hp).2.1
     rw [hij,hm,e] at this
     omega
   . intro m hm
     rw [hun'] at hm
     rw [ZcU (fun x=>hne m hm x.2)]
     exact I.tree.t2 t ht m (by rw [hun];exact hm)
   . intro j m hj hjt hij hm hmj
     rw [hun'] at hm
     exact hjt (I.tree.t3 j t m hj ht hij hmj (by rw [hun];exact hm))
   . intro k;rw [g5,ZeJ]
theorem Zsi (I:Inv c v ro pa rt co) (hC:CfgOK c) (ht:InT c t) (p:((v.th t).phase=8/\v.b (v.th t).item (Zbm (v.th t))=8*(t+1)+1)\/(v.th t).phase=10) :
   Kept c v (put (wB v (v.th t).item (Zbm (v.th t)) 0) t (Zk9 (v.th t))) ro pa rt co t [] false:=by
 have L:=I.loc t ht
 have A:=L.ari
 have hT:=Zdo L.tab (by omega)
 have hl:v.l t=0:=by omega
 have hi:=L.item (by omega)
 have hh:=L.held (by omega)
 have ha:=A.2.2.2.2.2.2.1 (by omega)
 have hst:=A.2.2.2.1 (by omega)
 have hun:ZaV (v.th t)=(v.th t).held.drop (v.th t).at_.toNat:=Zbu (by omega)
 have hth:=hC.threads
 have hin:=ht
 unfold InT at hin
 have hnb:=Zbx c
 have hm0:=I.nodes t ht
 have hmem:Zbm (v.th t)∈ZaV (v.th t):=Zf2 (by omega) ha
 have hm1:=hm0.1 _ hmem
 have hlt:(v.th t).at_.toNat<(v.th t).held.length:=by omega
 have hlen:(v.th t).held.length<=15:=by
   have h1:((v.th t).held).Nodup:=hh.1.imp (fun h=>by omega)
   have key:∀ (n:Nat) (l:List Int),l.Pairwise (· > ·)->(∀ x∈l,1<=x/\x<=(n:Int))->l.length<=n:=by
     intro n
     induction n with
     | zero => intro l _ hl; cases l with
       | nil=>simp
       | cons a r=>have:=hl a (List.mem_cons_self ..);omega
     | succ n ih => intro l hp hl; cases l with
       | nil=>simp
       | cons a r =>
         rw [List.pairwise_cons] at hp
         have:=ih r hp.2 (fun x hx=>by
           have h1:=hl x (List.mem_cons_of_mem _ hx)
           have h2:=hp.1 x hx
           have h3:=hl a (List.mem_cons_self ..)
           omega)
         rw [List.length_cons];omega
   exact key 15 _ hh.1 (fun x hx=>by have:=hh.2 x hx;omega)
 have hwr:Zad IntKind.i64 ((v.th t).at_+1)=(v.th t).at_+1:=Zat (by omega) (by omega)
 have hd:=Zb2 { (v.th t) with at_:=Zad IntKind.i64 ((v.th t).at_+1) }
 have hu':=ZgA (h:={ (v.th t) with at_:=Zad IntKind.i64 ((v.th t).at_+1) }) (by show 0<=Zad IntKind.i64 ((v.th t).at_+1);omega)
 obtain ⟨h',hh'⟩:∃ h',h'=Zk9 (v.th t):=⟨_,rfl⟩
 have hd:(h'.phase=7/\0<=Zad IntKind.i64 ((v.th t).at_+1)/\Zad IntKind.i64 ((v.th t).at_+1)<((v.th t).held.length:Int))\/(¬(0<=Zad IntKind.i64 ((v.th t).at_+1)/\Zad IntKind.i64 ((v.th t).at_+1)<((v.th t).held.length:Int))/\((h'.phase=11/\0<(v.th t).stop)\/(h'.phase=2/\¬0<(v.th t).stop))):=by rw [hh'];exact hd
 have hun':ZaV h'=(v.th t).held.drop ((v.th t).at_.toNat+1):=by
   rw [hh']
   refine hu'.trans ?_
   show (v.th t).held.drop (Zad IntKind.i64 ((v.th t).at_+1)).toNat=_
   rw [hwr,show ((v.th t).at_+1).toNat=(v.th t).at_.toNat+1 by omega]
 have f1:h'.batch=(v.th t).batch/\h'.kids=(v.th t).kids/\h'.op=(v.th t).op/\h'.item=(v.th t).item/\h'.stop=(v.th t).stop/\h'.x=(v.th t).x/\h'.width=(v.th t).width/\h'.held=(v.th t).held/\h'.at_=(v.th t).at_+1:=by
   rw [hh'];exact ⟨rfl,rfl,rfl,rfl,rfl,rfl,rfl,rfl,hwr⟩
 obtain ⟨g1,g2,g3,g4,g5,g6,g7,g8,g9⟩:=f1
 rw [hwr] at hd
 rw [<- hh']
 have hdrop:(v.th t).held.drop (v.th t).at_.toNat=Zbm (v.th t)::(v.th t).held.drop ((v.th t).at_.toNat+1):=by
   rw [List.drop_eq_getElem_cons hlt]
   unfold Zbm
   rw [List.getD_eq_getElem?_getD,List.getElem?_eq_getElem hlt]
   rfl
 have hpd:((v.th t).held.drop (v.th t).at_.toNat).Pairwise (· > ·):=hh.1.sublist (List.drop_sublist _ _)
 rw [hdrop,List.pairwise_cons] at hpd
 have hsub:∀ m∈(v.th t).held.drop ((v.th t).at_.toNat+1),m∈ZaV (v.th t)/\m≠Zbm (v.th t):=by
   intro m hm
   refine ⟨by rw [hun,hdrop];exact List.mem_cons_of_mem _ hm,?_⟩
   have:=hpd.1 m hm
   omega
 have hw0:∀ P:Prop,(v.b (v.th t).item (Zbm (v.th t))=8*(t+1)+1->P)->(∀ q,InT c q->ro q=5->v.b (v.th t).item (Zbm (v.th t))=8*(q+1)+3->P)->P:=by
   intro P h1 h2
   rcases p with p | p
   . exact h1 p.2
   . obtain ⟨a,b,d⟩:=I.tree.t7 t ht (.inr p)
     exact h2 _ a (d p).1 b
 have hph:h'.phase=7\/h'.phase=11\/h'.phase=2:=by omega
 refine Zgj I ht (q:=ro t) (Zkd) g1 g3 g4 (Zd6 g2 (by omega) (by omega)) ⟨by omega,by omega,by omega⟩ (.inl rfl) ?_ ?_ (Ziy I.num.1 (Zbh (by decide))) (I.num.2.1 t)
 . refine L.mod ⟨g1,g2,g8⟩ (by omega) (A.mod (by omega) ⟨g4,g5,g2⟩ ?_ (fun k=>by omega) (fun k=>by omega) (fun k=>by omega) (fun k=>?_) (fun k=>by omega)) (fun k=>by omega) L.boxl (fun k=>by omega) (by rw [g6];exact L.nx) (by rw [g7];exact L.nw) (fun k=>by omega) (fun k=>by omega) (by omega) (fun k=>by omega) (fun k=>k)
   . rw [hT.1,hl];exact Zic (by omega)
   . rw [g8,g9];omega
 . rw [seta_same]
   refine I.tree.write ht rfl g4 hm1 (fun j _=>⟨rfl,rfl⟩) (fun h=>⟨h,rfl⟩) (.inl rfl) ?_ ?_ ?_ ?_ (by omega) (fun _=>rfl) ?_ ?_ ?_ ?_ (by omega) (by omega)
   . intro j hj hjt hij hm;exact (hjt (I.tree.t3 j t _ hj ht hij hm hmem)).elim
   . intro j hj hjt hb
     exact hw0 _ (fun a=>by omega) (fun q _ _ a=>by omega)
   . intro j hj hjt hr hb
     refine hw0 _ (fun a=>by omega) (fun q _ b a=>?_)
     have:q=j:=by omega
     rw [this] at b;omega
   . intro j hj hw;unfold InT at hj;omega
   . intro j hj hjt hp hij hm
     have hpj:7<=(v.th j).phase/\(v.th j).phase<=10:=by omega
     have hmj:=Zf2 hpj ((I.loc j hj).ari.2.2.2.2.2.2.1 hpj)
     rw [hm] at hmj
     exact hjt (I.tree.t3 j t _ hj ht hij hmj hmem)
   . intro m hm
     rw [hun'] at hm
     obtain ⟨a,b⟩:=hsub m hm
     rw [ZcU (fun x=>b x.2)]
     exact I.tree.t2 t ht m a
   . intro j m hj hjt hij hm hmj
     rw [hun'] at hm
     exact hjt (I.tree.t3 j t m hj ht hij hmj (hsub m hm).1)
   . intro k
     rw [g5] at k ⊢
     have old:=I.tree.t4 t ht ⟨by omega,by omega,k.2.2⟩
     rw [ZcU]
     . exact old
     . intro x
       rw [x.2] at old
       exact hw0 _ (fun a=>by omega) (fun q _ _ a=>by omega)
theorem ZzR (I:Inv c v ro pa rt co) (hC:CfgOK c) (ht:InT c t) (p:(v.th t).phase=12) :
   Kept c v (put (wB v (v.th t).item (v.th t).stop (8*(t+1)+3)) t { (v.th t) with phase:=13 }) ro pa rt co t [] false:=by
 have L:=I.loc t ht
 have A:=L.ari
 have hT:=Zdo L.tab (by omega)
 have hl:v.l t=0:=by omega
 have hst:=A.2.2.2.1 (by omega)
 have hs1:=A.2.2.2.2.2.1 (by omega)
 have hbox:=L.box (.inr ⟨hT.1,by omega⟩)
 have hold:=I.tree.t4 t ht ⟨by omega,by omega,by omega⟩
 have hin:=ht
 unfold InT at hin
 have hth:=hC.threads
 refine Zgj I ht (q:=2) (Zkd) rfl rfl rfl (Zd6 rfl (by omega) (by dsimp only;omega)) (by dsimp only;omega) (.inr (by omega)) ?_ ?_ (Ziy I.num.1 (Zbh (by omega))) (I.num.2.1 t)
 . refine L.mod ⟨rfl,rfl,rfl⟩ (by omega) (A.mod (by omega) ⟨rfl,rfl,rfl⟩ ?_ ?_ ?_ ?_ ?_ ?_) (fun _=>hbox) L.boxl ?_ L.nx L.nw ?_ ?_ ?_ ?_ ?_
   . rw [hl];exact .inr (.inr (.inl ⟨rfl,rfl,rfl⟩))
   all_goals try dsimp only
   all_goals first | omega | (intro k;omega)
 . refine I.tree.write ht rfl rfl ⟨hs1,hst.2⟩ (fun j hj=>⟨Zaf hj,rfl⟩) (fun h=>by omega) (.inr ⟨t,3,ht,by omega,rfl⟩) ?_ ?_ ?_ ?_ (by omega) (by omega) ?_ ?_ ?_ ?_ ?_ (by dsimp only;omega)
   . intro j hj hjt hij hm;exact ⟨by omega,fun h hx=>by omega⟩
   . intro j hj hjt hb;omega
   . intro j hj hjt hr hb;omega
   . intro j hj hw;exact ⟨by omega,Zag,rfl⟩
   . intro j hj hjt hp hij hm
     have:=(I.tree.t7 j hj hp).2.1
     rw [hij,hm,hold] at this
     omega
   . intro m hm;rw [ZaF (by dsimp only;omega)] at hm;cases hm
   . intro j m hj hjt hij hm hmj;rw [ZaF (by dsimp only;omega)] at hm;cases hm
   . dsimp only;omega
   . intro _;exact ZeJ
theorem ZrN (I:Inv c v ro pa rt co) (hC:CfgOK c) (ht:InT c t) {r:Int} {h':Thread} (hr:Zaz c<r) (p:(v.th t).phase=19)
   (e:h'.batch=(v.th t).batch/\h'.kids=(v.th t).kids/\h'.held=(v.th t).held/\h'.op=(v.th t).op/\h'.item=(v.th t).item/\h'.stop=(v.th t).stop)
   (e2:h'.layer=(v.th t).layer/\h'.x=(v.th t).x/\h'.width=(v.th t).width) (p':h'.phase=20\/h'.phase=23):Kept c v (put (wB v (v.th t).item r (t+1)) t h') ro pa rt co t [] false:=by
 have L:=I.loc t ht
 have hro:(ro t=3\/ro t=4\/ro t=5\/ro t=6):=by
   have:=Zt8 L.tab (.inl p)
   clear p p'
   omega
 have hin:=ht
 unfold InT at hin
 have hth:=hC.threads
 have hly:=L.ari.2.2.1 (by omega)
 have he:ZbA h'=ZbA (v.th t):=by unfold ZbA;rw [e.2.2.2.2.1,e2.1]
 have hT:Tab (ro t) h'.phase (v.l t) (ZbA h'):=by rw [he];exact ZxH L.tab (.inl p) (.inl (by omega))
 have hu:ZaV h'=ZaV (v.th t):=by rw [ZaF (by omega),ZaF (by omega)]
 refine Zgj I ht (q:=ro t) (Zkd) e.1 e.2.2.2.1 e.2.2.2.2.1 (Zd6 e.2.1 (by omega) (by omega)) (by omega) (.inl rfl) ?_ ?_ (Ziy I.num.1 (Zbh (by omega))) (I.num.2.1 t)
 . exact L.mod ⟨e.1,e.2.1,e.2.2.1⟩ (by omega) (L.ari.mod (by omega) ⟨e.2.2.2.2.1,e.2.2.2.2.2,e.2.1⟩ hT (fun _=>by rw [e2.1];exact hly) (fun k=>by omega) (fun k=>by omega) (fun k=>by omega) (fun k=>by omega)) (fun k=>L.box (by omega)) L.boxl (fun k=>by omega) (by rw [e2.2.1];exact L.nx) (by rw [e2.2.2];exact L.nw) (fun k=>by omega) (fun k=>by omega) (by omega) (fun k=>by omega) (fun k=>k)
 . refine I.treeSame (fun i m h1 h2=>ZcU (fun x=>by omega)) (ZcV e.2.2.2.2.1 e.2.2.2.2.2 (by omega) hu) (by omega) (by omega) (by omega)
end
end Go.Proofs.Mill
/- What is kept: steps that take, that commit, that tell. -/
namespace Go.Proofs.Mill
section
variable {c:Config} {b:Int->Int->Int} {th:Int->Thread} {ro pa ro' pa':Int->Int} {t:Int} {h':Thread}
theorem Tree.see (T:Tree c b th ro pa) (ht:InT c t) (hd:td h'=td (th t)) (hp:(th t).phase≠10) (hr:∀ j,ro' j=2->ro j=2)
   (h6:∀ j,InT c j->ro j=2->ro' j≠2->h'.phase=10/\(th j).item=h'.item/\Zbm h'=(th j).stop)
   (h7:h'.phase=9\/h'.phase=10->InT c h'.who/\b h'.item (Zbm h')=8*(h'.who+1)+3/\(h'.phase=10->ro' h'.who=5/\pa' h'.who=t))
   (h5:∀ j k,j≠t->(th j).phase=10->ro k=5/\pa k=j->ro' k=5/\pa' k=j):Tree c b (seta th t h') ro' pa':=by
 have e:∀ j,td (seta th t h' j)=td (th j):=fun j=>by
   by_cases e:j=t
   . subst e;rw [Zag];exact hd
   . rw [Zaf e]
 refine ⟨T.t1,fun j hj m hm=>?_,fun j k m hj hk hi h1 h2=>?_,fun j hj hp=>?_,fun j hj hr2=>?_,fun i m j a1 a2 a3 a4 hj hD=>?_,fun j hj hpj=>?_⟩
 . rw [Zhl (e j)] at hm
   rw [ZdF (e j)]
   exact T.t2 j hj m hm
 . rw [Zhl (e j)] at h1
   rw [Zhl (e k)] at h2
   rw [ZdF (e j),ZdF (e k)] at hi
   exact T.t3 j k m hj hk hi h1 h2
 . rw [ZdF (e j),ZhA (e j)]
   exact T.t4 j hj ((Zor (e j)).1 hp)
 . rw [ZdF (e j),ZhA (e j)]
   exact T.t5 j hj (hr j hr2)
 . rcases T.t6 i m j a1 a2 a3 a4 hj hD with ⟨x,y,z⟩ | ⟨h,hh,x,y,z⟩
   . by_cases q:ro' j=2
     . exact .inl ⟨q,by rw [ZdF (e j)];exact y,by rw [ZhA (e j)];exact z⟩
     . obtain ⟨u1,u2,u3⟩:=h6 j hj x q
       exact .inr ⟨t,ht,by rw [Zag,<- u2];exact y,by rw [Zag];exact u1,by rw [Zag,u3];exact z⟩
   . have ne:h≠t:=by intro ne;rw [ne] at y;exact hp y
     exact .inr ⟨h,hh,by rw [Zaf ne];exact ⟨x,y,z⟩⟩
 . by_cases ne:j=t
   . subst ne
     rw [Zag] at hpj ⊢
     exact h7 hpj
   . rw [Zaf ne] at hpj ⊢
     obtain ⟨x,y,z⟩:=T.t7 j hj hpj
     exact ⟨x,y,fun p10=>h5 j _ ne p10 (z p10)⟩
end
section
variable {c:Config} {v:Vw} {ro pa rt:Int->Int} {co:Int->Option Int} {t:Int}
theorem Zyv (I:Inv c v ro pa rt co) (hC:CfgOK c) (ht:InT c t) (p:(v.th t).phase=7) (k:Zb1 (v.b (v.th t).item (Zbm (v.th t)))=3) :
   Kept c v (put v t { (v.th t) with phase:=9,who:=v.b (v.th t).item (Zbm (v.th t)) / 8-1 }) ro pa rt co t [] false:=by
 have L:=I.loc t ht
 have A:=L.ari
 have hT:=Zdo L.tab (by omega)
 have hl:v.l t=0:=by omega
 have hi:=L.item (by omega)
 have ha:=A.2.2.2.2.2.2.1 (by omega)
 have hm:=(I.nodes t ht).1 _ (Zf2 (by omega) ha)
 obtain ⟨w1,w2⟩:=ZxO I hC hi.1 hi.2 hm.1 hm.2 k
 have hu:ZaV { (v.th t) with phase:=9,who:=v.b (v.th t).item (Zbm (v.th t)) / 8-1 }=ZaV (v.th t):=by rw [Zbu (by dsimp only;omega),Zbu (by omega)]
 refine Zgj I ht (q:=ro t) ZAW rfl rfl rfl (Zd6 rfl (by omega) (by dsimp only;omega)) (by dsimp only;omega) (.inl rfl)
   (L.mod ⟨rfl,rfl,rfl⟩ (by omega) (A.mod (by omega) ⟨rfl,rfl,rfl⟩ ?_ ?_ ?_ ?_ (fun _=>ha) ?_) ?_ L.boxl ?_ L.nx L.nw ?_ ?_ ?_ ?_ ?_) ?_ I.num.1 (I.num.2.1 t)
 . rw [hT.1,hl];exact Zic (by dsimp only;omega)
 . dsimp only;omega
 . dsimp only;omega
 . dsimp only;omega
 . dsimp only;omega
 . dsimp only;omega
 . dsimp only;omega
 . dsimp only;intro k;omega
 . dsimp only;intro k;omega
 . dsimp only;omega
 . intro k;omega
 . intro k;omega
 . rw [seta_same]
   refine I.tree.see ht (ZcV rfl rfl (by dsimp only;omega) hu) (by omega) (fun j h=>h) (fun j hj h1 h2=>(h2 h1).elim) (fun _=>⟨w1,w2,fun x=>?_⟩) (fun j k' _ _ h=>h)
   have x:(9:Int)=10:=x
   omega
theorem Zxa {h h':Thread} (p:h.phase≠0/\h.phase≠15/\h.phase≠16) (p':h'.phase≠0/\h'.phase≠15/\h'.phase≠16) {k:Kid} (e:h'.kids=h.kids++[k]):ZaP h'=ZaP h++[k]:=by
 unfold ZaP
 rw [if_neg p'.1,if_neg (show ¬(h'.phase=15\/h'.phase=16) by omega),if_neg p.1,if_neg (show ¬(h.phase=15\/h.phase=16) by omega),e]
theorem ZBz {ro p l o:Int} (T:Tab ro p l o) (h:ro=2\/ro=4):Tab 5 p l o/\p≠11/\p≠12:=by
 have key:(p=13\/p=19\/p=20\/p=23\/p=26)/\l=0:=by unfold Tab at T;omega
 exact ⟨.inr (.inr (.inr (.inr (.inl ⟨.inr rfl,key.1,key.2⟩)))),by omega,by omega⟩
theorem Inv.taken (I:Inv c v ro pa rt co) (hC:CfgOK c) (ht:InT c t) {q:Int} {h':Thread} (hq:InT c q) (hr:ro t=1) (hi:(v.th t).item=(v.th q).item)
   (p:(v.th t).phase=9/\h'.phase=10/\ro q=2\/(v.th t).phase=22/\h'.phase=25/\(v.th t).who=q/\ro q=4)
   (e:h'.batch=(v.th t).batch++(v.th q).batch/\h'.kids=(v.th t).kids++[⟨q,(v.th t).batch.length⟩]/\h'.held=(v.th t).held/\h'.op=(v.th t).op/\h'.item=(v.th t).item/\h'.stop=(v.th t).stop)
   (e2:h'.at_=(v.th t).at_/\h'.x=(v.th t).x/\h'.width=(v.th t).width/\h'.layer=(v.th t).layer)
   (hT:Tree c v.b (seta v.th t h') (seta ro q 5) (seta pa q t)):Kept c v (put v t h') ro pa rt co t [] false:=by
 obtain ⟨e1,e3,e4,e5,e6,e7⟩:=e
 have hrq:ro q=2\/ro q=4:=by omega
 have hqt:q≠t:=by intro x;subst x;omega
 have L:=I.loc t ht
 have Lq:=I.loc q hq
 have A:=L.ari
 have hp1:(v.th t).phase≠0/\(v.th t).phase≠15/\(v.th t).phase≠16/\(v.th t).phase≠1/\((1<=(v.th t).phase/\(v.th t).phase<=12)\/(v.th t).phase=22):=by clear hrq;omega
 have hp2:h'.phase≠0/\h'.phase≠1/\h'.phase≠3/\h'.phase≠15/\h'.phase≠16/\h'.phase≠22/\(h'.phase=10\/h'.phase=25):=by clear hrq hp1;omega
 have hp3:(17<=h'.phase->17<=(v.th t).phase)/\(h'.phase<=10->7<=(v.th t).phase/\(v.th t).phase<=10):=by clear hrq hp1 hp2;omega
 have hTa:=Zdo L.tab (hp1.2.2.2.2.imp id (fun x=>.inr (.inr (.inr (.inl x)))))
 have hl:v.l t=0:=hTa.2.elim id (fun x=>(hp1.2.2.2.1 x.1).elim)
 have hrq0:ro q≠0:=by clear p hp1 hp2 hp3;omega
 have hqp:(v.th q).phase≠0:=fun x=>hrq0 ((I.busy hq).2 x)
 have hC2:=I.core.take hr hrq hi
 have c1:(fun j=>(seta v.th t h' j).batch)=seta (fun j=>(v.th j).batch) t ((v.th t).batch++(v.th q).batch):=by
   funext j;unfold seta;split
   . exact e1
   . rfl
 have c2:(fun j=>ZaP (seta v.th t h' j))=seta (fun j=>ZaP (v.th j)) t (ZaP (v.th t)++[⟨q,(v.th t).batch.length⟩]):=by
   funext j;unfold seta;split
   . exact Zxa ⟨hp1.1,hp1.2.1,hp1.2.2.1⟩ ⟨hp2.1,hp2.2.2.2.1,hp2.2.2.2.2.1⟩ e3
   . rfl
 have c3:(fun j=>(seta v.th t h' j).op)=fun j=>(v.th j).op:=by
   funext j;unfold seta;split
   . rename_i x;rw [x];exact e5
   . rfl
 have c4:(fun j=>(seta v.th t h' j).item)=fun j=>(v.th j).item:=by
   funext j;unfold seta;split
   . rename_i x;rw [x];exact e6
   . rfl
 have c4':∀ j,(seta v.th t h' j).item=(v.th j).item:=fun j=>congrFun c4 j
 refine ⟨seta ro q 5,seta pa q t,fun j=>if ro j≠0/\co j=none/\rt j=q then t else rt j,co,?_,.inl ⟨rfl,rfl⟩,fun h=>by cases h⟩
 rw [if_neg (by decide)]
 refine ⟨?_,fun j hj=>?_,fun j hj=>?_,fun s hs1 hs2=>?_,fun s hs1 hs2=>?_,hT,I.num⟩
 . show Core c (fun j=>(seta v.th t h' j).batch) (fun j=>ZaP (seta v.th t h' j)) (fun j=>(seta v.th t h' j).op) (fun j=>(seta v.th t h' j).item) _ _ _ _
   rw [c1,c2,c3,c4]
   exact hC2
 . show LocT c (seta v.th t h' j) (v.l j) (v.r j) (v.bx j) (seta ro q 5 j) (co j)
   by_cases x:j=t
   . subst x
     rw [Zag,Zaf (Ne.symm hqt),hr]
     have hll:=L.kidsN hp1.1
     have hlq:=Lq.kidsN hqp
     have hheld:=L.held hp1.1
     have hops:=L.ops hp1.1
     have hlen:h'.kids.length+1<=h'.batch.length:=by
       rw [e1,e3,List.length_append,List.length_append,List.length_singleton];clear p hp1 hp2 hp3 hrq;omega
     have hops':∀ en∈h'.batch,Num en.op.v:=by
       rw [e1]
       intro en hen
       rcases List.mem_append.1 hen with hen | hen
       . exact hops en hen
       . exact Lq.ops hqp en hen
     have hari:Ari c h' (v.l j) 1:=by
       obtain ⟨a1,a2,a3,a4,a5,a6,a7,a8⟩:=A
       refine ⟨by rw [hl];exact Zic (by have:=hp2.2.2.2.2.2.2;clear p hp1 hp2 hp3 hrq a5 a6 a7 a8 a3 a2;omega),fun _=>by rw [e6];exact a2 hp1.1,fun k=>by rw [e2.2.2.2];exact a3 (hp3.1 k),fun _=>by rw [e7];exact a4 hp1.1,fun k=>?_,fun k=>?_,fun k=>by rw [e2.1,e4];exact a7 (hp3.2 k.2),fun k=>?_⟩
       . clear p hp1 hp3 hrq a5 a6 a7 a8 a3 a2;omega
       . clear p hp1 hp3 hrq a5 a6 a7 a8 a3 a2;omega
       . clear p hp1 hp3 hrq a5 a6 a7 a8 a3 a2;omega
     have hs:h'.phase=10\/h'.phase=25:=hp2.2.2.2.2.2.2
     clear p hp1 hp3 hrq hll hlq
     exact ⟨hari,fun k=>by omega,L.boxl,fun k=>by omega,by rw [e2.2.1];exact L.nx,by rw [e2.2.2.1];exact L.nw,fun _=>by rw [e4];exact hheld,fun k=>by omega,fun k=>by omega,fun k=>by omega,fun k=>by omega,fun k=>by omega,fun _=>hlen,fun _=>hops'⟩
   . rw [Zaf x]
     by_cases y:j=q
     . subst y
       rw [Zag]
       obtain ⟨a1,a2,a3,a4,a5,a6,a7,a8⟩:=Lq.ari
       obtain ⟨hT2,hph⟩:=ZBz a1 hrq
       refine ⟨⟨hT2,a2,a3,a4,a5,fun k=>?_,a7,a8⟩,fun k=>k.elim (fun x=>absurd x (by decide)) (fun x=>absurd x.1 (by decide)),Lq.boxl,Lq.y,Lq.nx,Lq.nw,Lq.held,Lq.node,Lq.x6,Lq.one,fun k=>absurd k (by decide),fun k=>absurd k (by decide),Lq.kidsN,Lq.ops⟩
       rcases k with k | k | k
       . exact (hph.1 k).elim
       . exact (hph.2 k).elim
       . exact absurd k (by decide)
     . rw [Zaf y];exact I.loc j hj
 . have y:j≠q:=by intro y;subst y;rw [Zag] at hj;exact absurd hj (by decide)
   rw [Zaf y] at hj
   obtain ⟨a,b,d,f⟩:=I.pnd1 j hj
   show InT c (seta pa q t j)/\(seta v.th t h' (seta pa q t j)).phase=22/\(seta v.th t h' (seta pa q t j)).who=j/\(seta v.th t h' (seta pa q t j)).item=(seta v.th t h' j).item
   rw [Zaf y,c4',c4']
   have x:pa j≠t:=by
     intro x
     rw [x] at b d
     rcases p with p | p
     . omega
     . exact y (by rw [<- d];exact p.2.2.1)
   rw [Zaf x]
   exact ⟨a,b,d,f⟩
 . have hs2:(seta v.th t h' s).phase=22:=hs2
   have x:s≠t:=by intro x;rw [x,Zag] at hs2;exact hp2.2.2.2.2.2.1 hs2
   rw [Zaf x] at hs2
   show seta ro q 5 (seta v.th t h' s).who=4/\seta pa q t (seta v.th t h' s).who=s
   rw [Zaf x]
   obtain ⟨a,b⟩:=I.pnd2 s hs1 hs2
   have y:(v.th s).who≠q:=by
     intro y
     rw [y] at a b
     rcases p with p | p
     . omega
     . have:=(I.pnd2 t ht p.1).2
       rw [p.2.2.1,b] at this
       exact x this
   rw [Zaf y,Zaf y]
   exact ⟨a,b⟩
 . have hs2:(seta v.th t h' s).phase=16:=hs2
   have x:s≠t:=by intro x;rw [x,Zag] at hs2;exact hp2.2.2.2.2.1 hs2
   rw [Zaf x] at hs2
   show co (kidH (seta v.th t h' s)).t=some (v.r (kidH (seta v.th t h' s)).t)
   rw [Zaf x]
   exact I.r16 s hs1 hs2
theorem Zv4 (I:Inv c v ro pa rt co) (hC:CfgOK c) (ht:InT c t) (p:(v.th t).phase=9) :
   Kept c v (put v t { (v.th t) with batch:=(v.th t).batch++v.bx (v.th t).who,kids:=(v.th t).kids++[⟨(v.th t).who,(v.th t).batch.length⟩],phase:=10 }) ro pa rt co t [] false:=by
 have L:=I.loc t ht
 have A:=L.ari
 have hT:=Zdo L.tab (by omega)
 have hi:=L.item (by omega)
 have ha:=A.2.2.2.2.2.2.1 (by omega)
 have hmem:=Zf2 (h:=v.th t) (by omega) ha
 have hm:=(I.nodes t ht).1 _ hmem
 obtain ⟨w1,w2,_⟩:=I.tree.t7 t ht (.inl p)
 have h6:ro (v.th t).who=2/\(v.th (v.th t).who).item=(v.th t).item/\(v.th (v.th t).who).stop=Zbm (v.th t):=by
   rcases I.tree.t6 _ _ _ hi.1 hi.2 hm.1 hm.2 w1 w2 with x | ⟨h,hh,x,y,z⟩
   . exact x
   . exfalso
     have hmh:=Zf2 (h:=v.th h) (by omega) ((I.loc h hh).ari.2.2.2.2.2.2.1 (by omega))
     rw [z] at hmh
     have:=I.tree.t3 h t _ hh ht x hmh hmem
     subst this
     omega
 have Lq:=I.loc _ w1
 have hbox:=Lq.box (.inl (by omega))
 rw [hbox]
 have hqt:(v.th t).who≠t:=by intro x;rw [x] at h6;omega
 have hu:ZaV { (v.th t) with batch:=(v.th t).batch++(v.th (v.th t).who).batch,kids:=(v.th t).kids++[⟨(v.th t).who,(v.th t).batch.length⟩],phase:=10 }=ZaV (v.th t):=by rw [Zbu (by dsimp only;omega),Zbu (by omega)]
 refine I.taken hC ht w1 hT.1 h6.2.1.symm (.inl ⟨p,rfl,h6.1⟩) ⟨rfl,rfl,rfl,rfl,rfl,rfl⟩ ⟨rfl,rfl,rfl,rfl⟩ ?_
 refine I.tree.see ht (ZcV rfl rfl (by dsimp only;omega) hu) (by omega) (fun j h=>?_) (fun j hj h1 h2=>?_) (fun _=>⟨w1,w2,fun _=>⟨Zag,Zag⟩⟩) (fun j k hj hp h=>?_)
 . by_cases x:j=(v.th t).who
   . rw [x,Zag] at h;omega
   . rw [Zaf x] at h;exact h
 . by_cases x:j=(v.th t).who
   . rw [x];exact ⟨rfl,h6.2.1,h6.2.2.symm⟩
   . rw [Zaf x] at h2;exact (h2 h1).elim
 . have x:k≠(v.th t).who:=by intro x;rw [x] at h;omega
   rw [Zaf x,Zaf x];exact h
theorem Zvi (I:Inv c v ro pa rt co) (hC:CfgOK c) (ht:InT c t) (p:(v.th t).phase=22) (hw:InT c (v.th t).who) :
   Kept c v (put v t { (v.th t) with batch:=(v.th t).batch++v.bx (v.th t).who,kids:=(v.th t).kids++[⟨(v.th t).who,(v.th t).batch.length⟩],phase:=25 }) ro pa rt co t [] false:=by
 have L:=I.loc t ht
 have hT:=Zdo L.tab (by omega)
 obtain ⟨q1,q2⟩:=I.pnd2 t ht p
 obtain ⟨_,_,_,q3⟩:=I.pnd1 _ q1
 rw [q2] at q3
 have Lq:=I.loc _ hw
 rw [Lq.box (.inl (by omega))]
 refine I.taken hC ht hw hT.1 q3 (.inr ⟨p,rfl,rfl,q1⟩) ⟨rfl,rfl,rfl,rfl,rfl,rfl⟩ ⟨rfl,rfl,rfl,rfl⟩ ?_
 have hu:ZaV { (v.th t) with batch:=(v.th t).batch++(v.th (v.th t).who).batch,kids:=(v.th t).kids++[⟨(v.th t).who,(v.th t).batch.length⟩],phase:=25 }=ZaV (v.th t):=by rw [ZaF (by dsimp only;omega),ZaF (by omega)]
 refine I.tree.see ht (ZcV rfl rfl (by dsimp only;omega) hu) (by omega) (fun j h=>?_) (fun j hj h1 h2=>?_) (fun k=>?_) (fun j k hj hp h=>?_)
 . by_cases x:j=(v.th t).who
   . rw [x,Zag] at h;omega
   . rw [Zaf x] at h;exact h
 . by_cases x:j=(v.th t).who
   . rw [x] at h1;omega
   . rw [Zaf x] at h2;exact (h2 h1).elim
 . dsimp only at k;omega
 . have x:k≠(v.th t).who:=by intro x;rw [x] at h;omega
   rw [Zaf x,Zaf x];exact h
theorem Zzt (I:Inv c v ro pa rt co) (hC:CfgOK c) (ht:InT c t) (p:(v.th t).phase=21) (hw:InT c (v.th t).who) (e:v.l (v.th t).who=ZbA (v.th t)) :
   Kept c v (put (wL v (v.th t).who 0) t { (v.th t) with phase:=22 }) ro pa rt co t [] false:=by
 have L:=I.loc t ht
 have A:=L.ari
 have hT:=Zdo L.tab (by omega)
 have hl:v.l t=0:=by omega
 have ho:=I.opn hC ht (by omega)
 have Lq:=I.loc _ hw
 obtain ⟨q,hqe⟩:∃ q,q=(v.th t).who:=⟨_,rfl⟩
 rw [<- hqe] at hw e Lq ⊢
 have hqt:q≠t:=by intro x;rw [x] at e;omega
 have hr3:ro q=3/\v.l q=ZbA (v.th q)/\((v.th q).phase=19\/(v.th q).phase=20\/(v.th q).phase=23\/(v.th q).phase=26):=by
   have:=Lq.tab
   unfold Tab at this
   omega
 have hit:(v.th t).item=(v.th q).item:=by
   have h1:=A.2.2.1 (by omega)
   have h2:=Lq.ari.2.2.1 (by omega)
   have hcl:=hC.layers
   have h3:ZbA (v.th t)=ZbA (v.th q):=by rw [<- e];exact hr3.2.1
   unfold ZbA at h3
   omega
 have c0:∀ {α:Type} (f:Thread->α),f { (v.th t) with phase:=22 }=f (v.th t)->(fun j=>f (seta v.th t { (v.th t) with phase:=22 } j))=fun j=>f (v.th j):=by
   intro α f hf
   funext j;unfold seta;split
   . rename_i x;rw [x];exact hf
   . rfl
 have hit':∀ j,(seta v.th t { (v.th t) with phase:=22 } j).item=(v.th j).item:=fun j=>congrFun (c0 (fun h=>h.item) rfl) j
 have r4:∀ j,j≠q->seta ro q 4 j=ro j:=fun j hj=>Zaf hj
 refine ⟨seta ro q 4,seta pa q t,rt,co,?_,.inl ⟨rfl,rfl⟩,fun h=>by cases h⟩
 rw [if_neg (by decide)]
 refine ⟨?_,fun j hj=>?_,fun j hj=>?_,fun s hs1 hs2=>?_,fun s hs1 hs2=>?_,?_,I.num.1,fun j=>?_,I.num.2.2⟩
 . show Core c (fun j=>(seta v.th t { (v.th t) with phase:=22 } j).batch) (fun j=>ZaP (seta v.th t { (v.th t) with phase:=22 } j)) (fun j=>(seta v.th t { (v.th t) with phase:=22 } j).op) (fun j=>(seta v.th t { (v.th t) with phase:=22 } j).item) _ _ _ _
   rw [c0 (fun h=>h.batch) rfl,c0 ZaP (Zd6 rfl (by omega) (by dsimp only;omega)),c0 (fun h=>h.op) rfl,c0 (fun h=>h.item) rfl]
   refine I.core.roles (fun j=>?_) (fun j h5=>?_)
   . by_cases x:j=q
     . subst x;rw [Zag];omega
     . rw [Zaf x];exact .inl rfl
   . have x:j≠q:=by intro x;subst x;omega
     exact Zaf x
 . show LocT c (seta v.th t { (v.th t) with phase:=22 } j) (seta v.l q 0 j) (v.r j) (v.bx j) (seta ro q 4 j) (co j)
   by_cases x:j=t
   . subst x
     rw [Zag,Zaf (Ne.symm hqt),Zaf (Ne.symm hqt)]
     refine L.mod ⟨rfl,rfl,rfl⟩ (by omega) (A.mod (by omega) ⟨rfl,rfl,rfl⟩ ?_ (fun _=>A.2.2.1 (by omega)) ?_ ?_ ?_ ?_) ?_ L.boxl ?_ L.nx L.nw ?_ ?_ ?_ ?_ ?_
     . rw [hT.1,hl];exact Zic (by dsimp only;omega)
     all_goals try dsimp only
     all_goals first | omega | (intro k;omega)
   . rw [Zaf x]
     by_cases y:j=q
     . subst y
       rw [Zag,Zag]
       obtain ⟨a1,a2,a3,a4,a5,a6,a7,a8⟩:=Lq.ari
       refine ⟨⟨.inr (.inr (.inr (.inr (.inl ⟨.inl rfl,.inr hr3.2.2,rfl⟩)))),a2,a3,a4,a5,fun k=>by omega,a7,a8⟩,fun _=>Lq.box (.inl (by omega)),Lq.boxl,Lq.y,Lq.nx,Lq.nw,Lq.held,Lq.node,Lq.x6,Lq.one,fun k=>by omega,fun k=>by omega,Lq.kidsN,Lq.ops⟩
     . rw [Zaf y,Zaf y];exact I.loc j hj
 . show InT c (seta pa q t j)/\(seta v.th t { (v.th t) with phase:=22 } (seta pa q t j)).phase=22/\(seta v.th t { (v.th t) with phase:=22 } (seta pa q t j)).who=j/\(seta v.th t { (v.th t) with phase:=22 } (seta pa q t j)).item=(seta v.th t { (v.th t) with phase:=22 } j).item
   rw [hit',hit']
   by_cases y:j=q
   . subst y
     rw [Zag,Zag]
     exact ⟨ht,rfl,hqe.symm,hit⟩
   . rw [Zaf y] at hj
     rw [Zaf y]
     obtain ⟨a,b,d,f⟩:=I.pnd1 j hj
     have x:pa j≠t:=by intro x;rw [x] at b;omega
     rw [Zaf x]
     exact ⟨a,b,d,f⟩
 . have hs2:(seta v.th t { (v.th t) with phase:=22 } s).phase=22:=hs2
   show seta ro q 4 (seta v.th t { (v.th t) with phase:=22 } s).who=4/\seta pa q t (seta v.th t { (v.th t) with phase:=22 } s).who=s
   by_cases x:s=t
   . subst x
     rw [Zag]
     show seta ro q 4 (v.th s).who=4/\seta pa q s (v.th s).who=s
     rw [<- hqe,Zag,Zag]
     exact ⟨rfl,rfl⟩
   . rw [Zaf x] at hs2
     rw [Zaf x]
     obtain ⟨a,b⟩:=I.pnd2 s hs1 hs2
     have y:(v.th s).who≠q:=by intro y;rw [y] at a;omega
     rw [Zaf y,Zaf y]
     exact ⟨a,b⟩
 . have hs2:(seta v.th t { (v.th t) with phase:=22 } s).phase=16:=hs2
   have x:s≠t:=by intro x;rw [x,Zag] at hs2;dsimp only at hs2;omega
   rw [Zaf x] at hs2
   show co (kidH (seta v.th t { (v.th t) with phase:=22 } s)).t=some (v.r (kidH (seta v.th t { (v.th t) with phase:=22 } s)).t)
   rw [Zaf x]
   exact I.r16 s hs1 hs2
 . show Tree c v.b (seta v.th t { (v.th t) with phase:=22 }) (seta ro q 4) (seta pa q t)
   refine I.tree.same (fun _ _ _ _=>rfl) I.nodes (fun j=>?_) (fun j=>?_) (fun j=>?_) (fun j k hj hk hp=>?_)
   . by_cases x:j=t
     . subst x
       rw [Zag]
       exact ZcV rfl rfl (by dsimp only;omega) (by rw [ZaF (by dsimp only;omega),ZaF (by omega)])
     . rw [Zaf x]
   . by_cases y:j=q
     . subst y;rw [Zag];omega
     . rw [Zaf y]
   . by_cases x:j=t
     . subst x;rw [Zag];right;dsimp only;omega
     . rw [Zaf x];exact .inl rfl
   . have y:k≠q:=by intro y;subst y;omega
     rw [Zaf y,Zaf y]
     exact ⟨hk,hp⟩
 . show Num (seta v.l q 0 j)
   by_cases y:j=q
   . subst y;rw [Zag];exact Zbh (by decide)
   . rw [Zaf y];exact I.num.2.1 j
end
end Go.Proofs.Mill
/- What is kept: steps that commit, and that tell; all of them. -/
namespace Go.Proofs.Mill
theorem ZrW {α:Type} {f:Int->α} {j:Int} {a b:α}:seta (seta f j a) j b=seta f j b:=by
 funext k;unfold seta;split <;> rfl
theorem ZpE {lo hi:Int} (hlo:Num lo) (hhi:Num hi):∀ (b:List Entry) (x:Int),Num x->(∀ e∈b,Num e.op.v)->Num (allT lo hi b x)
 | [],x,hx,_=>hx
 | e::b,x,hx,hb=>ZpE hlo hhi b _ (Zrt hx (hb e (List.mem_cons_self ..)) hlo) (fun y hy=>hb y (List.mem_cons_of_mem _ hy))
theorem Zes (h:Thread):((Zbq h).phase=0/\Zev h=true/\(h.at_<0\/h.at_>=(h.kids.length:Int)))\/((Zbq h).phase=15/\Zev h=false/\0<=h.at_/\h.at_<(h.kids.length:Int)):=by
 unfold Zbq Zev
 by_cases g:h.at_<0\/h.at_>=(h.kids.length:Int)
 . rw [if_pos g];exact .inl ⟨rfl,decide_eq_true g,g⟩
 . rw [if_neg g];exact .inr ⟨rfl,decide_eq_false g,by omega⟩
theorem Zdp (h:Thread):(Zbq h).batch=h.batch/\(Zbq h).kids=h.kids/\(Zbq h).op=h.op/\(Zbq h).item=h.item/\(Zbq h).stop=h.stop/\(Zbq h).x=h.x/\(Zbq h).width=h.width/\(Zbq h).held=h.held/\(Zbq h).at_=h.at_:=by
 unfold Zbq
 split <;> exact ⟨rfl,rfl,rfl,rfl,rfl,rfl,rfl,rfl,rfl⟩
section
variable {c:Config} {v:Vw} {ro pa rt:Int->Int} {co:Int->Option Int} {t:Int}
theorem LocT.settled {h h':Thread} {l r:Int} {bx:List Entry} {ro0:Int} {co0 co':Option Int} (L:LocT c h l r bx ro0 co0) (hp:h.phase≠0) (hl:l=0\/l=5)
   (e:h'.batch=h.batch/\h'.kids=h.kids/\h'.item=h.item/\h'.stop=h.stop/\h'.held=h.held) (hx:Num h'.x) (hw:h'.width=h.width) {q:Int}
   (hq:(q=0/\h'.phase=0)\/(q=7/\h'.phase=15/\0<=h'.at_/\h'.at_<(h.kids.length:Int)/\co'=some h'.x)):LocT c h' l r bx q co':=by
 obtain ⟨e1,e2,e3,e4,e5⟩:=e
 obtain ⟨a1,a2,a3,a4,a5,a6,a7,a8⟩:=L.ari
 have hk:=L.kidsN hp
 have ho:=L.ops hp
 have hh:=L.held hp
 rcases hq with ⟨rfl,p⟩ | ⟨rfl,p,h1,h2,h3⟩
 . refine ⟨⟨.inl ⟨rfl,p,hl⟩,fun k=>(k p).elim,fun k=>?_,fun k=>(k p).elim,fun k=>?_,fun k=>?_,fun k=>?_,fun k=>?_⟩,fun k=>?_,L.boxl,fun k=>?_,hx,by rw [hw];exact L.nw,fun k=>(k p).elim,fun k=>?_,fun k=>?_,fun k=>?_,fun k=>absurd k (by decide),fun k=>absurd k (by decide),fun k=>(k p).elim,fun k=>(k p).elim⟩
   all_goals (clear a1 a2 a3 a4 a5 a6 a7 a8;omega)
 . refine ⟨⟨.inr (.inr (.inr (.inr (.inr (.inr ⟨rfl,.inl p,hl⟩))))),fun _=>by rw [e3];exact a2 hp,fun k=>?_,fun _=>by rw [e4];exact a4 hp,fun k=>?_,fun k=>?_,fun k=>?_,fun _=>by rw [e2];exact ⟨h1,h2⟩⟩,fun k=>?_,L.boxl,fun k=>?_,hx,by rw [hw];exact L.nw,fun _=>by rw [e5];exact hh,fun k=>?_,fun k=>?_,fun k=>?_,fun _=>h3,fun k=>absurd k (by decide),fun _=>by rw [e1,e2];exact hk,fun _=>by rw [e1];exact ho⟩
   all_goals (clear a1 a2 a3 a4 a5 a6 a7 a8;omega)
theorem ZoV (I:Inv c v ro pa rt co) (hC:CfgOK c) (ht:InT c t) (p:(v.th t).phase=2\/(v.th t).phase=3\/(v.th t).phase=25) {b':Int->Int->Int} (hb:∀ i m,1<=m->m<=Zaz c->b' i m=v.b i m) (hnb:∀ i r,Num (b' i r)) :
   Kept c v ⟨b',v.l,v.r,v.bx,seta v.th t (Zbq { (v.th t) with at_:=0,x:=v.b (v.th t).item 0 })⟩ ro pa rt co t (Zf9 c (v.th t) (v.b (v.th t).item 0)) (Zev { (v.th t) with at_:=0,x:=v.b (v.th t).item 0 }):=by
 have L:=I.loc t ht
 have hT:=Zdo L.tab (by omega)
 have hl:v.l t=0:=by omega
 have hct:=(I.core.k1 t (by omega)).1
 have hrt:=(I.core.k1 t (by omega)).2
 obtain ⟨h0,hh0⟩:∃ h0,h0=({ (v.th t) with at_:=0,x:=v.b (v.th t).item 0 }:Thread):=⟨_,rfl⟩
 have f0:h0.batch=(v.th t).batch/\h0.kids=(v.th t).kids/\h0.op=(v.th t).op/\h0.item=(v.th t).item/\h0.stop=(v.th t).stop/\h0.x=v.b (v.th t).item 0/\h0.width=(v.th t).width/\h0.held=(v.th t).held/\h0.at_=0:=by
   rw [hh0];exact ⟨rfl,rfl,rfl,rfl,rfl,rfl,rfl,rfl,rfl⟩
 rw [<- hh0]
 have f1:=Zdp h0
 have hs:=Zes h0
 obtain ⟨h',hh'⟩:∃ h',h'=Zbq h0:=⟨_,rfl⟩
 rw [<- hh'] at f1 hs ⊢
 obtain ⟨x1,x2,x3,x4,x5,x6,x7,x8,x9⟩:=f0
 obtain ⟨g1,g2,g3,g4,g5,g6,g7,g8,g9⟩:=f1
 rw [x1] at g1;rw [x2] at g2;rw [x3] at g3;rw [x4] at g4;rw [x5] at g5;rw [x6] at g6;rw [x7] at g7;rw [x8] at g8;rw [x9] at g9 hs
 rw [x2] at hs
 obtain ⟨x,hx⟩:∃ x,x=v.b (v.th t).item 0:=⟨_,rfl⟩
 rw [<- hx] at g6
 have hnx:Num x:=by rw [hx];exact I.num.1 _ _
 have hC1:=I.core.commit (x:=x) hT.1
 obtain ⟨co1,hco1⟩:∃ co1,co1=ZkT c (fun j=>(v.th j).batch) ro rt co t x:=⟨_,rfl⟩
 rw [<- hco1] at hC1
 have hkeep:∀ j y,co j=some y->co1 j=some y:=by
   intro j y hj
   rw [hco1]
   unfold ZkT
   rw [if_neg (fun k=>by rw [hj] at k;cases k.2.1)]
   exact hj
 have hown:co1 t=some x:=by
   rw [hco1]
   unfold ZkT
   rw [if_pos ⟨by omega,hct,hrt⟩]
   obtain ⟨rr,hr⟩:=I.core.k3 t (by omega)
   have hr':(v.th t).batch=⟨t,(v.th t).op⟩::rr:=hr
   show some (allT c.lo c.hi ((v.th t).batch.take (idxOf (v.th t).batch t)) x)=_
   have:idxOf (v.th t).batch t=0:=by rw [hr'];exact ZtZ (e:=⟨t,(v.th t).op⟩)
   rw [this,List.take_zero]
   rfl
 have hkA:ZaP (v.th t)=(v.th t).kids:=by
   unfold ZaP
   rw [if_neg (by omega),if_neg (by omega)]
 have hkA':ZaP h'=(v.th t).kids:=by
   unfold ZaP
   rcases hs with ⟨y1,_,y2⟩ | ⟨y1,_,y2⟩
   . rw [if_pos y1]
     cases hk:(v.th t).kids with
     | nil=>rfl
     | cons a r=>rw [hk] at y2;simp at y2;omega
   . rw [if_neg (by omega),if_pos (.inl y1),g9,g2];rfl
 have c0:∀ {α:Type} (f:Thread->α),f h'=f (v.th t)->(fun j=>f (seta v.th t h' j))=fun j=>f (v.th j):=by
   intro α f hf
   funext j;unfold seta;split
   . rename_i e;rw [e];exact hf
   . rfl
 have it':∀ j,(seta v.th t h' j).item=(v.th j).item:=fun j=>congrFun (c0 (fun h=>h.item) g4) j
 obtain ⟨dn,hdn⟩:∃ dn,dn=Zev h0:=⟨_,rfl⟩
 rw [<- hdn] at hs ⊢
 obtain ⟨q,hq⟩:∃ q:Int,q=if dn=true then 0 else 7:=⟨_,rfl⟩
 obtain ⟨co',hco'⟩:∃ co',co'=if dn=true then seta co1 t none else co1:=⟨_,rfl⟩
 have hcore:Core c (fun j=>(v.th j).batch) (fun j=>ZaP (v.th j)) (fun j=>(v.th j).op) (fun j=>(v.th j).item) (seta ro t q) pa rt co':=by
   cases hd:dn with
   | false=>rw [hd] at hq hco';rw [hq,hco'];exact hC1
   | true =>
     rw [hd] at hq hco'
     rw [hq,hco']
     have hk0:ZaP (v.th t)=[]:=by
       rcases hs with ⟨y1,_,_⟩ | ⟨_,y2,_⟩
       . rw [<- hkA'] at hkA;rw [hkA];unfold ZaP;rw [if_pos y1]
       . rw [hd] at y2;cases y2
     have:=hC1.done (t:=t) Zag hk0
     rw [ZrW] at this
     exact this
 have hco'ne:∀ j y,co j=some y->co' j=some y:=by
   intro j y hj
   have hjt:j≠t:=by intro e;rw [e,hct] at hj;cases hj
   rw [hco']
   split
   . rw [Zaf hjt];exact hkeep j y hj
   . exact hkeep j y hj
 refine ⟨seta ro t q,pa,rt,co1,?_,.inr ⟨hT.1,by rw [<- hx],by rw [<- hx];exact hco1⟩,fun _=>?_⟩
 . rw [<- hco']
   refine ⟨?_,fun j hj=>?_,fun j hj=>?_,fun s hs1 hs2=>?_,fun s hs1 hs2=>?_,?_,hnb,I.num.2⟩
   . show Core c (fun j=>(seta v.th t h' j).batch) (fun j=>ZaP (seta v.th t h' j)) (fun j=>(seta v.th t h' j).op) (fun j=>(seta v.th t h' j).item) _ _ _ _
     rw [c0 (fun h=>h.batch) g1,c0 ZaP (by rw [hkA,hkA']),c0 (fun h=>h.op) g3,c0 (fun h=>h.item) g4]
     exact hcore
   . show LocT c (seta v.th t h' j) (v.l j) (v.r j) (v.bx j) (seta ro t q j) (co' j)
     by_cases e:j=t
     . subst e
       rw [Zag,Zag]
       refine L.settled (by omega) (.inl hl) ⟨g1,g2,g4,g5,g8⟩ (by rw [g6];exact hnx) g7 ?_
       cases hd:dn with
       | true =>
         rw [hd] at hq hs
         rcases hs with ⟨y1,_,_⟩ | ⟨_,y2,_⟩
         . exact .inl ⟨hq,y1⟩
         . cases y2
       | false =>
         rw [hd] at hq hs hco'
         rcases hs with ⟨_,y2,_⟩ | ⟨y1,_,y3,y4⟩
         . cases y2
         . exact .inr ⟨hq,y1,by rw [g9];exact y3,by rw [g9];exact y4,by rw [hco',g6];exact hown⟩
     . rw [Zaf e,Zaf e]
       have Lj:=I.loc j hj
       exact ⟨Lj.ari,Lj.box,Lj.boxl,Lj.y,Lj.nx,Lj.nw,Lj.held,Lj.node,Lj.x6,Lj.one,fun k=>hco'ne _ _ (Lj.tell k),fun k=>hco'ne _ _ (Lj.told k),Lj.kidsN,Lj.ops⟩
   . have e:j≠t:=by
       intro e;rw [e,Zag] at hj
       rw [hq] at hj
       split at hj <;> exact absurd hj (by decide)
     rw [Zaf e] at hj
     obtain ⟨a,b,d,f⟩:=I.pnd1 j hj
     show InT c (pa j)/\(seta v.th t h' (pa j)).phase=22/\(seta v.th t h' (pa j)).who=j/\(seta v.th t h' (pa j)).item=(seta v.th t h' j).item
     have e2:pa j≠t:=by intro e2;rw [e2] at b;omega
     rw [it',it',Zaf e2]
     exact ⟨a,b,d,f⟩
   . have hs2:(seta v.th t h' s).phase=22:=hs2
     have e:s≠t:=by intro e;rw [e,Zag] at hs2;omega
     rw [Zaf e] at hs2
     show seta ro t q (seta v.th t h' s).who=4/\pa (seta v.th t h' s).who=s
     rw [Zaf e]
     obtain ⟨a,b⟩:=I.pnd2 s hs1 hs2
     have e2:(v.th s).who≠t:=by intro e2;rw [e2] at a;omega
     rw [Zaf e2]
     exact ⟨a,b⟩
   . have hs2:(seta v.th t h' s).phase=16:=hs2
     have e:s≠t:=by intro e;rw [e,Zag] at hs2;omega
     rw [Zaf e] at hs2
     show co' (kidH (seta v.th t h' s)).t=some (v.r (kidH (seta v.th t h' s)).t)
     rw [Zaf e]
     exact hco'ne _ _ (I.r16 s hs1 hs2)
   . have hq2:q≠2:=by rw [hq];split <;> decide
     refine I.treeSame hb (ZcV g4 g5 (by omega) ?_) (by omega) (by omega) (by omega)
     rw [ZaF (by omega),ZaF (by omega)]
 . rw [hown]
   show some x=some (seta v.th t h' t).x
   rw [Zag,g6]
theorem Zze (I:Inv c v ro pa rt co) (hC:CfgOK c) (ht:InT c t) (p:(v.th t).phase=14) :
   Kept c v (put v t (Zbq { (v.th t) with at_:=0,x:=v.r t })) ro pa rt co t [] (Zev { (v.th t) with at_:=0,x:=v.r t }):=by
 have L:=I.loc t ht
 have hT:ro t=6/\v.l t=5:=by have:=L.tab;unfold Tab at this;omega
 have hco:=L.told hT.1
 obtain ⟨h0,hh0⟩:∃ h0,h0=({ (v.th t) with at_:=0,x:=v.r t }:Thread):=⟨_,rfl⟩
 have f0:h0.batch=(v.th t).batch/\h0.kids=(v.th t).kids/\h0.op=(v.th t).op/\h0.item=(v.th t).item/\h0.stop=(v.th t).stop/\h0.x=v.r t/\h0.width=(v.th t).width/\h0.held=(v.th t).held/\h0.at_=0:=by
   rw [hh0];exact ⟨rfl,rfl,rfl,rfl,rfl,rfl,rfl,rfl,rfl⟩
 rw [<- hh0]
 have f1:=Zdp h0
 have hs:=Zes h0
 obtain ⟨h',hh'⟩:∃ h',h'=Zbq h0:=⟨_,rfl⟩
 rw [<- hh'] at f1 hs ⊢
 obtain ⟨x1,x2,x3,x4,x5,x6,x7,x8,x9⟩:=f0
 obtain ⟨g1,g2,g3,g4,g5,g6,g7,g8,g9⟩:=f1
 rw [x1] at g1;rw [x2] at g2;rw [x3] at g3;rw [x4] at g4;rw [x5] at g5;rw [x6] at g6;rw [x7] at g7;rw [x8] at g8;rw [x9] at g9 hs
 rw [x2] at hs
 have hC1:=I.core.told hT.1
 have hkA:ZaP (v.th t)=(v.th t).kids:=by
   unfold ZaP
   rw [if_neg (by omega),if_neg (by omega)]
 have hkA':ZaP h'=(v.th t).kids:=by
   unfold ZaP
   rcases hs with ⟨y1,_,y2⟩ | ⟨y1,_,y2⟩
   . rw [if_pos y1]
     cases hk:(v.th t).kids with
     | nil=>rfl
     | cons a r=>rw [hk] at y2;simp at y2;omega
   . rw [if_neg (by omega),if_pos (.inl y1),g9,g2];rfl
 have c0:∀ {α:Type} (f:Thread->α),f h'=f (v.th t)->(fun j=>f (seta v.th t h' j))=fun j=>f (v.th j):=by
   intro α f hf
   funext j;unfold seta;split
   . rename_i e;rw [e];exact hf
   . rfl
 have it':∀ j,(seta v.th t h' j).item=(v.th j).item:=fun j=>congrFun (c0 (fun h=>h.item) g4) j
 obtain ⟨dn,hdn⟩:∃ dn,dn=Zev h0:=⟨_,rfl⟩
 rw [<- hdn] at hs ⊢
 obtain ⟨q,hq⟩:∃ q:Int,q=if dn=true then 0 else 7:=⟨_,rfl⟩
 obtain ⟨co',hco'⟩:∃ co',co'=if dn=true then seta co t none else co:=⟨_,rfl⟩
 have hcore:Core c (fun j=>(v.th j).batch) (fun j=>ZaP (v.th j)) (fun j=>(v.th j).op) (fun j=>(v.th j).item) (seta ro t q) pa rt co':=by
   cases hd:dn with
   | false=>rw [hd] at hq hco';rw [hq,hco'];exact hC1
   | true =>
     rw [hd] at hq hco'
     rw [hq,hco']
     have hk0:ZaP (v.th t)=[]:=by
       rcases hs with ⟨y1,_,_⟩ | ⟨_,y2,_⟩
       . rw [<- hkA'] at hkA;rw [hkA];unfold ZaP;rw [if_pos y1]
       . rw [hd] at y2;cases y2
     have:=hC1.done (t:=t) Zag hk0
     rw [ZrW] at this
     exact this
 have hco'ne:∀ j,j≠t->co' j=co j:=by
   intro j hj
   rw [hco']
   split
   . rw [Zaf hj]
   . rfl
 refine ⟨seta ro t q,pa,rt,co,?_,.inl ⟨rfl,rfl⟩,fun _=>?_⟩
 . rw [<- hco']
   refine ⟨?_,fun j hj=>?_,fun j hj=>?_,fun s hs1 hs2=>?_,fun s hs1 hs2=>?_,?_,I.num⟩
   . show Core c (fun j=>(seta v.th t h' j).batch) (fun j=>ZaP (seta v.th t h' j)) (fun j=>(seta v.th t h' j).op) (fun j=>(seta v.th t h' j).item) _ _ _ _
     rw [c0 (fun h=>h.batch) g1,c0 ZaP (by rw [hkA,hkA']),c0 (fun h=>h.op) g3,c0 (fun h=>h.item) g4]
     exact hcore
   . show LocT c (seta v.th t h' j) (v.l j) (v.r j) (v.bx j) (seta ro t q j) (co' j)
     by_cases e:j=t
     . subst e
       rw [Zag,Zag]
       refine L.settled (by omega) (.inr hT.2) ⟨g1,g2,g4,g5,g8⟩ (by rw [g6];exact I.num.2.2 _) g7 ?_
       cases hd:dn with
       | true =>
         rw [hd] at hq hs
         rcases hs with ⟨y1,_,_⟩ | ⟨_,y2,_⟩
         . exact .inl ⟨hq,y1⟩
         . cases y2
       | false =>
         rw [hd] at hq hs hco'
         rcases hs with ⟨_,y2,_⟩ | ⟨y1,_,y3,y4⟩
         . cases y2
         . exact .inr ⟨hq,y1,by rw [g9];exact y3,by rw [g9];exact y4,by rw [hco',g6];exact hco⟩
     . rw [Zaf e,Zaf e,hco'ne j e]
       exact I.loc j hj
   . have e:j≠t:=by
       intro e;rw [e,Zag] at hj
       rw [hq] at hj
       split at hj <;> exact absurd hj (by decide)
     rw [Zaf e] at hj
     obtain ⟨a,b,d,f⟩:=I.pnd1 j hj
     show InT c (pa j)/\(seta v.th t h' (pa j)).phase=22/\(seta v.th t h' (pa j)).who=j/\(seta v.th t h' (pa j)).item=(seta v.th t h' j).item
     have e2:pa j≠t:=by intro e2;rw [e2] at b;omega
     rw [it',it',Zaf e2]
     exact ⟨a,b,d,f⟩
   . have hs2:(seta v.th t h' s).phase=22:=hs2
     have e:s≠t:=by intro e;rw [e,Zag] at hs2;omega
     rw [Zaf e] at hs2
     show seta ro t q (seta v.th t h' s).who=4/\pa (seta v.th t h' s).who=s
     rw [Zaf e]
     obtain ⟨a,b⟩:=I.pnd2 s hs1 hs2
     have e2:(v.th s).who≠t:=by intro e2;rw [e2] at a;omega
     rw [Zaf e2]
     exact ⟨a,b⟩
   . have hs2:(seta v.th t h' s).phase=16:=hs2
     have e:s≠t:=by intro e;rw [e,Zag] at hs2;omega
     rw [Zaf e] at hs2
     show co' (kidH (seta v.th t h' s)).t=some (v.r (kidH (seta v.th t h' s)).t)
     rw [Zaf e]
     have ha:=(I.loc s hs1).ari.2.2.2.2.2.2.2 (.inr hs2)
     have hk:kidH (v.th s)∈ZaP (v.th s):=by
       unfold ZaP kidH
       have h1:(v.th s).at_.toNat<(v.th s).kids.length:=by omega
       rw [if_neg (by omega),if_pos (.inr hs2),List.getD_eq_getElem?_getD,List.getElem?_eq_getElem h1,Option.getD_some,List.drop_eq_getElem_cons h1]
       exact List.mem_cons_self ..
     have h5:=(I.core.k7 s _ hk).1
     rw [hco'ne _ (fun x=>by rw [x] at h5;omega)]
     exact I.r16 s hs1 hs2
   . have hq2:q≠2:=by rw [hq];split <;> decide
     refine I.treeSame (fun _ _ _ _=>rfl) (ZcV g4 g5 (by omega) ?_) (by omega) (by omega) (by omega)
     rw [ZaF (by omega),ZaF (by omega)]
 . rw [hco]
   show some (v.r t)=some (seta v.th t h' t).x
   rw [Zag,g6]
theorem Inv.kid (I:Inv c v ro pa rt co) (ht:InT c t) (p:(v.th t).phase=15\/(v.th t).phase=16):ZaP (v.th t)=kidH (v.th t)::(v.th t).kids.drop ((v.th t).at_.toNat+1)/\ro (kidH (v.th t)).t=5/\pa (kidH (v.th t)).t=t/\∀ x,co t=some x->co (kidH (v.th t)).t=some (allT c.lo c.hi ((v.th t).batch.take (kidH (v.th t)).ahead.toNat) x):=by
 have ha:=(I.loc t ht).ari.2.2.2.2.2.2.2 p
 have h1:(v.th t).at_.toNat<(v.th t).kids.length:=by omega
 have e:ZaP (v.th t)=kidH (v.th t)::(v.th t).kids.drop ((v.th t).at_.toNat+1):=by
   unfold ZaP kidH
   rw [if_neg (by omega),if_pos p,List.getD_eq_getElem?_getD,List.getElem?_eq_getElem h1,Option.getD_some,List.drop_eq_getElem_cons h1]
 have hk:kidH (v.th t)∈ZaP (v.th t):=by rw [e];exact List.mem_cons_self ..
 obtain ⟨a,b,_,_,d⟩:=I.core.k7 t _ hk
 exact ⟨e,a,b,d⟩
theorem Zwd (I:Inv c v ro pa rt co) (hC:CfgOK c) (hlo:Num c.lo) (hhi:Num c.hi) (ht:InT c t) (p:(v.th t).phase=15) :
   Kept c v (put (wR v (kidH (v.th t)).t (allT c.lo c.hi ((v.th t).batch.take (kidH (v.th t)).ahead.toNat) (v.th t).x)) t { (v.th t) with phase:=16 }) ro pa rt co t [] false:=by
 have L:=I.loc t ht
 have A:=L.ari
 have hT:ro t=7/\(v.l t=0\/v.l t=5):=by have:=L.tab;unfold Tab at this;omega
 have hco:=L.tell hT.1
 have ha:=A.2.2.2.2.2.2.2 (.inl p)
 obtain ⟨k1,k2,k3,k4⟩:=I.kid ht (.inl p)
 have k5:=k4 _ hco
 obtain ⟨k,hk⟩:∃ k,k=(kidH (v.th t)).t:=⟨_,rfl⟩
 obtain ⟨z,hz⟩:∃ z,z=allT c.lo c.hi ((v.th t).batch.take (kidH (v.th t)).ahead.toNat) (v.th t).x:=⟨_,rfl⟩
 have hnz:Num z:=by rw [hz];exact ZpE hlo hhi _ _ L.nx (fun e he=>L.ops (by omega) e (List.mem_of_mem_take he))
 rw [<- hk,<- hz] at k5
 rw [<- hk] at k2 k3
 rw [<- hk,<- hz]
 have hkt:k≠t:=by intro e;rw [e] at k2;omega
 have c0:∀ {α:Type} (f:Thread->α),f { (v.th t) with phase:=16 }=f (v.th t)->(fun j=>f (seta v.th t { (v.th t) with phase:=16 } j))=fun j=>f (v.th j):=by
   intro α f hf
   funext j;unfold seta;split
   . rename_i e;rw [e];exact hf
   . rfl
 have it':∀ j,(seta v.th t { (v.th t) with phase:=16 } j).item=(v.th j).item:=fun j=>congrFun (c0 (fun h=>h.item) rfl) j
 have hkA:ZaP { (v.th t) with phase:=16 }=ZaP (v.th t):=by
   unfold ZaP
   rw [if_neg (by dsimp only;omega),if_pos (by dsimp only;omega),if_neg (by omega),if_pos (.inl p)]
 refine ⟨ro,pa,rt,co,?_,.inl ⟨rfl,rfl⟩,fun h=>by cases h⟩
 rw [if_neg (by decide)]
 refine ⟨?_,fun j hj=>?_,fun j hj=>?_,fun s hs1 hs2=>?_,fun s hs1 hs2=>?_,?_,I.num.1,I.num.2.1,fun j=>?_⟩
 . show Core c (fun j=>(seta v.th t { (v.th t) with phase:=16 } j).batch) (fun j=>ZaP (seta v.th t { (v.th t) with phase:=16 } j)) (fun j=>(seta v.th t { (v.th t) with phase:=16 } j).op) (fun j=>(seta v.th t { (v.th t) with phase:=16 } j).item) _ _ _ _
   rw [c0 (fun h=>h.batch) rfl,c0 ZaP hkA,c0 (fun h=>h.op) rfl,c0 (fun h=>h.item) rfl]
   exact I.core
 . show LocT c (seta v.th t { (v.th t) with phase:=16 } j) (v.l j) (seta v.r k z j) (v.bx j) (ro j) (co j)
   by_cases e:j=t
   . subst e
     rw [Zag,Zaf (Ne.symm hkt)]
     obtain ⟨a1,a2,a3,a4,a5,a6,a7,a8⟩:=A
     have hh:=L.held (by omega)
     have hkn:=L.kidsN (by omega)
     have hop:=L.ops (by omega)
     refine ⟨⟨?_,fun _=>a2 (by omega),?_,fun _=>a4 (by omega),?_,?_,?_,fun _=>ha⟩,?_,L.boxl,?_,L.nx,L.nw,fun _=>hh,?_,?_,?_,fun _=>hco,?_,fun _=>hkn,fun _=>hop⟩
     . exact .inr (.inr (.inr (.inr (.inr (.inr ⟨hT.1,.inr rfl,hT.2⟩)))))
     all_goals clear a1 a2 a3 a4 a5 a6 a7 a8 k4 k5
     all_goals try dsimp only
     all_goals first | omega | (intro k;omega)
   . rw [Zaf e]
     by_cases y:j=k
     . have Lj:=I.loc j hj
       rw [y] at Lj ⊢
       rw [Zag]
       exact ⟨Lj.ari,Lj.box,Lj.boxl,Lj.y,Lj.nx,Lj.nw,Lj.held,Lj.node,Lj.x6,Lj.one,Lj.tell,fun h6=>by omega,Lj.kidsN,Lj.ops⟩
     . rw [Zaf y];exact I.loc j hj
 . obtain ⟨a,b,d,f⟩:=I.pnd1 j hj
   show InT c (pa j)/\(seta v.th t { (v.th t) with phase:=16 } (pa j)).phase=22/\(seta v.th t { (v.th t) with phase:=16 } (pa j)).who=j/\(seta v.th t { (v.th t) with phase:=16 } (pa j)).item=(seta v.th t { (v.th t) with phase:=16 } j).item
   have e2:pa j≠t:=by intro e2;rw [e2] at b;omega
   rw [it',it',Zaf e2]
   exact ⟨a,b,d,f⟩
 . have hs2:(seta v.th t { (v.th t) with phase:=16 } s).phase=22:=hs2
   have e:s≠t:=by intro e;rw [e,Zag] at hs2;dsimp only at hs2;omega
   rw [Zaf e] at hs2
   show ro (seta v.th t { (v.th t) with phase:=16 } s).who=4/\pa (seta v.th t { (v.th t) with phase:=16 } s).who=s
   rw [Zaf e]
   exact I.pnd2 s hs1 hs2
 . have hs2:(seta v.th t { (v.th t) with phase:=16 } s).phase=16:=hs2
   show co (kidH (seta v.th t { (v.th t) with phase:=16 } s)).t=some (seta v.r k z (kidH (seta v.th t { (v.th t) with phase:=16 } s)).t)
   by_cases e:s=t
   . subst e
     rw [Zag]
     show co (kidH (v.th s)).t=some (seta v.r k z (kidH (v.th s)).t)
     rw [<- hk,Zag]
     exact k5
   . rw [Zaf e] at hs2 ⊢
     obtain ⟨_,_,l3,_⟩:=I.kid hs1 (.inr hs2)
     rw [Zaf (fun x=>by rw [x,k3] at l3;exact e l3.symm)]
     exact I.r16 s hs1 hs2
 . have:=I.treeSame (t:=t) (h':={ (v.th t) with phase:=16 }) (b':=v.b) (q:=ro t) (fun _ _ _ _=>rfl) (ZcV rfl rfl (by dsimp only;omega) (by rw [ZaF (by dsimp only;omega),ZaF (by omega)])) Iff.rfl (fun h=>h) (by dsimp only;omega)
   rw [seta_same] at this
   exact this
 . show Num (seta v.r k z j)
   by_cases y:j=k
   . rw [y,Zag];exact hnz
   . rw [Zaf y];exact I.num.2.2 j
theorem ZwP (I:Inv c v ro pa rt co) (hC:CfgOK c) (ht:InT c t) (p:(v.th t).phase=16) :
   Kept c v (put (wL v (kidH (v.th t)).t 5) t (Zbq { (v.th t) with at_:=Zad .i64 ((v.th t).at_+1) })) ro pa rt co t [] (Zev { (v.th t) with at_:=Zad .i64 ((v.th t).at_+1) }):=by
 have L:=I.loc t ht
 have A:=L.ari
 have hT:ro t=7/\(v.l t=0\/v.l t=5):=by have:=L.tab;unfold Tab at this;omega
 have hco:=L.tell hT.1
 have ha:=A.2.2.2.2.2.2.2 (.inr p)
 obtain ⟨k1,k2,k3,_⟩:=I.kid ht (.inr p)
 have hres:=I.r16 t ht p
 obtain ⟨k,hk⟩:∃ k,k=(kidH (v.th t)).t:=⟨_,rfl⟩
 rw [<- hk] at k2 k3 hres ⊢
 have hkt:k≠t:=by intro e;rw [e] at k2;omega
 have hkin:InT c k:=I.core.out k (by omega)
 have hsh:=I.short hC (j:=t) (by omega)
 have hkn:=L.kidsN (by omega)
 have hwr:Zad IntKind.i64 ((v.th t).at_+1)=(v.th t).at_+1:=Zat (by omega) (by omega)
 obtain ⟨h0,hh0⟩:∃ h0,h0=({ (v.th t) with at_:=Zad .i64 ((v.th t).at_+1) }:Thread):=⟨_,rfl⟩
 have f0:h0.batch=(v.th t).batch/\h0.kids=(v.th t).kids/\h0.op=(v.th t).op/\h0.item=(v.th t).item/\h0.stop=(v.th t).stop/\h0.x=(v.th t).x/\h0.width=(v.th t).width/\h0.held=(v.th t).held/\h0.at_=(v.th t).at_+1:=by
   rw [hh0];exact ⟨rfl,rfl,rfl,rfl,rfl,rfl,rfl,rfl,hwr⟩
 rw [<- hh0]
 have f1:=Zdp h0
 have hs:=Zes h0
 obtain ⟨h',hh'⟩:∃ h',h'=Zbq h0:=⟨_,rfl⟩
 rw [<- hh'] at f1 hs ⊢
 obtain ⟨x1,x2,x3,x4,x5,x6,x7,x8,x9⟩:=f0
 obtain ⟨g1,g2,g3,g4,g5,g6,g7,g8,g9⟩:=f1
 rw [x1] at g1;rw [x2] at g2;rw [x3] at g3;rw [x4] at g4;rw [x5] at g5;rw [x6] at g6;rw [x7] at g7;rw [x8] at g8;rw [x9] at g9 hs
 rw [x2] at hs
 have hC1:=I.core.tell hT.1 k1
 rw [<- hk] at hC1
 have hkA':ZaP h'=(v.th t).kids.drop ((v.th t).at_.toNat+1):=by
   unfold ZaP
   rcases hs with ⟨y1,_,y2⟩ | ⟨y1,_,y2⟩
   . rw [if_pos y1,List.drop_of_length_le (by omega)]
   . rw [if_neg (by omega),if_pos (.inl y1),g9,g2,show ((v.th t).at_+1).toNat=(v.th t).at_.toNat+1 by omega]
 have c0:∀ {α:Type} (f:Thread->α),f h'=f (v.th t)->(fun j=>f (seta v.th t h' j))=fun j=>f (v.th j):=by
   intro α f hf
   funext j;unfold seta;split
   . rename_i e;rw [e];exact hf
   . rfl
 have cK:(fun j=>ZaP (seta v.th t h' j))=seta (fun j=>ZaP (v.th j)) t ((v.th t).kids.drop ((v.th t).at_.toNat+1)):=by
   funext j;unfold seta;split
   . exact hkA'
   . rfl
 have it':∀ j,(seta v.th t h' j).item=(v.th j).item:=fun j=>congrFun (c0 (fun h=>h.item) g4) j
 obtain ⟨dn,hdn⟩:∃ dn,dn=Zev h0:=⟨_,rfl⟩
 rw [<- hdn] at hs ⊢
 obtain ⟨q,hq⟩:∃ q:Int,q=if dn=true then 0 else 7:=⟨_,rfl⟩
 obtain ⟨co',hco'⟩:∃ co',co'=if dn=true then seta co t none else co:=⟨_,rfl⟩
 have hq07:q=0\/q=7:=by rw [hq];split <;> simp
 have hcore:Core c (fun j=>(v.th j).batch) (seta (fun j=>ZaP (v.th j)) t ((v.th t).kids.drop ((v.th t).at_.toNat+1))) (fun j=>(v.th j).op) (fun j=>(v.th j).item) (seta (seta ro k 6) t q) pa rt co':=by
   cases hd:dn with
   | false =>
     rw [hd] at hq hco'
     have e:seta (seta ro k 6) t q=seta ro k 6:=by
       rw [hq]
       funext j;unfold seta;split
       . rename_i e;rw [e,if_neg (Ne.symm hkt)];exact hT.1.symm
       . rfl
     rw [e,hco'];exact hC1
   | true =>
     rw [hd] at hq hco'
     rw [hq,hco']
     refine hC1.done (t:=t) ?_ ?_
     . rw [Zaf (Ne.symm hkt)];exact hT.1
     . rw [Zag]
       rcases hs with ⟨_,_,y2⟩ | ⟨_,y2,_⟩
       . exact List.drop_of_length_le (by omega)
       . rw [hd] at y2;cases y2
 have hco'ne:∀ j,j≠t->co' j=co j:=by
   intro j hj
   rw [hco']
   split
   . rw [Zaf hj]
   . rfl
 refine ⟨seta (seta ro k 6) t q,pa,rt,co,?_,.inl ⟨rfl,rfl⟩,fun _=>?_⟩
 . rw [<- hco']
   refine ⟨?_,fun j hj=>?_,fun j hj=>?_,fun s hs1 hs2=>?_,fun s hs1 hs2=>?_,?_,I.num.1,fun j=>?_,I.num.2.2⟩
   . show Core c (fun j=>(seta v.th t h' j).batch) (fun j=>ZaP (seta v.th t h' j)) (fun j=>(seta v.th t h' j).op) (fun j=>(seta v.th t h' j).item) _ _ _ _
     rw [c0 (fun h=>h.batch) g1,cK,c0 (fun h=>h.op) g3,c0 (fun h=>h.item) g4]
     exact hcore
   . show LocT c (seta v.th t h' j) (seta v.l k 5 j) (v.r j) (v.bx j) (seta (seta ro k 6) t q j) (co' j)
     by_cases e:j=t
     . subst e
       rw [Zag,Zag,Zaf (Ne.symm hkt)]
       refine L.settled (by omega) hT.2 ⟨g1,g2,g4,g5,g8⟩ (by rw [g6];exact L.nx) g7 ?_
       cases hd:dn with
       | true =>
         rw [hd] at hq hs
         rcases hs with ⟨y1,_,_⟩ | ⟨_,y2,_⟩
         . exact .inl ⟨hq,y1⟩
         . cases y2
       | false =>
         rw [hd] at hq hs hco'
         rcases hs with ⟨_,y2,_⟩ | ⟨y1,_,y3,y4⟩
         . cases y2
         . exact .inr ⟨hq,y1,by rw [g9];exact y3,by rw [g9];exact y4,by rw [hco',g6];exact hco⟩
     . rw [Zaf e,Zaf e,hco'ne j e]
       by_cases y:j=k
       . have Lj:=I.loc j hj
         rw [y] at Lj ⊢
         rw [Zag,Zag]
         obtain ⟨a1,a2,a3,a4,a5,a6,a7,a8⟩:=Lj.ari
         have hTk:(v.th k).phase=13\/(v.th k).phase=19\/(v.th k).phase=20\/(v.th k).phase=23\/(v.th k).phase=26:=by
           unfold Tab at a1;clear hs;omega
         refine ⟨⟨.inr (.inr (.inr (.inr (.inr (.inl ⟨rfl,hTk.elim .inl (fun x=>.inr (.inr x)),rfl⟩))))),a2,a3,a4,a5,fun x=>?_,a7,a8⟩,fun x=>x.elim (fun x=>absurd x (by decide)) (fun x=>absurd x.1 (by decide)),Lj.boxl,Lj.y,Lj.nx,Lj.nw,Lj.held,Lj.node,Lj.x6,Lj.one,fun x=>absurd x (by decide),fun _=>hres,Lj.kidsN,Lj.ops⟩
         clear a1 a2 a3 a4 a5 a6 a7 a8 hs;omega
       . rw [Zaf y,Zaf y];exact I.loc j hj
   . have e:j≠t:=by
       intro e;rw [e,Zag] at hj
       clear hs;omega
     have y:j≠k:=by
       intro y;rw [y,Zaf hkt,Zag] at hj;exact absurd hj (by decide)
     rw [Zaf e,Zaf y] at hj
     obtain ⟨a,b,d,f⟩:=I.pnd1 j hj
     show InT c (pa j)/\(seta v.th t h' (pa j)).phase=22/\(seta v.th t h' (pa j)).who=j/\(seta v.th t h' (pa j)).item=(seta v.th t h' j).item
     have e2:pa j≠t:=by intro e2;rw [e2] at b;clear hs;omega
     rw [it',it',Zaf e2]
     exact ⟨a,b,d,f⟩
   . have hs2:(seta v.th t h' s).phase=22:=hs2
     have e:s≠t:=by intro e;rw [e,Zag] at hs2;omega
     rw [Zaf e] at hs2
     show seta (seta ro k 6) t q (seta v.th t h' s).who=4/\pa (seta v.th t h' s).who=s
     rw [Zaf e]
     obtain ⟨a,b⟩:=I.pnd2 s hs1 hs2
     have e2:(v.th s).who≠t:=by intro e2;rw [e2] at a;clear hs;omega
     have e3:(v.th s).who≠k:=by intro e3;rw [e3] at a;clear hs;omega
     rw [Zaf e2,Zaf e3]
     exact ⟨a,b⟩
   . have hs2:(seta v.th t h' s).phase=16:=hs2
     have e:s≠t:=by intro e;rw [e,Zag] at hs2;omega
     rw [Zaf e] at hs2
     show co' (kidH (seta v.th t h' s)).t=some (v.r (kidH (seta v.th t h' s)).t)
     rw [Zaf e]
     obtain ⟨_,l2,l3,_⟩:=I.kid hs1 (.inr hs2)
     rw [hco'ne _ (fun x=>by rw [x] at l2;clear hs;omega)]
     exact I.r16 s hs1 hs2
   . show Tree c v.b (seta v.th t h') (seta (seta ro k 6) t q) pa
     refine I.tree.same (fun _ _ _ _=>rfl) I.nodes (fun j=>?_) (fun j=>?_) (fun j=>?_) (fun j i hj hi hp=>?_)
     . by_cases x:j=t
       . rw [x,Zag]
         exact ZcV g4 g5 (by omega) (by rw [ZaF (by omega),ZaF (by omega)])
       . rw [Zaf x]
     . by_cases x:j=t
       . rw [x,Zag];clear hs;omega
       . rw [Zaf x]
         by_cases y:j=k
         . rw [y,Zag];clear hs;omega
         . rw [Zaf y]
     . by_cases x:j=t
       . rw [x,Zag];right;omega
       . rw [Zaf x];exact .inl rfl
     . have x:i≠t:=by intro x;rw [x] at hi;clear hs;omega
       have y:i≠k:=by intro y;rw [y,k3] at hp;rw [<- hp] at hj;clear hs;omega
       rw [Zaf x,Zaf y]
       exact ⟨hi,hp⟩
   . show Num (seta v.l k 5 j)
     by_cases y:j=k
     . rw [y,Zag];exact Zbh (by decide)
     . rw [Zaf y];exact I.num.2.1 j
 . rw [hco]
   show some (v.th t).x=some (seta v.th t h' t).x
   rw [Zag,g6]
theorem Inv.step (I:Inv c v ro pa rt co) (hC:CfgOK c) (hlo:Num c.lo) (hhi:Num c.hi) (ht:InT c t) {v':Vw} {log:List Mark} {done:Bool} (T:Tr c t v (v.th t) v' log done):Kept c v v' ro pa rt co t log done:=by
 have L:=I.loc t ht
 cases T with
 | nop s=>exact Zy8 I
 | start p s=>exact Zwj I hC ht p s
 | load p=>exact Zxv I hC ht p
 | casF p hw hw2=>exact ZxV I hC ht p hw
 | same p e=>exact ZoV I hC ht (by omega) (b':=v.b) (fun _ _ _ _=>rfl) I.num.1
 | cas p e =>
   have hy:=L.y p
   have hny:Num (v.th t).y:=by rw [hy];exact ZpE hlo hhi _ _ L.nx (L.ops (by omega))
   rw [<- e]
   exact ZoV I hC ht (by omega) (b':=setb v.b (v.th t).item 0 (v.th t).y) (fun i m h1 h2=>ZcU (fun x=>by omega)) (Ziy I.num.1 hny)
 | on25 p o=>exact ZxR I hC ht p o
 | look1 p k=>exact ZxL I hC ht p k
 | look0 p=>exact ZwM I hC ht p
 | lookL p=>exact Zyn I hC ht p
 | take p n e=>exact Zyt I hC ht p e
 | takeF p=>exact ZtB I hC ht (.inl p)
 | join p n e=>exact Zyd I hC ht p e
 | joinF p=>exact ZtB I hC ht (.inr p)
 | seeF p a e=>exact ZyQ I hC ht p
 | seeD p a k=>exact Zyv I hC ht p k
 | close p a e=>exact Zsi I hC ht (.inl ⟨p,e⟩)
 | closeF p=>exact Zu5 I hC ht p
 | takeB p w=>exact Zv4 I hC ht p
 | clear p a=>exact Zsi I hC ht (.inr p)
 | box11 p=>exact Ztq I hC ht (.inl ⟨p,rfl⟩)
 | dep p n=>exact ZzR I hC ht p
 | told p e=>exact Zyx I hC ht p e
 | res p=>exact Zze I hC ht p
 | tell1 p a w=>exact Zwd I hC hlo hhi ht p
 | tell2 p a w=>exact ZwP I hC ht p
 | box17 p=>exact Ztq I hC ht (.inr ⟨p,rfl⟩)
 | open18 p=>exact Zsu I hC ht (.inl p) ⟨rfl,rfl,rfl,rfl,rfl,rfl⟩ ⟨rfl,rfl,rfl⟩ (.inl rfl)
 | swap20 p s w=>exact ZrN I hC ht s.1 p ⟨rfl,rfl,rfl,rfl,rfl,rfl⟩ ⟨rfl,rfl,rfl⟩ (.inl rfl)
 | swap23 p s=>exact ZrN I hC ht s.1 p ⟨rfl,rfl,rfl,rfl,rfl,rfl⟩ ⟨rfl,rfl,rfl⟩ (.inr rfl)
 | shut20 p e=>exact Zne I hC ht (.inr (.inl p)) e ⟨rfl,rfl,rfl,rfl,rfl,rfl⟩ rfl L.nw (fun _=>L.ari.2.2.1 (by omega)) (.inl rfl)
 | shutF p e=>exact Zg4 I hC ht (.inr (.inl p)) ⟨rfl,rfl,rfl,rfl,rfl,rfl⟩ ⟨rfl,rfl,rfl⟩ (.inr ⟨rfl,e⟩)
 | cap21 p w e=>exact Zzt I hC ht p w e
 | capF p=>exact ZxJ I hC ht p
 | absorb p w=>exact Zvi I hC ht p w
 | spinF p e=>exact Zg4 I hC ht (.inr (.inr (.inl p))) ⟨rfl,rfl,rfl,rfl,rfl,rfl⟩ ⟨rfl,rfl,rfl⟩ (.inr ⟨rfl,e⟩)
 | spinL p e=>exact Zg4 I hC ht (.inr (.inr (.inl p))) ⟨rfl,rfl,rfl,rfl,rfl,rfl⟩ ⟨rfl,rfl,rfl⟩ (.inl (.inr (.inr (.inl p))))
 | spinO p e=>exact Zg4 I hC ht (.inr (.inr (.inl p))) ⟨rfl,rfl,rfl,rfl,rfl,rfl⟩ ⟨rfl,rfl,rfl⟩ (.inl (.inr (.inr (.inr rfl))))
 | open24 p=>exact Zsu I hC ht (.inr p) ⟨rfl,rfl,rfl,rfl,rfl,rfl⟩ ⟨rfl,rfl,rfl⟩ (.inr rfl)
 | leave p e hw hw2 o =>
   have hly:=L.ari.2.2.1 (by omega)
   have hcl:=hC.layers
   cases o with
   | up g =>
     have g:(v.th t).layer<c.layers:=g
     exact Zne I hC ht (.inr (.inr (.inr p))) e ⟨rfl,rfl,rfl,rfl,rfl,rfl⟩ rfl hw (fun _=>by show 1<=Zad .i64 ((v.th t).layer+1)/\Zad .i64 ((v.th t).layer+1)<=c.layers;rw [Zat (by omega) (by omega)];omega) (.inr (.inl rfl))
   | cell=>exact Zne I hC ht (.inr (.inr (.inr p))) e ⟨rfl,rfl,rfl,rfl,rfl,rfl⟩ rfl hw (fun k=>absurd (show (17:Int)<=2 from k) (by decide)) (.inr (.inr rfl))
 | leaveF p e=>exact Zg4 I hC ht (.inr (.inr (.inr p))) ⟨rfl,rfl,rfl,rfl,rfl,rfl⟩ ⟨rfl,rfl,rfl⟩ (.inr ⟨rfl,e⟩)
end
end Go.Proofs.Mill
/- What is kept, so that all goes on: who holds what is not free; who joined; whose batch is ahead. -/
namespace Go.Proofs.Mill
structure Inv2 (c:Config) (v:Vw):Prop where
  w1:∀ i m,0<=i->i<c.items->1<=m->m<=Zaz c->v.b i m≠0->∃ h,InT c h/\(v.th h).item=i/\m∈ZaV (v.th h)
  w2:∀ i m j,0<=i->i<c.items->1<=m->m<=Zaz c->InT c j->v.b i m=8*(j+1)+2->(v.th j).item=i/\(v.th j).stop=m/\7<=(v.th j).phase/\(v.th j).phase<=12
  w3:∀ j,InT c j->7<=(v.th j).phase/\(v.th j).phase<=12/\0<(v.th j).stop->∀ m∈(v.th j).held,(v.th j).stop<m
  w6:∀ p,InT c p->∀ k∈ZaP (v.th p),1<=k.ahead
  w9:∀ j,InT c j->(v.th j).phase=20\/(v.th j).phase=21->InT c (v.th j).who
  w10:∀ j,InT c j->1<=(v.th j).width/\(v.th j).width<=c.width
section
variable {c:Config} {v:Vw} {t:Int} {h':Thread}
theorem Inv2.same (J:Inv2 c v) (ht:InT c t) {v':Vw} (hv:v'.th=seta v.th t h') (hb:∀ i m,1<=m->m<=Zaz c->v'.b i m=v.b i m) (hd:td h'=td (v.th t)) (hh:(7<=h'.phase/\h'.phase<=12/\0<h'.stop)->h'.held=(v.th t).held)
   (hk:∀ k∈ZaP h',1<=k.ahead) (h9:h'.phase=20\/h'.phase=21->InT c h'.who) (h10:1<=h'.width/\h'.width<=c.width):Inv2 c v':=by
 have e:∀ j,td (v'.th j)=td (v.th j):=fun j=>by
   rw [hv]
   by_cases e:j=t
   . rw [e,Zag];exact hd
   . rw [Zaf e]
 refine ⟨fun i m a1 a2 a3 a4 hw=>?_,fun i m j a1 a2 a3 a4 hj hw=>?_,fun j hj hp m hm=>?_,fun p hp k hkm=>?_,fun j hj hp=>?_,fun j hj=>?_⟩
 . rw [hb i m a3 a4] at hw
   obtain ⟨h,x,y,z⟩:=J.w1 i m a1 a2 a3 a4 hw
   exact ⟨h,x,by rw [ZdF (e h)];exact y,by rw [Zhl (e h)];exact z⟩
 . rw [hb i m a3 a4] at hw
   obtain ⟨x,y,z1,z2⟩:=J.w2 i m j a1 a2 a3 a4 hj hw
   have:=(Zor (e j)).2 ⟨z1,z2,by omega⟩
   exact ⟨by rw [ZdF (e j)];exact x,by rw [ZhA (e j)];exact y,this.1,this.2.1⟩
 . have hp':=(Zor (e j)).1 hp
   rw [ZhA (e j)]
   refine J.w3 j hj hp' m ?_
   rw [hv] at hm hp
   by_cases e2:j=t
   . rw [e2,Zag] at hm hp
     rw [e2,<- hh hp];exact hm
   . rwa [Zaf e2] at hm
 . rw [hv] at hkm
   by_cases e2:p=t
   . rw [e2,Zag] at hkm;exact hk k hkm
   . rw [Zaf e2] at hkm;exact J.w6 p hp k hkm
 . rw [hv] at hp ⊢
   by_cases e2:j=t
   . rw [e2,Zag] at hp ⊢;exact h9 hp
   . rw [Zaf e2] at hp ⊢;exact J.w9 j hj hp
 . rw [hv]
   by_cases e2:j=t
   . rw [e2,Zag];exact h10
   . rw [Zaf e2];exact J.w10 j hj
theorem Inv2.write (J:Inv2 c v) (ht:InT c t) {i0 m0 w:Int} {v':Vw} (hv:v'.th=seta v.th t h') (hi0:(v.th t).item=i0) (hi:h'.item=i0)
   (hvb:v'.b=setb v.b i0 m0 w)
   (w1:w≠0->(m0∈ZaV h'\/∃ h,InT c h/\h≠t/\(v.th h).item=i0/\m0∈ZaV (v.th h)))
   (w1':∀ m,m≠m0->m∈ZaV (v.th t)->m∈ZaV h')
   (w2:∀ j,InT c j->w=8*(j+1)+2->j=t/\h'.stop=m0/\7<=h'.phase/\h'.phase<=12)
   (w2':∀ m,m≠m0->(v.th t).stop=m->7<=(v.th t).phase/\(v.th t).phase<=12->1<=m->v.b i0 m=8*(t+1)+2->h'.stop=m/\7<=h'.phase/\h'.phase<=12)
   (w3:7<=h'.phase/\h'.phase<=12/\0<h'.stop->∀ m∈h'.held,h'.stop<m)
   (hk:∀ k∈ZaP h',1<=k.ahead) (h9:h'.phase=20\/h'.phase=21->InT c h'.who) (h10:1<=h'.width/\h'.width<=c.width):Inv2 c v':=by
 refine ⟨fun i m a1 a2 a3 a4 hw=>?_,fun i m j a1 a2 a3 a4 hj hw=>?_,fun j hj hp m hm=>?_,fun p hp k hkm=>?_,fun j hj hp=>?_,fun j hj=>?_⟩
 . rw [hvb] at hw
   rw [hv]
   by_cases e:i=i0/\m=m0
   . obtain ⟨rfl,rfl⟩:=e
     rw [ZeJ] at hw
     rcases w1 hw with x | ⟨h,x,y,z1,z2⟩
     . exact ⟨t,ht,by rw [Zag];exact hi,by rw [Zag];exact x⟩
     . exact ⟨h,x,by rw [Zaf y];exact z1,by rw [Zaf y];exact z2⟩
   . rw [ZcU e] at hw
     obtain ⟨h,x,y,z⟩:=J.w1 i m a1 a2 a3 a4 hw
     by_cases eh:h=t
     . rw [eh] at y z
       refine ⟨t,ht,by rw [Zag,hi,<- y,hi0],?_⟩
       rw [Zag]
       exact w1' m (fun x=>e ⟨by rw [<- y,hi0],x⟩) z
     . exact ⟨h,x,by rw [Zaf eh];exact y,by rw [Zaf eh];exact z⟩
 . rw [hvb] at hw
   rw [hv]
   by_cases e:i=i0/\m=m0
   . obtain ⟨rfl,rfl⟩:=e
     rw [ZeJ] at hw
     obtain ⟨x,y,z⟩:=w2 j hj hw
     rw [x,Zag]
     exact ⟨hi,y,z⟩
   . rw [ZcU e] at hw
     obtain ⟨x,y,z⟩:=J.w2 i m j a1 a2 a3 a4 hj hw
     by_cases ej:j=t
     . rw [ej] at x y z hw ⊢
       rw [Zag]
       have hii:i=i0:=by rw [<- x,hi0]
       rw [hii] at hw
       obtain ⟨q1,q2⟩:=w2' m (fun x=>e ⟨hii,x⟩) y z a3 hw
       exact ⟨by rw [hi,hii],q1,q2⟩
     . rw [Zaf ej];exact ⟨x,y,z⟩
 . rw [hv] at hp hm ⊢
   by_cases e:j=t
   . rw [e,Zag] at hp hm ⊢;exact w3 hp m hm
   . rw [Zaf e] at hp hm ⊢;exact J.w3 j hj hp m hm
 . rw [hv] at hkm
   by_cases e2:p=t
   . rw [e2,Zag] at hkm;exact hk k hkm
   . rw [Zaf e2] at hkm;exact J.w6 p hp k hkm
 . rw [hv] at hp ⊢
   by_cases e2:j=t
   . rw [e2,Zag] at hp ⊢;exact h9 hp
   . rw [Zaf e2] at hp ⊢;exact J.w9 j hj hp
 . rw [hv]
   by_cases e2:j=t
   . rw [e2,Zag];exact h10
   . rw [Zaf e2];exact J.w10 j hj
theorem ZhE {h:Thread}:∀ k∈ZaP h,k∈h.kids:=by
 intro k hk
 unfold ZaP at hk
 split at hk
 . cases hk
 . split at hk
   . exact List.mem_of_mem_drop hk
   . exact hk
theorem Zjp {h:Thread} (p:h.phase≠0/\h.phase≠15/\h.phase≠16):ZaP h=h.kids:=by
 unfold ZaP
 rw [if_neg p.1,if_neg (by omega)]
theorem ZyZ {α:Type} {l:List α} {i j:Nat} (h:i<=j):∀ k∈l.drop j,k∈l.drop i:=by
 intro k hk
 rw [show j=i+(j-i) by omega,<- List.drop_drop] at hk
 exact List.mem_of_mem_drop hk
section
variable {ro pa rt:Int->Int} {co:Int->Option Int}
theorem Inv2.go (J:Inv2 c v) (I:Inv c v ro pa rt co) (ht:InT c t) {v':Vw} (hv:v'.th=seta v.th t h') (hb:∀ i m,1<=m->m<=Zaz c->v'.b i m=v.b i m) (hd:td h'=td (v.th t)) (hh:h'.held=(v.th t).held)
   (p:(v.th t).phase≠0/\(v.th t).phase≠15/\(v.th t).phase≠16) (hk:h'.kids=(v.th t).kids) (h9:h'.phase=20\/h'.phase=21->InT c h'.who) (h10:1<=h'.width/\h'.width<=c.width):Inv2 c v' :=
 J.same ht hv hb hd (fun _=>hh) (fun k hkm=>J.w6 t ht k (by rw [Zjp p];rw [<- hk];exact ZhE k hkm)) h9 h10
theorem Inv2.settle (J:Inv2 c v) (I:Inv c v ro pa rt co) (ht:InT c t) {g:Thread} {v':Vw} (hv:v'.th=seta v.th t (Zbq g)) (e:g.item=(v.th t).item/\g.stop=(v.th t).stop/\g.width=(v.th t).width)
   (p:(v.th t).phase<4\/12<(v.th t).phase) (hk:∀ k∈ZaP (Zbq g),1<=k.ahead) (hb:∀ i m,1<=m->m<=Zaz c->v'.b i m=v.b i m):Inv2 c v':=by
 obtain ⟨s1,s2,s3,s4,s5,s6,s7,s8,s9⟩:=Zdp g
 have sp:=Zes g
 have W:=J.w10 t ht
 refine J.same ht hv hb (ZcV (by rw [s4,e.1]) (by rw [s5,e.2.1]) (by omega) (by rw [ZaF (by omega),ZaF (by omega)])) (by omega) hk (by omega) (by rw [s7,e.2.2];exact W)
theorem Inv2.free (J:Inv2 c v) (I:Inv c v ro pa rt co) (ht:InT c t) (p:(v.th t).phase=8\/(v.th t).phase=10):Inv2 c (put (wB v (v.th t).item (Zbm (v.th t)) 0) t (Zk9 (v.th t))):=by
 have L:=I.loc t ht
 have A:=L.ari
 have ha:=A.2.2.2.2.2.2.1 (by omega)
 have W:=J.w10 t ht
 have hh:=L.held (by omega)
 have hl:(v.th t).held.length<=4294967296:=by
   have:=Zqe hh.1 hh.2
   omega
 have hw:Zad .i64 ((v.th t).at_+1)=(v.th t).at_+1:=Zat (by omega) (by omega)
 have hd:=Zb2 { (v.th t) with at_:=Zad .i64 ((v.th t).at_+1) }
 have hu:=ZgA (h:={ (v.th t) with at_:=Zad .i64 ((v.th t).at_+1) }) (by show 0<=Zad .i64 _;rw [hw];omega)
 obtain ⟨h',hh'⟩:∃ h',h'=Zk9 (v.th t):=⟨_,rfl⟩
 have hd:(h'.phase=7\/(h'.phase=11/\0<(v.th t).stop)\/(h'.phase=2/\¬0<(v.th t).stop)):=by
   rw [hh']
   rcases hd with x | ⟨_,x⟩
   . exact .inl x.1
   . exact .inr x
 have hu:ZaV h'=(v.th t).held.drop ((v.th t).at_.toNat+1):=by
   rw [hh']
   refine Eq.trans hu ?_
   show (v.th t).held.drop (Zad .i64 ((v.th t).at_+1)).toNat=_
   rw [hw,show ((v.th t).at_+1).toNat=(v.th t).at_.toNat+1 by omega]
 have e:h'.kids=(v.th t).kids/\h'.held=(v.th t).held/\h'.item=(v.th t).item/\h'.stop=(v.th t).stop/\h'.width=(v.th t).width:=by rw [hh'];exact ⟨rfl,rfl,rfl,rfl,rfl⟩
 obtain ⟨e1,e2,e3,e4,e5⟩:=e
 rw [<- hh']
 have hn:(v.th t).at_.toNat<(v.th t).held.length:=by omega
 refine J.write ht rfl rfl e3 rfl (fun x=>(x rfl).elim) (fun m hm hmu=>?_) (fun j hj x=>?_) (fun m hm hs hp h1 hb=>?_) (fun hp m hm=>?_) (fun k hk=>?_) (by omega) (by rw [e5];exact W)
 . rw [Zbu (by omega),List.drop_eq_getElem_cons hn] at hmu
   rw [hu]
   rcases List.mem_cons.1 hmu with x | x
   . exfalso
     apply hm
     rw [x]
     unfold Zbm
     rw [List.getD_eq_getElem?_getD,List.getElem?_eq_getElem hn]
     rfl
   . exact x
 . unfold InT at hj;omega
 . rw [e4]
   exact ⟨hs,by omega,by omega⟩
 . rw [e4] at hp ⊢
   rw [e2] at hm
   exact J.w3 t ht ⟨by omega,by omega,hp.2.2⟩ m hm
 . have:=ZhE k hk
   rw [e1] at this
   exact J.w6 t ht k (by rw [Zjp (by omega)];exact this)
theorem Inv2.step (J:Inv2 c v) (I:Inv c v ro pa rt co) (hC:CfgOK c) (ht:InT c t) {v':Vw} {log:List Mark} {done:Bool} (T:Tr c t v (v.th t) v' log done):Inv2 c v':=by
 have L:=I.loc t ht
 have A:=L.ari
 have hT:=L.tab
 have W:=J.w10 t ht
 have hcw:=hC.width
 have nn:∀ {i m w:Int},(m<=0\/Zaz c<m)->∀ a k,1<=k->k<=Zaz c->setb v.b i m w a k=v.b a k:=fun hm a k h1 h2=>ZcU (fun x=>by omega)
 have same:∀ i m,1<=m->m<=Zaz c->v.b i m=v.b i m:=fun _ _ _ _=>rfl
 have u0:∀ {h:Thread},(h.phase<4\/10<h.phase)->ZaV h=[]:=fun p=>ZaF p
 have g0:∀ {h':Thread},h'.item=(v.th t).item->h'.stop=(v.th t).stop->(h'.phase<4\/12<h'.phase)->((v.th t).phase<4\/12<(v.th t).phase)->td h'=td (v.th t):=fun a b p q=>ZcV a b (by omega) (by rw [u0 (by omega),u0 (by omega)])
 have k0:∀ {h':Thread},h'.kids=(v.th t).kids->(v.th t).phase≠0/\(v.th t).phase≠15/\(v.th t).phase≠16->∀ k∈ZaP h',1<=k.ahead:=fun e p k hk=>J.w6 t ht k (by rw [Zjp p,<- e];exact ZhE k hk)
 cases T with
 | nop s=>exact J
 | start p s =>
   have O:=L.one p
   have hs:(v.th t).stop=0:=A.2.2.2.2.1 (.inr p)
   have hu:ZaV (v.th t)=[]:=u0 (by omega)
   cases s with
   | climb d=>exact J.go I ht rfl same (ZcV rfl rfl (by dsimp only;omega) (by rw [hu,ZbX (by dsimp only;omega)];exact O.1)) rfl (by omega) rfl (by dsimp only;omega) W
   | funnel d=>exact J.go I ht rfl same (g0 rfl rfl (by dsimp only;omega) (by omega)) rfl (by omega) rfl (by dsimp only;omega) W
   | cell=>exact J.go I ht rfl same (g0 rfl rfl (by dsimp only;omega) (by omega)) rfl (by omega) rfl (by dsimp only;omega) W
 | load p=>exact J.go I ht rfl same (g0 rfl rfl (by dsimp only;omega) (by omega)) rfl (by omega) rfl (by dsimp only;omega) W
 | casF p hw hw2=>exact J.go I ht rfl same (g0 rfl rfl (by dsimp only;omega) (by omega)) rfl (by omega) rfl (by dsimp only;omega) (hw2 W)
 | same p e=>exact J.settle I ht rfl ⟨rfl,rfl,rfl⟩ (by omega) (k0 ((Zdp _).2.1.trans rfl) (by omega)) same
 | cas p e=>exact J.settle I ht rfl ⟨rfl,rfl,rfl⟩ (by omega) (k0 ((Zdp _).2.1.trans rfl) (by omega)) (nn (.inl (Int.le_refl 0)))
 | on25 p o =>
   cases o with
   | up g=>exact J.go I ht rfl same (g0 rfl rfl (by dsimp only;omega) (by omega)) rfl (by omega) rfl (by dsimp only;omega) W
   | cell=>exact J.go I ht rfl same (g0 rfl rfl (by dsimp only;omega) (by omega)) rfl (by omega) rfl (by dsimp only;omega) W
 | look1 p k=>exact J.go I ht rfl same (ZcV rfl rfl (by dsimp only;omega) (by rw [ZbX (by dsimp only;omega),ZbX (by omega)])) rfl (by omega) rfl (by dsimp only;omega) W
 | look0 p=>exact J.go I ht rfl same (ZcV rfl rfl (by dsimp only;omega) (by rw [ZbX (by dsimp only;omega),ZbX (by omega)])) rfl (by omega) rfl (by dsimp only;omega) W
 | lookL p =>
   have hs:(v.th t).stop=0:=A.2.2.2.2.1 (.inl (by omega))
   have hd:=Zb2 { (v.th t) with at_:=0 }
   have hu:=ZgA (h:={ (v.th t) with at_:=0 }) (Int.le_refl 0)
   obtain ⟨h',hh'⟩:∃ h',h'=Zgo (v.th t):=⟨_,rfl⟩
   have e:h'.kids=(v.th t).kids/\h'.held=(v.th t).held/\h'.item=(v.th t).item/\h'.stop=(v.th t).stop/\h'.width=(v.th t).width:=by rw [hh'];exact ⟨rfl,rfl,rfl,rfl,rfl⟩
   have hd:h'.phase=7\/h'.phase=11\/h'.phase=2:=by
     rw [hh']
     rcases hd with x | ⟨_,x | x⟩
     . exact .inl x.1
     . exact .inr (.inl x.1)
     . exact .inr (.inr x.1)
   have hu:ZaV h'=(v.th t).held:=by rw [hh'];exact hu
   rw [<- hh']
   exact J.go I ht rfl same (ZcV e.2.2.1 e.2.2.2.1 (by omega) (by rw [hu,ZbX (by omega)])) e.2.1 (by omega) e.1 (by omega) (by rw [e.2.2.2.2];exact W)
 | take p n e =>
   have hn:=L.node (by omega)
   have hs:=A.2.2.2.2.1 (by omega)
   obtain ⟨h',hh'⟩:∃ h',h'=Zdf (v.th t):=⟨_,rfl⟩
   have f1:h'.kids=(v.th t).kids/\h'.item=(v.th t).item/\h'.stop=(v.th t).stop/\h'.width=(v.th t).width/\h'.held=(v.th t).held++[(v.th t).node]:=by
     rw [hh'];unfold Zdf;split <;> exact ⟨rfl,rfl,rfl,rfl,rfl⟩
   have f2:h'.phase=4\/(h'.phase=7/\h'.at_=0):=by
     rw [hh'];unfold Zdf
     split
     . exact .inl rfl
     . refine .inr ⟨?_,rfl⟩
       rcases Zb2 { (v.th t) with phase:=4,held:=(v.th t).held++[(v.th t).node],node:=(v.th t).node / 2,at_:=0 } with g | g
       . exact g.1
       . exfalso
         apply g.1
         show (0:Int)<=0/\(0:Int)<(((v.th t).held++[(v.th t).node]).length:Int)
         rw [List.length_append,List.length_singleton];omega
   obtain ⟨g2,g4,g5,g7,g8⟩:=f1
   have hun':ZaV h'=(v.th t).held++[(v.th t).node]:=by
     rcases f2 with g | g
     . rw [ZbX (by omega),g8]
     . rw [Zbu (by omega),g8,g.2];rfl
   rw [<- hh']
   refine J.write ht rfl rfl g4 rfl (fun _=>.inl (by rw [hun'];exact List.mem_append_right _ (List.mem_singleton.2 rfl))) (fun m hm hmu=>?_) (fun j hj x=>by omega) (fun m _ _ hp _ _=>by omega) (fun hp=>by omega) (k0 g2 (by omega)) (by omega) (by rw [g7];exact W)
   rw [ZbX (by omega)] at hmu
   rw [hun']
   exact List.mem_append_left _ hmu
 | takeF p=>exact J.go I ht rfl same (ZcV rfl rfl (by dsimp only;omega) (by rw [ZbX (by dsimp only;omega),ZbX (by omega)])) rfl (by omega) rfl (by dsimp only;omega) W
 | join p n e =>
   have hn:=L.node (by omega)
   have hs:=A.2.2.2.2.1 (by omega)
   have hi:=L.item (by omega)
   obtain ⟨k,hk,hx⟩:=L.x6 p
   have hd:=Zb2 { (v.th t) with phase:=4,stop:=(v.th t).node,at_:=0 }
   have hu:=ZgA (h:={ (v.th t) with phase:=4,stop:=(v.th t).node,at_:=0 }) (Int.le_refl 0)
   obtain ⟨h',hh'⟩:∃ h',h'=Zgo { (v.th t) with phase:=4,stop:=(v.th t).node }:=⟨_,rfl⟩
   have f:h'.kids=(v.th t).kids/\h'.held=(v.th t).held/\h'.item=(v.th t).item/\h'.stop=(v.th t).node/\h'.width=(v.th t).width:=by rw [hh'];exact ⟨rfl,rfl,rfl,rfl,rfl⟩
   have hd:h'.phase=7\/h'.phase=11:=by
     rw [hh']
     rcases hd with x | ⟨_,x | x⟩
     . exact .inl x.1
     . exact .inr x.1
     . have:=x.2;dsimp only at this;omega
   have hu:ZaV h'=(v.th t).held:=by rw [hh'];exact hu
   obtain ⟨g1,g2,g3,g4,g5⟩:=f
   rw [<- hh']
   have hold:v.b (v.th t).item (v.th t).node≠0:=by rw [e,hx];unfold InT at hk;omega
   obtain ⟨q,q1,q2,q3⟩:=J.w1 _ _ hi.1 hi.2 n.1 n.2 hold
   have hqt:q≠t:=by
     intro x
     rw [x,ZbX (by omega)] at q3
     have:=hn.2 _ q3
     omega
   refine J.write ht rfl rfl g3 rfl (fun _=>.inr ⟨q,q1,hqt,q2,q3⟩) (fun m hm hmu=>?_) (fun j hj x=>⟨by omega,g4,by omega,by omega⟩) (fun m _ _ hp _ _=>by omega) (fun hp m hm=>?_) (k0 g1 (by omega)) (by omega) (by rw [g5];exact W)
   . rw [ZbX (by omega)] at hmu
     rw [hu];exact hmu
   . rw [g2] at hm
     rw [g4]
     exact hn.2 m hm
 | joinF p=>exact J.go I ht rfl same (ZcV rfl rfl (by dsimp only;omega) (by rw [ZbX (by dsimp only;omega),ZbX (by omega)])) rfl (by omega) rfl (by dsimp only;omega) W
 | seeF p a e=>exact J.go I ht rfl same (ZcV rfl rfl (by dsimp only;omega) (by rw [Zbu (by dsimp only;omega),Zbu (by omega)])) rfl (by omega) rfl (by dsimp only;omega) W
 | seeD p a k=>exact J.go I ht rfl same (ZcV rfl rfl (by dsimp only;omega) (by rw [Zbu (by dsimp only;omega),Zbu (by omega)])) rfl (by omega) rfl (by dsimp only;omega) W
 | close p a e=>exact J.free I ht (.inl p)
 | closeF p=>exact J.go I ht rfl same (ZcV rfl rfl (by dsimp only;omega) (by rw [Zbu (by dsimp only;omega),Zbu (by omega)])) rfl (by omega) rfl (by dsimp only;omega) W
 | takeB p w =>
   have hkn:=L.kidsN (by omega)
   refine J.same ht rfl same (ZcV rfl rfl (by dsimp only;omega) (by rw [Zbu (by dsimp only;omega),Zbu (by omega)])) (fun _=>rfl) (fun k hk=>?_) (by dsimp only;omega) W
   rcases List.mem_append.1 (ZhE k hk) with x | x
   . exact J.w6 t ht k (by rw [Zjp (by omega)];exact x)
   . rw [List.mem_singleton] at x
     rw [x]
     show 1<=((v.th t).batch.length:Int)
     omega
 | clear p a=>exact J.free I ht (.inr p)
 | box11 p=>exact J.go I ht rfl same (ZcV rfl rfl (by dsimp only;omega) (by rw [u0 (by dsimp only;omega),u0 (by omega)])) rfl (by omega) rfl (by dsimp only;omega) W
 | dep p n =>
   have hi:=L.item (by omega)
   have hold:v.b (v.th t).item (v.th t).stop≠0:=by
     rw [I.tree.t4 t ht ⟨by omega,by omega,by omega⟩]
     unfold InT at ht
     omega
   obtain ⟨q,q1,q2,q3⟩:=J.w1 _ _ hi.1 hi.2 n.1 n.2 hold
   have hqt:q≠t:=by
     intro x
     rw [x,u0 (by omega)] at q3
     cases q3
   refine J.write ht rfl rfl rfl rfl (fun _=>.inr ⟨q,q1,hqt,q2,q3⟩) (fun m hm hmu=>?_) (fun j hj x=>by omega) (fun m hm hs _ _ _=>(hm hs.symm).elim) (fun hp=>by dsimp only at hp;omega) (k0 rfl (by omega)) (by dsimp only;omega) W
   rw [u0 (by omega)] at hmu
   cases hmu
 | told p e=>exact J.go I ht rfl same (g0 rfl rfl (by dsimp only;omega) (by omega)) rfl (by omega) rfl (by dsimp only;omega) W
 | res p=>exact J.settle I ht rfl ⟨rfl,rfl,rfl⟩ (by omega) (k0 ((Zdp _).2.1.trans rfl) (by omega)) same
 | tell1 p a w =>
   refine J.same ht rfl same (g0 rfl rfl (by dsimp only;omega) (by omega)) (fun x=>by dsimp only at x;omega) (fun k hk=>?_) (by dsimp only;omega) W
   refine J.w6 t ht k ?_
   unfold ZaP at hk ⊢
   rw [if_neg (show ¬(16:Int)=0 by decide),if_pos (show (16:Int)=15\/(16:Int)=16 from .inr rfl)] at hk
   rw [if_neg (by omega),if_pos (by omega)]
   exact hk
 | tell2 p a w =>
   have hkn:=L.kidsN (by omega)
   have hkl:=I.short hC (j:=t) (fun x=>by have:=(I.busy ht).1 x;omega)
   refine J.settle I ht rfl ⟨rfl,rfl,rfl⟩ (by omega) (fun k hk=>?_) same
   refine J.w6 t ht k ?_
   obtain ⟨g,hg⟩:∃ g:Thread,g={ (v.th t) with at_:=Zad .i64 ((v.th t).at_+1) }:=⟨_,rfl⟩
   rw [<- hg] at hk
   have e1:g.kids=(v.th t).kids:=by rw [hg]
   have e2:g.at_=(v.th t).at_+1:=by rw [hg];exact Zat (by omega) (by omega)
   obtain ⟨s1,s2,s3,s4,s5,s6,s7,s8,s9⟩:=Zdp g
   unfold ZaP at hk ⊢
   rw [if_neg (by omega),if_pos (by omega)]
   rcases Zes g with x | x
   . rw [if_pos x.1] at hk;cases hk
   . rw [if_neg (by omega),if_pos (.inl x.1),s2,s9,e1,e2] at hk
     exact ZyZ (by omega) k hk
 | box17 p=>exact J.go I ht rfl same (g0 rfl rfl (by dsimp only;omega) (by omega)) rfl (by omega) rfl (by dsimp only;omega) W
 | open18 p=>exact J.go I ht rfl same (g0 rfl rfl (by dsimp only;omega) (by omega)) rfl (by omega) rfl (by dsimp only;omega) W
 | swap20 p s w=>exact J.go I ht rfl (nn (.inr s.1)) (g0 rfl rfl (by dsimp only;omega) (by omega)) rfl (by omega) rfl (fun _=>w.1) W
 | swap23 p s=>exact J.go I ht rfl (nn (.inr s.1)) (g0 rfl rfl (by dsimp only;omega) (by omega)) rfl (by omega) rfl (by dsimp only;omega) W
 | shut20 p e=>exact J.go I ht rfl same (g0 rfl rfl (by dsimp only;omega) (by omega)) rfl (by omega) rfl (fun _=>J.w9 t ht (.inl p)) W
 | shutF p e=>exact J.go I ht rfl same (g0 rfl rfl (by dsimp only;omega) (by omega)) rfl (by omega) rfl (by dsimp only;omega) W
 | cap21 p w e=>exact J.go I ht rfl same (g0 rfl rfl (by dsimp only;omega) (by omega)) rfl (by omega) rfl (by dsimp only;omega) W
 | capF p=>exact J.go I ht rfl same (g0 rfl rfl (by dsimp only;omega) (by omega)) rfl (by omega) rfl (by dsimp only;omega) W
 | absorb p w =>
   have hkn:=L.kidsN (by omega)
   refine J.same ht rfl same (g0 rfl rfl (by dsimp only;omega) (by omega)) (fun _=>rfl) (fun k hk=>?_) (by dsimp only;omega) W
   rcases List.mem_append.1 (ZhE k hk) with x | x
   . exact J.w6 t ht k (by rw [Zjp (by omega)];exact x)
   . rw [List.mem_singleton] at x
     rw [x]
     show 1<=((v.th t).batch.length:Int)
     omega
 | spinF p e=>exact J.go I ht rfl same (g0 rfl rfl (by dsimp only;omega) (by omega)) rfl (by omega) rfl (by dsimp only;omega) W
 | spinL p e=>exact J.go I ht rfl same (g0 rfl rfl (by dsimp only;omega) (by omega)) rfl (by omega) rfl (by dsimp only;omega) W
 | spinO p e=>exact J.go I ht rfl same (g0 rfl rfl (by dsimp only;omega) (by omega)) rfl (by omega) rfl (by dsimp only;omega) W
 | open24 p=>exact J.go I ht rfl same (g0 rfl rfl (by dsimp only;omega) (by omega)) rfl (by omega) rfl (by dsimp only;omega) W
 | leave p e hw hw2 o =>
   cases o with
   | up g=>exact J.go I ht rfl same (g0 rfl rfl (by dsimp only;omega) (by omega)) rfl (by omega) rfl (by dsimp only;omega) (hw2 W)
   | cell=>exact J.go I ht rfl same (g0 rfl rfl (by dsimp only;omega) (by omega)) rfl (by omega) rfl (by dsimp only;omega) (hw2 W)
 | leaveF p e=>exact J.go I ht rfl same (g0 rfl rfl (by dsimp only;omega) (by omega)) rfl (by omega) rfl (by dsimp only;omega) W
theorem Inv2.invoke (J:Inv2 c v) (ht:InT c t) (hp:(v.th t).phase=0) (f:h'.phase=1/\h'.kids=[]/\h'.width=(v.th t).width):Inv2 c { v with th:=seta v.th t h' }:=by
 have hu:ZaV (v.th t)=[]:=ZaF (by omega)
 have W:=J.w10 t ht
 refine ⟨fun i m a1 a2 a3 a4 hw=>?_,fun i m j a1 a2 a3 a4 hj hw=>?_,fun j hj hp2 m hm=>?_,fun p hp2 k hk=>?_,fun j hj hp2=>?_,fun j hj=>?_⟩
 . obtain ⟨q,x,y,z⟩:=J.w1 i m a1 a2 a3 a4 hw
   have e:q≠t:=by intro e;rw [e,hu] at z;cases z
   exact ⟨q,x,by show (seta v.th t h' q).item=i;rw [Zaf e];exact y,by show m∈ZaV (seta v.th t h' q);rw [Zaf e];exact z⟩
 . obtain ⟨x,y,z1,z2⟩:=J.w2 i m j a1 a2 a3 a4 hj hw
   have e:j≠t:=by intro e;rw [e] at z1;omega
   show (seta v.th t h' j).item=i/\(seta v.th t h' j).stop=m/\7<=(seta v.th t h' j).phase/\(seta v.th t h' j).phase<=12
   rw [Zaf e]
   exact ⟨x,y,z1,z2⟩
 . have hp2:7<=(seta v.th t h' j).phase/\(seta v.th t h' j).phase<=12/\0<(seta v.th t h' j).stop:=hp2
   have hm:m∈(seta v.th t h' j).held:=hm
   show (seta v.th t h' j).stop<m
   have e:j≠t:=by intro e;rw [e,Zag] at hp2;omega
   rw [Zaf e] at hp2 hm ⊢
   exact J.w3 j hj hp2 m hm
 . have hk:k∈ZaP (seta v.th t h' p):=hk
   by_cases e:p=t
   . rw [e,Zag] at hk
     have:=ZhE k hk
     rw [f.2.1] at this
     cases this
   . rw [Zaf e] at hk;exact J.w6 p hp2 k hk
 . have hp2:(seta v.th t h' j).phase=20\/(seta v.th t h' j).phase=21:=hp2
   show InT c (seta v.th t h' j).who
   have e:j≠t:=by intro e;rw [e,Zag] at hp2;omega
   rw [Zaf e] at hp2 ⊢
   exact J.w9 j hj hp2
 . show 1<=(seta v.th t h' j).width/\(seta v.th t h' j).width<=c.width
   by_cases e:j=t
   . rw [e,Zag,f.2.2];exact W
   . rw [Zaf e];exact J.w10 j hj
end
end
end Go.Proofs.Mill
/- What each thread still has to do. -/
namespace Go.Proofs.Mill
def lvN (n:Int):Int:=if n<=0 then 0 else if n<=1 then 1 else if n<=3 then 2 else if n<=7 then 3 else 4
theorem Zy0 {n:Int} (h0:2<=n) (h1:n<=15):lvN (n / 2)=lvN n-1:=by
 unfold lvN
 repeat' split
 all_goals omega
theorem Zrc {n:Int} (h:1<=n):1<=lvN n:=by
 unfold lvN
 repeat' split
 all_goals omega
theorem Zys {c:Config} (hC:CfgOK c) {n:Int} (h:n<=Zaz c):lvN n<=c.depth:=by
 have hd:=hC.depth
 unfold Zaz at h
 unfold lvN
 have:c.depth=0\/c.depth=1\/c.depth=2\/c.depth=3\/c.depth=4:=by omega
 rcases this with e | e | e | e | e <;> rw [e] at h ⊢ <;> simp at h <;> (repeat' split) <;> omega
def mu (c:Config) (h:Thread):Int := if h.phase<=0 then 0 else if h.phase<=1 then 6+6*c.depth+c.layers*(9+c.spin) else if h.phase<=3 then 3+2*(h.kids.length:Int) else if h.phase<=6 then 5+2*(h.kids.length:Int)+5*(h.held.length:Int)+6*lvN h.node else if h.phase<=8 then 4+2*(h.kids.length:Int)+5*((h.held.length:Int)-h.at_) else if h.phase<=9 then 3+2*(h.kids.length:Int)+5*((h.held.length:Int)-h.at_) else if h.phase<=10 then 2*(h.kids.length:Int)+5*((h.held.length:Int)-h.at_) else if h.phase<=11 then 4+2*(h.kids.length:Int) else if h.phase<=12 then 3+2*(h.kids.length:Int) else if h.phase<=13 then 2+2*(h.kids.length:Int) else if h.phase<=14 then 1+2*(h.kids.length:Int) else if h.phase<=15 then 2*((h.kids.length:Int)-h.at_) else if h.phase<=16 then 2*((h.kids.length:Int)-h.at_)-1 else if h.phase<=17 then 4+2*(h.kids.length:Int)+(c.layers-h.layer)*(9+c.spin)+(8+c.spin) else if h.phase<=18 then 4+2*(h.kids.length:Int)+(c.layers-h.layer)*(9+c.spin)+(7+c.spin) else if h.phase<=19 then 4+2*(h.kids.length:Int)+(c.layers-h.layer)*(9+c.spin)+(6+c.spin) else if h.phase<=20 then 4+2*(h.kids.length:Int)+(c.layers-h.layer)*(9+c.spin)+(5+c.spin) else if h.phase<=21 then 4+2*(h.kids.length:Int)+(c.layers-h.layer)*(9+c.spin)+(4+c.spin) else if h.phase<=22 then 4+2*(h.kids.length:Int)+(c.layers-h.layer)*(9+c.spin)+3 else if h.phase<=23 then 4+2*(h.kids.length:Int)+(c.layers-h.layer)*(9+c.spin)+2+(if 0<h.left then h.left else 0) else if h.phase<=24 then 4+2*(h.kids.length:Int)+(c.layers-h.layer)*(9+c.spin)+(3+c.spin) else if h.phase<=25 then 4+2*(h.kids.length:Int)+(c.layers-h.layer)*(9+c.spin) else 4+2*(h.kids.length:Int)+(c.layers-h.layer)*(9+c.spin)+1
section
variable {c:Config} {h:Thread}
theorem mu0 (p:h.phase=0):mu c h=0:=by
 unfold mu
 rw [if_pos (by omega)]
theorem mu1 (p:h.phase=1):mu c h=6+6*c.depth+c.layers*(9+c.spin):=by
 unfold mu
 rw [if_neg (by omega),if_pos (by omega)]
theorem mu23 (p:2<=h.phase/\h.phase<=3):mu c h=3+2*(h.kids.length:Int):=by
 unfold mu
 rw [if_neg (by omega),if_neg (by omega),if_pos (by omega)]
theorem mu46 (p:4<=h.phase/\h.phase<=6):mu c h=5+2*(h.kids.length:Int)+5*(h.held.length:Int)+6*lvN h.node:=by
 unfold mu
 iterate 3 rw [if_neg (by omega)]
 rw [if_pos (by omega)]
theorem mu78 (p:7<=h.phase/\h.phase<=8):mu c h=4+2*(h.kids.length:Int)+5*((h.held.length:Int)-h.at_):=by
 unfold mu
 iterate 4 rw [if_neg (by omega)]
 rw [if_pos (by omega)]
theorem mu9 (p:h.phase=9):mu c h=3+2*(h.kids.length:Int)+5*((h.held.length:Int)-h.at_):=by
 unfold mu
 iterate 5 rw [if_neg (by omega)]
 rw [if_pos (by omega)]
theorem mu10 (p:h.phase=10):mu c h=2*(h.kids.length:Int)+5*((h.held.length:Int)-h.at_):=by
 unfold mu
 iterate 6 rw [if_neg (by omega)]
 rw [if_pos (by omega)]
theorem mu11 (p:h.phase=11):mu c h=4+2*(h.kids.length:Int):=by
 unfold mu
 iterate 7 rw [if_neg (by omega)]
 rw [if_pos (by omega)]
theorem mu12 (p:h.phase=12):mu c h=3+2*(h.kids.length:Int):=by
 unfold mu
 iterate 8 rw [if_neg (by omega)]
 rw [if_pos (by omega)]
theorem mu13 (p:h.phase=13):mu c h=2+2*(h.kids.length:Int):=by
 unfold mu
 iterate 9 rw [if_neg (by omega)]
 rw [if_pos (by omega)]
theorem mu14 (p:h.phase=14):mu c h=1+2*(h.kids.length:Int):=by
 unfold mu
 iterate 10 rw [if_neg (by omega)]
 rw [if_pos (by omega)]
theorem mu15 (p:h.phase=15):mu c h=2*((h.kids.length:Int)-h.at_):=by
 unfold mu
 iterate 11 rw [if_neg (by omega)]
 rw [if_pos (by omega)]
theorem mu16 (p:h.phase=16):mu c h=2*((h.kids.length:Int)-h.at_)-1:=by
 unfold mu
 iterate 12 rw [if_neg (by omega)]
 rw [if_pos (by omega)]
theorem mu17 (p:h.phase=17):mu c h=4+2*(h.kids.length:Int)+(c.layers-h.layer)*(9+c.spin)+(8+c.spin):=by
 unfold mu
 iterate 13 rw [if_neg (by omega)]
 rw [if_pos (by omega)]
theorem mu18 (p:h.phase=18):mu c h=4+2*(h.kids.length:Int)+(c.layers-h.layer)*(9+c.spin)+(7+c.spin):=by
 unfold mu
 iterate 14 rw [if_neg (by omega)]
 rw [if_pos (by omega)]
theorem mu19 (p:h.phase=19):mu c h=4+2*(h.kids.length:Int)+(c.layers-h.layer)*(9+c.spin)+(6+c.spin):=by
 unfold mu
 iterate 15 rw [if_neg (by omega)]
 rw [if_pos (by omega)]
theorem mu20 (p:h.phase=20):mu c h=4+2*(h.kids.length:Int)+(c.layers-h.layer)*(9+c.spin)+(5+c.spin):=by
 unfold mu
 iterate 16 rw [if_neg (by omega)]
 rw [if_pos (by omega)]
theorem mu21 (p:h.phase=21):mu c h=4+2*(h.kids.length:Int)+(c.layers-h.layer)*(9+c.spin)+(4+c.spin):=by
 unfold mu
 iterate 17 rw [if_neg (by omega)]
 rw [if_pos (by omega)]
theorem mu22 (p:h.phase=22):mu c h=4+2*(h.kids.length:Int)+(c.layers-h.layer)*(9+c.spin)+3:=by
 unfold mu
 iterate 18 rw [if_neg (by omega)]
 rw [if_pos (by omega)]
theorem Zom (p:h.phase=23):mu c h=4+2*(h.kids.length:Int)+(c.layers-h.layer)*(9+c.spin)+2+(if 0<h.left then h.left else 0):=by
 unfold mu
 iterate 19 rw [if_neg (by omega)]
 rw [if_pos (by omega)]
theorem mu24 (p:h.phase=24):mu c h=4+2*(h.kids.length:Int)+(c.layers-h.layer)*(9+c.spin)+(3+c.spin):=by
 unfold mu
 iterate 20 rw [if_neg (by omega)]
 rw [if_pos (by omega)]
theorem mu25 (p:h.phase=25):mu c h=4+2*(h.kids.length:Int)+(c.layers-h.layer)*(9+c.spin):=by
 unfold mu
 iterate 21 rw [if_neg (by omega)]
 rw [if_pos (by omega)]
theorem mu26 (p:h.phase=26):mu c h=4+2*(h.kids.length:Int)+(c.layers-h.layer)*(9+c.spin)+1:=by
 unfold mu
 iterate 22 rw [if_neg (by omega)]
end
def rkQ (b:Int->Int->Int) (t:Int) (h:Thread):Int := if h.phase=2 then 1 else if h.phase=3 then (if b h.item 0=h.x then 0 else 2) else if h.phase=4 then 1 else if h.phase=5 then (if b h.item h.node=0 then 0 else 2) else if h.phase=6 then (if b h.item h.node=h.x then 0 else 2) else if h.phase=7 then 1 else if h.phase=8 then (if b h.item (Zbm h)=8*(t+1)+1 then 0 else 2) else 0
section
variable {b:Int->Int->Int} {t:Int} {h:Thread}
theorem rkQ2 (p:h.phase=2):rkQ b t h=1:=by
 unfold rkQ
 rw [if_pos p]
theorem rkQ3 (p:h.phase=3):rkQ b t h=(if b h.item 0=h.x then 0 else 2):=by
 unfold rkQ
 rw [if_neg (by omega),if_pos p]
theorem rkQ4 (p:h.phase=4):rkQ b t h=1:=by
 unfold rkQ
 rw [if_neg (by omega),if_neg (by omega),if_pos p]
theorem rkQ5 (p:h.phase=5):rkQ b t h=(if b h.item h.node=0 then 0 else 2):=by
 unfold rkQ
 rw [if_neg (by omega),if_neg (by omega),if_neg (by omega),if_pos p]
theorem rkQ6 (p:h.phase=6):rkQ b t h=(if b h.item h.node=h.x then 0 else 2):=by
 unfold rkQ
 rw [if_neg (by omega),if_neg (by omega),if_neg (by omega),if_neg (by omega),if_pos p]
theorem rkQ7 (p:h.phase=7):rkQ b t h=1:=by
 unfold rkQ
 rw [if_neg (by omega),if_neg (by omega),if_neg (by omega),if_neg (by omega),if_neg (by omega),if_pos p]
theorem rkQ8 (p:h.phase=8):rkQ b t h=(if b h.item (Zbm h)=8*(t+1)+1 then 0 else 2):=by
 unfold rkQ
 rw [if_neg (by omega),if_neg (by omega),if_neg (by omega),if_neg (by omega),if_neg (by omega),if_neg (by omega),if_pos p]
end
def Zhc (t:Int) (b:Int->Int->Int) (l:Int->Int) (h:Thread):Prop :=
 h.phase=0\/(h.phase=4/\Zb1 (b h.item h.node)≠1/\Zb1 (b h.item h.node)≠0)\/(h.phase=7/\b h.item (Zbm h)≠8*(t+1)+1/\Zb1 (b h.item (Zbm h))≠3)\/(h.phase=13/\l t≠5)
structure Own2 (c:Config) (h:Thread):Prop where
  up:4<=h.phase/\h.phase<=6->(h.held.length:Int)+lvN h.node<=c.depth
  down:7<=h.phase/\h.phase<=10->(h.held.length:Int)<=c.depth
  left:h.phase=23->h.left<=c.spin
theorem Own2.none {c:Config} {h:Thread} (p:(h.phase<4\/10<h.phase)/\h.phase≠23):Own2 c h:=⟨fun k=>by omega,fun k=>by omega,fun k=>by omega⟩
theorem Own2.dn {c:Config} {h:Thread} (p:7<=h.phase/\h.phase<=12\/h.phase=2) (k:(h.held.length:Int)<=c.depth):Own2 c h:=⟨fun k=>by omega,fun _=>k,fun k=>by omega⟩
def Adv (c:Config) (t:Int) (v v':Vw):Prop:=∃ h',v'.th=seta v.th t h'/\Own2 c h'/\(mu c h'+1<=mu c (v.th t) \/
 (v'.b=v.b/\v'.l=v.l/\mu c h'=mu c (v.th t)/\((Zhc t v.b v.l (v.th t)/\h'=v.th t)\/(¬Zhc t v.b v.l (v.th t)/\rkQ v.b t h'+1<=rkQ v.b t (v.th t)))))
theorem ZxG {w:Int} (h:Zb1 w=0):w=0:=by
 unfold Zb1 at h
 by_cases h0:w=0
 . exact h0
 rw [if_neg h0] at h
 split at h
 . omega
 split at h
 . omega
 split at h
 . omega
 . omega
theorem Znt {c:Config} (hC:CfgOK c) {i n:Int} (hi:0<=i/\i<c.items) (hn:1<=n/\n<=Zaz c):nodeAt c i n≠-1:=by
 have h1:=Zda hC (i:=i) hi.1 (by omega)
 unfold nodeAt
 rw [if_neg (by omega)]
 omega
theorem ZAY {c:Config} (hC:CfgOK c) {l:Int} (h:l<=c.layers):0<=(c.layers-l)*(9+c.spin):=Int.mul_nonneg (by omega) (by have:=hC.spin;omega)
theorem Zzf (c:Config) (l:Int):(c.layers-(l+1))*(9+c.spin)=(c.layers-l)*(9+c.spin)-(9+c.spin):=by
 rw [show c.layers-(l+1)=(c.layers-l)-1 by omega,Int.sub_mul,Int.one_mul]
theorem Zk4 {c:Config} {g:Thread} (h0:0<=g.at_) (h1:g.at_<=(g.kids.length:Int)):mu c (Zbq g)<=2*((g.kids.length:Int)-g.at_)/\Own2 c (Zbq g):=by
 obtain ⟨s1,s2,s3,s4,s5,s6,s7,s8,s9⟩:=Zdp g
 rcases Zes g with x | x
 . exact ⟨by rw [mu0 x.1];omega,.none (by omega)⟩
 . exact ⟨by rw [mu15 x.1,s2,s9];omega,.none (by omega)⟩
section
variable {c:Config} {v:Vw} {ro pa rt:Int->Int} {co:Int->Option Int} {t:Int}
theorem Stuck.dead (I:Inv c v ro pa rt co) (J:Inv2 c v) (hC:CfgOK c) (ht:InT c t) (s:Stuck c t v (v.th t)):Zhc t v.b v.l (v.th t):=by
 have L:=I.loc t ht
 have A:=L.ari
 have hT:=L.tab
 cases s with
 | out p =>
   unfold Tab at hT
   exact .inl (by omega)
 | node p e=>exact (Znt hC (L.item (by omega)) (L.node p).1 e).elim
 | full p k1 k0=>exact .inr (.inl ⟨p,k1,k0⟩)
 | held p e =>
   have ha:=A.2.2.2.2.2.2.1 (by omega)
   rcases e with e | e
   . exact (e ha).elim
   . exact (Znt hC (L.item (by omega)) ((I.nodes t ht).1 _ (Zf2 (by omega) ha)) e).elim
 | join p e k=>exact .inr (.inr (.inl ⟨p,e,k⟩))
 | who p e =>
   exfalso
   apply e
   rcases p with p | p | p
   . exact (I.tree.t7 t ht (.inl p)).1
   . exact J.w9 t ht (.inr p)
   . exact I.core.out _ (by rw [(I.pnd2 t ht p).1];decide)
 | stop p e =>
   have h1:=A.2.2.2.1 (by omega)
   have h2:=A.2.2.2.2.2.1 (by omega)
   exact (Znt hC (L.item (by omega)) ⟨h2,h1.2⟩ e).elim
 | told p e=>exact .inr (.inr (.inr ⟨p,e⟩))
 | kid p e =>
   have ha:=A.2.2.2.2.2.2.2 (by omega)
   rcases e with e | e
   . exact (e ha).elim
   . exact (e (I.core.out _ (by rw [(I.kid ht p).2.1];decide))).elim
 | slot p e=>exact (e ⟨J.w10 t ht,A.2.2.1 (by omega),L.item (by omega)⟩).elim
theorem Tr.adv (I:Inv c v ro pa rt co) (J:Inv2 c v) (O:Own2 c (v.th t)) (hC:CfgOK c) (ht:InT c t) {v':Vw} {log:List Mark} {done:Bool} (T:Tr c t v (v.th t) v' log done):Adv c t v v':=by
 have L:=I.loc t ht
 have A:=L.ari
 have hsp:=hC.spin
 have hly:=hC.layers
 have hdp:=hC.depth
 have hnb:=Zbx c
 have lay:=@ZAY c hC
 have lay0:=lay (l:=0) (by omega)
 have nx:=Zzf c
 have ly:17<=(v.th t).phase->1<=(v.th t).layer/\(v.th t).layer<=c.layers:=A.2.2.1
 have fl:17<=(v.th t).phase->0<=(c.layers-(v.th t).layer)*(9+c.spin):=fun p=>lay (ly p).2
 cases T with
 | nop s=>exact ⟨v.th t,seta_same.symm,O,.inr ⟨rfl,rfl,rfl,.inl ⟨s.dead I J hC ht,rfl⟩⟩⟩
 | start p s =>
   have O1:=L.one p
   have e1:((v.th t).kids.length:Int)=0:=by rw [O1.2.1];rfl
   have e2:((v.th t).held.length:Int)=0:=by rw [O1.1];rfl
   have n1:=nx 0
   cases s with
   | climb d =>
     have hn:=O1.2.2 d
     have h1:=Zys hC hn.2
     refine ⟨_,rfl,⟨fun _=>by dsimp only;omega,fun k=>by dsimp only at k;omega,fun k=>by dsimp only at k;omega⟩,.inl ?_⟩
     rw [mu46 (by dsimp only;omega),mu1 p]
     rw [Int.sub_zero] at lay0
     dsimp only
     omega
   | funnel d =>
     refine ⟨_,rfl,.none (by dsimp only;omega),.inl ?_⟩
     rw [mu17 (by rfl),mu1 p]
     rw [Int.sub_zero] at lay0 n1
     rw [Int.zero_add] at n1
     dsimp only
     omega
   | cell =>
     refine ⟨_,rfl,.none (by dsimp only;omega),.inl ?_⟩
     rw [mu23 (by dsimp only;omega),mu1 p]
     rw [Int.sub_zero] at lay0
     dsimp only
     omega
 | load p =>
   refine ⟨_,rfl,.none (by dsimp only;omega),.inr ⟨rfl,rfl,?_,.inr ⟨?_,?_⟩⟩⟩
   . rw [mu23 (by dsimp only;omega),mu23 (by omega)]
   . unfold Zhc;omega
   . rw [rkQ3 (by rfl),rkQ2 p]
     dsimp only
     rw [if_pos rfl]
     omega
 | casF p hw hw2 e =>
   refine ⟨_,rfl,.none (by dsimp only;omega),.inr ⟨rfl,rfl,?_,.inr ⟨?_,?_⟩⟩⟩
   . rw [mu23 (by dsimp only;omega),mu23 (by omega)]
   . unfold Zhc;omega
   . rw [rkQ2 (by rfl),rkQ3 p,if_neg e]
     omega
 | same p e =>
   obtain ⟨s1,s2⟩:=Zk4 (c:=c) (g:={ (v.th t) with at_:=0,x:=v.b (v.th t).item 0 }) (Int.le_refl 0) (by dsimp only;omega)
   refine ⟨_,rfl,s2,.inl ?_⟩
   dsimp only at s1
   rcases p with p | p
   . rw [mu23 (h:=v.th t) (by omega)];omega
   . rw [mu25 (h:=v.th t) p];have:=fl (by omega);omega
 | cas p e =>
   obtain ⟨s1,s2⟩:=Zk4 (c:=c) (g:={ (v.th t) with at_:=0,x:=(v.th t).x }) (Int.le_refl 0) (by dsimp only;omega)
   refine ⟨_,rfl,s2,.inl ?_⟩
   dsimp only at s1
   rw [mu23 (h:=v.th t) (by omega)];omega
 | on25 p o =>
   have f:=fl (by omega)
   have q:=ly (by omega)
   cases o with
   | up g =>
     have hw:Zad .i64 ((v.th t).layer+1)=(v.th t).layer+1:=Zat (by omega) (by omega)
     refine ⟨_,rfl,.none (by dsimp only;omega),.inl ?_⟩
     rw [mu17 (by rfl),mu25 p]
     dsimp only
     rw [hw,nx]
     omega
   | cell =>
     refine ⟨_,rfl,.none (by dsimp only;omega),.inl ?_⟩
     rw [mu23 (by dsimp only;omega),mu25 p]
     dsimp only
     omega
 | look1 p k =>
   refine ⟨_,rfl,⟨fun _=>O.up (by omega),fun k=>by dsimp only at k;omega,fun k=>by dsimp only at k;omega⟩,.inr ⟨rfl,rfl,?_,.inr ⟨?_,?_⟩⟩⟩
   . rw [mu46 (by dsimp only;omega),mu46 (by omega)]
   . unfold Zhc;omega
   . rw [rkQ6 (by rfl),rkQ4 p]
     dsimp only
     rw [if_pos rfl]
     omega
 | look0 p k =>
   refine ⟨_,rfl,⟨fun _=>O.up (by omega),fun k=>by dsimp only at k;omega,fun k=>by dsimp only at k;omega⟩,.inr ⟨rfl,rfl,?_,.inr ⟨?_,?_⟩⟩⟩
   . rw [mu46 (by dsimp only;omega),mu46 (by omega)]
   . unfold Zhc;omega
   . rw [rkQ5 (by rfl),rkQ4 p]
     dsimp only
     rw [if_pos (ZxG k)]
     omega
 | lookL p =>
   have hu:=O.up (by omega)
   have hlv:=Zrc (L.node (by omega)).1.1
   have hd:=Zb2 { (v.th t) with at_:=0 }
   obtain ⟨h',hh'⟩:∃ h',h'=Zgo (v.th t):=⟨_,rfl⟩
   have e:h'.kids=(v.th t).kids/\h'.held=(v.th t).held/\h'.at_=0:=by rw [hh'];exact ⟨rfl,rfl,rfl⟩
   have hd:h'.phase=7\/h'.phase=11\/h'.phase=2:=by
     rw [hh']
     rcases hd with x | ⟨_,x | x⟩
     . exact .inl x.1
     . exact .inr (.inl x.1)
     . exact .inr (.inr x.1)
   rw [<- hh']
   refine ⟨h',rfl,.dn (by omega) (by rw [e.2.1];omega),.inl ?_⟩
   rw [mu46 (h:=v.th t) (by omega)]
   rcases hd with x | x | x
   . rw [mu78 (by omega),e.1,e.2.1,e.2.2];omega
   . rw [mu11 x,e.1];omega
   . rw [mu23 (by omega),e.1];omega
 | take p n e =>
   have hu:=O.up (by omega)
   have hlv:=Zrc n.1
   obtain ⟨h',hh'⟩:∃ h',h'=Zdf (v.th t):=⟨_,rfl⟩
   have f1:h'.kids=(v.th t).kids/\h'.held=(v.th t).held++[(v.th t).node]:=by
     rw [hh'];unfold Zdf;split <;> exact ⟨rfl,rfl⟩
   have f2:(h'.phase=4/\2<=(v.th t).node/\h'.node=(v.th t).node / 2)\/(h'.phase=7/\h'.at_=0):=by
     rw [hh'];unfold Zdf
     split
     . rename_i g;exact .inl ⟨rfl,by omega,rfl⟩
     . refine .inr ⟨?_,rfl⟩
       rcases Zb2 { (v.th t) with phase:=4,held:=(v.th t).held++[(v.th t).node],node:=(v.th t).node / 2,at_:=0 } with g | g
       . exact g.1
       . exfalso
         apply g.1
         show (0:Int)<=0/\(0:Int)<(((v.th t).held++[(v.th t).node]).length:Int)
         rw [List.length_append,List.length_singleton];omega
   rw [<- hh']
   have hl:(h'.held.length:Int)=(v.th t).held.length+1:=by rw [f1.2,List.length_append,List.length_singleton];omega
   rcases f2 with ⟨x,y,z⟩ | ⟨x,y⟩
   . have hh:=Zy0 y (by omega)
     refine ⟨h',rfl,⟨fun _=>by rw [hl,z,hh];omega,fun k=>by omega,fun k=>by omega⟩,.inl ?_⟩
     rw [mu46 (h:=h') (by omega),mu46 (h:=v.th t) (by omega),hl,f1.1,z,hh]
     omega
   . refine ⟨h',rfl,.dn (by omega) (by omega),.inl ?_⟩
     rw [mu78 (h:=h') (by omega),mu46 (h:=v.th t) (by omega),hl,f1.1,y]
     omega
 | takeF p e =>
   refine ⟨_,rfl,⟨fun _=>O.up (by omega),fun k=>by dsimp only at k;omega,fun k=>by dsimp only at k;omega⟩,.inr ⟨rfl,rfl,?_,.inr ⟨?_,?_⟩⟩⟩
   . rw [mu46 (by dsimp only;omega),mu46 (by omega)]
   . unfold Zhc;omega
   . rw [rkQ4 (by rfl),rkQ5 p,if_neg e]
     omega
 | join p n e =>
   have hu:=O.up (by omega)
   have hlv:=Zrc n.1
   have hd:=Zb2 { (v.th t) with phase:=4,stop:=(v.th t).node,at_:=0 }
   obtain ⟨h',hh'⟩:∃ h',h'=Zgo { (v.th t) with phase:=4,stop:=(v.th t).node }:=⟨_,rfl⟩
   have e1:h'.kids=(v.th t).kids/\h'.held=(v.th t).held/\h'.at_=0:=by rw [hh'];exact ⟨rfl,rfl,rfl⟩
   have hd:h'.phase=7\/h'.phase=11\/h'.phase=2:=by
     rw [hh']
     rcases hd with x | ⟨_,x | x⟩
     . exact .inl x.1
     . exact .inr (.inl x.1)
     . exact .inr (.inr x.1)
   rw [<- hh']
   refine ⟨h',rfl,.dn (by omega) (by rw [e1.2.1];omega),.inl ?_⟩
   rw [mu46 (h:=v.th t) (by omega)]
   rcases hd with x | x | x
   . rw [mu78 (by omega),e1.1,e1.2.1,e1.2.2];omega
   . rw [mu11 x,e1.1];omega
   . rw [mu23 (by omega),e1.1];omega
 | joinF p e =>
   refine ⟨_,rfl,⟨fun _=>O.up (by omega),fun k=>by dsimp only at k;omega,fun k=>by dsimp only at k;omega⟩,.inr ⟨rfl,rfl,?_,.inr ⟨?_,?_⟩⟩⟩
   . rw [mu46 (by dsimp only;omega),mu46 (by omega)]
   . unfold Zhc;omega
   . rw [rkQ4 (by rfl),rkQ6 p,if_neg e]
     omega
 | seeF p a e =>
   refine ⟨_,rfl,.dn (by dsimp only;omega) (O.down (by omega)),.inr ⟨rfl,rfl,?_,.inr ⟨?_,?_⟩⟩⟩
   . rw [mu78 (by dsimp only;omega),mu78 (by omega)]
   . unfold Zhc;omega
   . rw [rkQ8 (by rfl),rkQ7 p]
     show (if v.b (v.th t).item (Zbm (v.th t))=8*(t+1)+1 then (0:Int) else 2)+1<=1
     rw [if_pos e]
     omega
 | seeD p a k =>
   refine ⟨_,rfl,.dn (by dsimp only;omega) (O.down (by omega)),.inl ?_⟩
   rw [mu9 (by rfl),mu78 (by omega)]
   dsimp only
   omega
 | close p a e =>
   have ho:=O.down (by omega)
   have hw:Zad .i64 ((v.th t).at_+1)=(v.th t).at_+1:=Zat (by omega) (by omega)
   have hd:=Zb2 { (v.th t) with at_:=Zad .i64 ((v.th t).at_+1) }
   obtain ⟨h',hh'⟩:∃ h',h'=Zk9 (v.th t):=⟨_,rfl⟩
   have e1:h'.kids=(v.th t).kids/\h'.held=(v.th t).held/\h'.at_=(v.th t).at_+1:=by rw [hh'];exact ⟨rfl,rfl,hw⟩
   have hd:h'.phase=7\/h'.phase=11\/h'.phase=2:=by
     rw [hh']
     rcases hd with x | ⟨_,x | x⟩
     . exact .inl x.1
     . exact .inr (.inl x.1)
     . exact .inr (.inr x.1)
   rw [<- hh']
   refine ⟨h',rfl,.dn (by omega) (by rw [e1.2.1];omega),.inl ?_⟩
   rw [mu78 (h:=v.th t) (by omega)]
   rcases hd with x | x | x
   . rw [mu78 (by omega),e1.1,e1.2.1,e1.2.2];omega
   . rw [mu11 x,e1.1];omega
   . rw [mu23 (by omega),e1.1];omega
 | closeF p e =>
   refine ⟨_,rfl,.dn (by dsimp only;omega) (O.down (by omega)),.inr ⟨rfl,rfl,?_,.inr ⟨?_,?_⟩⟩⟩
   . rw [mu78 (by dsimp only;omega),mu78 (by omega)]
   . unfold Zhc;omega
   . rw [rkQ7 (by rfl),rkQ8 p,if_neg e]
     omega
 | takeB p w =>
   refine ⟨_,rfl,.dn (by dsimp only;omega) (O.down (by omega)),.inl ?_⟩
   rw [mu10 (by rfl),mu9 p]
   dsimp only
   rw [List.length_append,List.length_singleton]
   omega
 | clear p a =>
   have ho:=O.down (by omega)
   have hw:Zad .i64 ((v.th t).at_+1)=(v.th t).at_+1:=Zat (by omega) (by omega)
   have hd:=Zb2 { (v.th t) with at_:=Zad .i64 ((v.th t).at_+1) }
   obtain ⟨h',hh'⟩:∃ h',h'=Zk9 (v.th t):=⟨_,rfl⟩
   have e1:h'.kids=(v.th t).kids/\h'.held=(v.th t).held/\h'.at_=(v.th t).at_+1:=by rw [hh'];exact ⟨rfl,rfl,hw⟩
   have hd:h'.phase=7\/h'.phase=11\/h'.phase=2:=by
     rw [hh']
     rcases hd with x | ⟨_,x | x⟩
     . exact .inl x.1
     . exact .inr (.inl x.1)
     . exact .inr (.inr x.1)
   rw [<- hh']
   refine ⟨h',rfl,.dn (by omega) (by rw [e1.2.1];omega),.inl ?_⟩
   rw [mu10 (h:=v.th t) p]
   rcases hd with x | x | x
   . rw [mu78 (by omega),e1.1,e1.2.1,e1.2.2];omega
   . rw [mu11 x,e1.1];omega
   . rw [mu23 (by omega),e1.1];omega
 | box11 p =>
   refine ⟨_,rfl,.none (by dsimp only;omega),.inl ?_⟩
   rw [mu12 (by rfl),mu11 p]
   dsimp only
   omega
 | dep p n =>
   refine ⟨_,rfl,.none (by dsimp only;omega),.inl ?_⟩
   rw [mu13 (by rfl),mu12 p]
   dsimp only
   omega
 | told p e =>
   refine ⟨_,rfl,.none (by dsimp only;omega),.inl ?_⟩
   rw [mu14 (by rfl),mu13 p]
   dsimp only
   omega
 | res p =>
   obtain ⟨s1,s2⟩:=Zk4 (c:=c) (g:={ (v.th t) with at_:=0,x:=v.r t }) (Int.le_refl 0) (by dsimp only;omega)
   refine ⟨_,rfl,s2,.inl ?_⟩
   dsimp only at s1
   rw [mu14 (h:=v.th t) p];omega
 | tell1 p a w =>
   refine ⟨_,rfl,.none (by dsimp only;omega),.inl ?_⟩
   rw [mu16 (by rfl),mu15 p]
   dsimp only
   omega
 | tell2 p a w =>
   have hkn:=L.kidsN (by omega)
   have hkl:=I.short hC (j:=t) (fun x=>by have:=(I.busy ht).1 x;omega)
   have hw:Zad .i64 ((v.th t).at_+1)=(v.th t).at_+1:=Zat (by omega) (by omega)
   obtain ⟨g,hg⟩:∃ g:Thread,g={ (v.th t) with at_:=Zad .i64 ((v.th t).at_+1) }:=⟨_,rfl⟩
   have e1:g.kids=(v.th t).kids:=by rw [hg]
   have e2:g.at_=(v.th t).at_+1:=by rw [hg];exact hw
   obtain ⟨s1,s2⟩:=Zk4 (c:=c) (g:=g) (by omega) (by rw [e1,e2];omega)
   rw [<- hg]
   refine ⟨_,rfl,s2,.inl ?_⟩
   rw [e1,e2] at s1
   rw [mu16 (h:=v.th t) p];omega
 | box17 p =>
   refine ⟨_,rfl,.none (by dsimp only;omega),.inl ?_⟩
   rw [mu18 (by rfl),mu17 p]
   dsimp only
   omega
 | open18 p =>
   refine ⟨_,rfl,.none (by dsimp only;omega),.inl ?_⟩
   rw [mu19 (by rfl),mu18 p]
   dsimp only
   omega
 | swap20 p s w =>
   refine ⟨_,rfl,.none (by dsimp only;omega),.inl ?_⟩
   rw [mu20 (by rfl),mu19 p]
   dsimp only
   omega
 | swap23 p s =>
   refine ⟨_,rfl,⟨fun k=>by dsimp only at k;omega,fun k=>by dsimp only at k;omega,fun _=>Int.le_refl _⟩,.inl ?_⟩
   rw [Zom (by rfl),mu19 p]
   dsimp only
   split <;> omega
 | shut20 p e =>
   refine ⟨_,rfl,.none (by dsimp only;omega),.inl ?_⟩
   rw [mu21 (by rfl),mu20 p]
   dsimp only
   omega
 | shutF p e =>
   have f:=fl (by omega)
   refine ⟨_,rfl,.none (by dsimp only;omega),.inl ?_⟩
   rw [mu13 (by rfl),mu20 p]
   dsimp only
   omega
 | cap21 p w e =>
   refine ⟨_,rfl,.none (by dsimp only;omega),.inl ?_⟩
   rw [mu22 (by rfl),mu21 p]
   dsimp only
   omega
 | capF p =>
   refine ⟨_,rfl,.none (by dsimp only;omega),.inl ?_⟩
   rw [mu24 (by rfl),mu21 p]
   dsimp only
   omega
 | absorb p w =>
   refine ⟨_,rfl,.none (by dsimp only;omega),.inl ?_⟩
   rw [mu25 (by rfl),mu22 p]
   dsimp only
   rw [List.length_append,List.length_singleton]
   omega
 | spinF p e =>
   have f:=fl (by omega)
   refine ⟨_,rfl,.none (by dsimp only;omega),.inl ?_⟩
   rw [mu13 (by rfl),Zom p]
   dsimp only
   split <;> omega
 | spinL p e g =>
   have hl:=O.left p
   have hw:Zad .i64 ((v.th t).left-1)=(v.th t).left-1:=Zat (by omega) (by omega)
   refine ⟨_,rfl,⟨fun k=>by dsimp only at k;omega,fun k=>by dsimp only at k;omega,fun _=>by dsimp only;rw [hw];omega⟩,.inl ?_⟩
   rw [Zom (h:=v.th t) p,Zom (by exact p)]
   dsimp only
   rw [hw,if_pos g]
   split <;> omega
 | spinO p e =>
   refine ⟨_,rfl,.none (by dsimp only;omega),.inl ?_⟩
   rw [mu26 (by rfl),Zom p]
   dsimp only
   split <;> omega
 | open24 p =>
   refine ⟨_,rfl,⟨fun k=>by dsimp only at k;omega,fun k=>by dsimp only at k;omega,fun _=>Int.le_refl _⟩,.inl ?_⟩
   rw [Zom (by rfl),mu24 p]
   dsimp only
   split <;> omega
 | leave p e hw hw2 o =>
   have f:=fl (by omega)
   have q:=ly (by omega)
   cases o with
   | up g =>
     have g:(v.th t).layer<c.layers:=g
     have hw:Zad .i64 ((v.th t).layer+1)=(v.th t).layer+1:=Zat (by omega) (by omega)
     refine ⟨_,rfl,.none (by dsimp only;omega),.inl ?_⟩
     rw [mu17 (by rfl),mu26 p]
     dsimp only
     rw [hw,nx]
     omega
   | cell =>
     refine ⟨_,rfl,.none (by dsimp only;omega),.inl ?_⟩
     rw [mu23 (by dsimp only;omega),mu26 p]
     dsimp only
     omega
 | leaveF p e =>
   have f:=fl (by omega)
   refine ⟨_,rfl,.none (by dsimp only;omega),.inl ?_⟩
   rw [mu13 (by rfl),mu26 p]
   dsimp only
   omega
end
end Go.Proofs.Mill
/- Threads that wait for each other: there is no ring of them. -/
namespace Go.Proofs.Mill
section
variable {c:Config} {v:Vw} {ro pa rt:Int->Int} {co:Int->Option Int}
end
end Go.Proofs.Mill
/- A thread that nobody disturbs, through a tree and a funnel. -/
namespace Go.Proofs.Mill
section
variable {c:Config} {t i:Int} {op:Op}
end
end Go.Proofs.Mill
/- A thread that nobody disturbs, through a funnel; from its beginning on. -/
namespace Go.Proofs.Mill
section
variable {c:Config} {t i:Int} {op:Op}
theorem Zxt {t:Tape} (h1:Num t.at_) (h2:t.l.length<=4294967296):Num (Zey t).2.at_/\(Zey t).2.l.length<=4294967296:=by
 unfold Zey
 split
 . exact ⟨h1,h2⟩
 . rename_i h
   have h:¬(t.at_<0\/t.at_>=(t.l.length:Int)):=h
   refine ⟨?_,h2⟩
   show Num (Zad .i64 (t.at_+1))
   rw [Zat (by omega) (by omega)]
   exact ⟨by omega,by omega⟩
end
end Go.Proofs.Mill
/- The plain law of MachineAlone. -/
namespace Go.Proofs.Mill
theorem Zlj {c:Config} {a:Nat}:∀ (k:Nat),(∀ j:Nat,j<k->a≠((j:Int)*Zay c).toNat)->(ZeE c k).getD a 0=0
 | 0, _ => by
   unfold ZeE
   rw [List.getD_eq_getElem?_getD]
   by_cases h:a<(sizeOf c).toNat
   . rw [List.getElem?_replicate_of_lt h,Option.getD_some]
   . rw [List.getElem?_eq_none (by simp;omega)];rfl
 | k + 1, h => by
   unfold ZeE
   rw [ZbU (Ne.symm (h k (by omega)))]
   exact Zlj k fun j hj=>h j (by omega)
theorem ZzI:([1,2,3,4].all fun d=>(List.range 16).all fun (t:Nat)=>match Ze6 ((d:Nat):Int) (t:Int) with | some L=>decide (1<=L) && decide (L<2 ^ d) | none=>false)=true:=by kernel_rfl
theorem ZBD {c:Config} (h:CfgOK c) (hd:1<=c.depth) {t:Int} (ht:0<=t/\t<c.threads):1<=ZlD c t/\ZlD c t<=Zaz c:=by
 have htt:=h.threads
 have hdd:=h.depth
 have key:=ZzI
 rw [List.all_eq_true] at key
 have k1:=key c.depth.toNat (by
   have:c.depth.toNat=1\/c.depth.toNat=2\/c.depth.toNat=3\/c.depth.toNat=4:=by omega
   rcases this with e | e | e | e <;> rw [e] <;> simp)
 rw [List.all_eq_true] at k1
 have k2:=k1 t.toNat (by simp;omega)
 have e1:((c.depth.toNat:Nat):Int)=c.depth:=by omega
 have e2:((t.toNat:Nat):Int)=t:=by omega
 rw [e1,e2,Zvr h t] at k2
 simp only [Bool.and_eq_true,decide_eq_true_eq] at k2
 refine ⟨k2.1,?_⟩
 have h3:=k2.2
 unfold Zaz
 have:c.depth=1\/c.depth=2\/c.depth=3\/c.depth=4:=by omega
 rcases this with e | e | e | e <;> rw [e] at h3 ⊢ <;> simp at h3 ⊢ <;> omega
section
variable {c:Config} {t i:Int} {op:Op} {now:Int}
theorem Zsl (h:CfgOK c) (hn:Num c.init) (ht:0<=t/\t<c.threads) (hi:0<=i/\i<c.items):Mem1 c t i [] 0 (Zc1 c).words:=by
 have hs:=Zi4 h
 have hit:=h.items
 have hb:=ZgW h
 have hnb:=Zbx c
 have hl:=Zdy h ht.1 ht.2
 have zero:∀ {it r:Int},0<=it->it<c.items->1<=r->r<Zay c->(ZeE c c.items.toNat).getD (pl c it r).toNat 0=0:=fun h0 h1 r0 r1 =>
   Zlj _ fun j hj=>by
     have:=Zs1 h (a:=_) (b:=(j:Int)) (r:=_) (s:=0) ⟨h0,h1⟩ ⟨by omega,by omega⟩ ⟨by omega,r1⟩ ⟨Int.le_refl 0,by omega⟩ (by omega)
     simpa [pl] using this
 refine ⟨by show ((ZeE c _).length:Int)=_;rw [Zf6];omega,Zmy hn _,fun it h0 h1=>?_,fun it n h0 h1 n0 n1=>?_,fun it r h0 h1 r0 r1=>.inl (zero h0 h1 (by omega) r1),?_⟩
 . have:=Zp6 h c.items.toNat (by omega) it.toNat (by omega)
   rw [show ((it.toNat:Nat):Int)=it by omega] at this
   show (ZeE c c.items.toNat).getD (pl c it 0).toNat 0=c.init
   simpa [pl] using this
 . rw [show (Zc1 c).words=ZeE c c.items.toNat from rfl,zero h0 h1 n0 (by omega)]
   simp
 . refine Zlj _ fun j hj=>?_
   have:=Zoi h (i:=(j:Int)) (by omega) (by omega)
   omega
end
end Go.Proofs.Mill
