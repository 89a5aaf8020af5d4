/- Parts of the proof: MillQInvN, MillQInvK, MillQInvS, MillQFwd, MillQProg, MillQDead, MillQAlone2, MillQAlone3, MillQMAlone, MillQRun, MillQWInv, MillQLin. -/
import Derived.Test.YtaopdopnecognaaGreatMillAll43
set_option linter.all false
noncomputable section
namespace Go.Proofs.Mill
section
variable {c:Config} {v:Vw} {ro pa rt:Int->Int} {co:Int->Option Int} {t:Int}
theorem Ziy {b:Int->Int->Int} (h:∀ i r,Num (b i r)) {i0 r0 w:Int} (hw:Num w):∀ i r,Num (setb b i0 r0 w i r):=by
 intro i r
 unfold setb
 split
 . exact hw
 . exact h i r
theorem Zya (I:Inv c v ro pa rt co) (hC:CfgOK c) (ht:InT c t) (p:(v.th t).phase=5) (e:v.b (v.th t).item (v.th t).node=0) :
   Kept c v (put (wB v (v.th t).item (v.th t).node (8*(t+1)+1)) t (ZfC (v.th t))) ro pa rt co t [] false:=by
 have L:=I.loc t ht
 have A:=L.ari
 have hT:=Zdr L.tab (by omega)
 have hl:v.l t=0:=by omega
 have hn:=L.node (by omega)
 have hi:=L.item (by omega)
 have hs:=A.2.2.2.2.1 (by omega)
 have hh:=L.held (by omega)
 have hun:Za7 (v.th t)=(v.th t).held:=Zhq (by omega)
 have hnb:=ZbT c
 have hth:=hC.threads
 have hin:=ht
 unfold InT at hin
 obtain ⟨h',hh'⟩:∃ h',h'=ZfC (v.th t):=⟨_,rfl⟩
 have f1:h'.batch=(v.th t).batch/\h'.kids=(v.th t).kids/\h'.op=(v.th t).op/\h'.item=(v.th t).item/\h'.stop=(v.th t).stop/\h'.x=(v.th t).x/\h'.width=(v.th t).width/\h'.held=(v.th t).held++[(v.th t).node]:=by
   rw [hh'];unfold ZfC;split <;> exact ⟨rfl,rfl,rfl,rfl,rfl,rfl,rfl,rfl⟩
 have f2:(h'.phase=4/\1<=h'.node/\h'.node<(v.th t).node)\/(h'.phase=7/\h'.at_=0):=by
   rw [hh'];unfold ZfC
   split
   . rename_i g;exact .inl ⟨rfl,by show 1<=(v.th t).node / 2;omega,by show (v.th t).node / 2<(v.th t).node;omega⟩
   . refine .inr ⟨?_,rfl⟩
     rcases Zfv { (v.th t) with phase:=4,held:=(v.th t).held++[(v.th t).node],node:=(v.th t).node / 2,at_:=0 } with g | g
     . exact g.1
     . exfalso
       apply g.1
       show (0:Int)<=0/\(0:Int)<(((v.th t).held++[(v.th t).node]).length:Int)
       rw [List.length_append,List.length_singleton];omega
 obtain ⟨g1,g2,g3,g4,g5,g6,g7,g8⟩:=f1
 have hun':Za7 h'=(v.th t).held++[(v.th t).node]:=by
   rcases f2 with g | g
   . rw [Zhq (by omega),g8]
   . rw [Zdb (by omega),g8,g.2];rfl
 rw [<- hh']
 have hpw:((v.th t).held++[(v.th t).node]).Pairwise (· > ·):=by
   rw [List.pairwise_append]
   exact ⟨hh.1,List.pairwise_singleton _ _,fun a ha b hb=>by rw [List.mem_singleton] at hb;subst hb;exact hn.2 a ha⟩
 have hin2:∀ m∈(v.th t).held++[(v.th t).node],1<=m/\m<=ZaI c:=by
   intro m hm
   rcases List.mem_append.1 hm with hm | hm
   . exact hh.2 m hm
   . rw [List.mem_singleton] at hm;subst hm;exact hn.1
 have hfree:∀ j,InT c j->(v.th j).item=(v.th t).item->(v.th t).node∉Za7 (v.th j):=by
   intro j hj hij hm
   have:=(I.tree.t2 j hj _ hm).1
   rw [hij] at this
   exact this e
 refine Zge I ht (q:=ro t) (Zla) g1 g3 g4 (Zeb g2 (by omega) (by omega)) ⟨by omega,by omega,by omega⟩ (.inl rfl) ?_ ?_ (Ziy I.num.1 (Zbg (by omega))) (I.num.2.1 t)
 . refine ⟨A.mod (by omega) ⟨g4,g5,g2⟩ ?_ (fun k=>by omega) (fun _=>hs) (fun k=>by omega) (fun k=>?_) (fun k=>by omega),fun k=>by omega,L.boxl,fun k=>by omega,by rw [g6];exact L.nx,by rw [g7];exact L.nw,fun _=>?_,fun k=>?_,fun k=>by omega,fun k=>by omega,fun k=>by omega,fun k=>by omega,fun _=>by rw [g1,g2];exact L.kidsN (by omega),fun _=>by rw [g1];exact L.ops (by omega)⟩
   . rw [hT.1,hl];exact ZhP (by omega)
   . rw [g8,List.length_append,List.length_singleton];omega
   . rw [g8];exact ⟨hpw,hin2⟩
   . have f3:1<=h'.node/\h'.node<(v.th t).node:=by omega
     refine ⟨by omega,fun m hm=>?_⟩
     rw [g8] at hm
     rcases List.mem_append.1 hm with hm | hm
     . have:=hn.2 m hm;omega
     . rw [List.mem_singleton] at hm;omega
 . rw [Zdi]
   refine I.tree.write ht rfl g4 hn.1 (fun j _=>⟨rfl,rfl⟩) (fun h=>⟨h,rfl⟩) (.inr ⟨t,1,ht,by omega,rfl⟩) ?_ ?_ ?_ ?_ (by omega) (by omega) ?_ ?_ ?_ ?_ (by omega) (by omega)
   . intro j hj hjt hij hm;exact (hfree j hj hij hm).elim
   . intro j hj hjt hb;unfold InT at hj;omega
   . intro j hj hjt hr hb;unfold InT at hj;omega
   . intro j hj hw;omega
   . intro j hj hjt hp hij hm
     have:=(I.tree.t7 j hj hp).2.1
     rw [hij,hm,e] at this
     have:=(I.tree.t7 j hj hp).1
     unfold InT at this
     omega
   . intro m hm
     rw [hun'] at hm
     by_cases em:m=(v.th t).node
     . subst em
       rw [Zgf]
       exact ⟨by omega,fun h hx=>by omega⟩
     . rw [ZdN (fun x=>em x.2)]
       refine I.tree.t2 t ht m ?_
       rw [hun]
       rcases List.mem_append.1 hm with hm | hm
       . exact hm
       . rw [List.mem_singleton] at hm;exact (em hm).elim
   . intro j m hj hjt hij hm hmj
     rw [hun'] at hm
     rcases List.mem_append.1 hm with hm | hm
     . exact hjt (I.tree.t3 j t m hj ht hij hmj (by rw [hun];exact hm))
     . rw [List.mem_singleton] at hm
       subst hm
       exact hfree j hj hij hmj
   . intro k;rw [g5] at k;omega
theorem Zx3 (I:Inv c v ro pa rt co) (hC:CfgOK c) (ht:InT c t) (p:(v.th t).phase=6) (e:v.b (v.th t).item (v.th t).node=(v.th t).x) :
   Kept c v (put (wB v (v.th t).item (v.th t).node (8*(t+1)+2)) t (Zke { (v.th t) with phase:=4,stop:=(v.th t).node })) ro pa rt co t [] false:=by
 have L:=I.loc t ht
 have A:=L.ari
 have hT:=Zdr L.tab (by omega)
 have hl:v.l t=0:=by omega
 have hn:=L.node (by omega)
 have hi:=L.item (by omega)
 have hh:=L.held (by omega)
 obtain ⟨k0,hk0,hx0⟩:=L.x6 p
 rw [hx0] at e
 unfold InT at hk0
 have hun:Za7 (v.th t)=(v.th t).held:=Zhq (by omega)
 have hth:=hC.threads
 have hin:=ht
 unfold InT at hin
 have hd:=Zfv { (v.th t) with phase:=4,stop:=(v.th t).node,at_:=0 }
 have hu':=Zmu (h:={ (v.th t) with phase:=4,stop:=(v.th t).node,at_:=0 }) (Int.le_refl 0)
 obtain ⟨h',hh'⟩:∃ h',h'=Zke { (v.th t) with phase:=4,stop:=(v.th t).node }:=⟨_,rfl⟩
 have hd:(h'.phase=7/\(0:Int)<=0/\0<((v.th t).held.length:Int))\/(¬((0:Int)<=0/\0<((v.th t).held.length:Int))/\((h'.phase=11/\0<(v.th t).node)\/(h'.phase=2/\¬0<(v.th t).node))):=by rw [hh'];exact hd
 have hun':Za7 h'=(v.th t).held:=by rw [hh'];exact hu'
 have f1:h'.batch=(v.th t).batch/\h'.kids=(v.th t).kids/\h'.op=(v.th t).op/\h'.item=(v.th t).item/\h'.stop=(v.th t).node/\h'.x=(v.th t).x/\h'.width=(v.th t).width/\h'.held=(v.th t).held/\h'.at_=0:=by
   rw [hh'];exact ⟨rfl,rfl,rfl,rfl,rfl,rfl,rfl,rfl,rfl⟩
 obtain ⟨g1,g2,g3,g4,g5,g6,g7,g8,g9⟩:=f1
 rw [<- hh']
 have hph:h'.phase=7\/h'.phase=11:=by omega
 have hne:∀ m∈(v.th t).held,m≠(v.th t).node:=fun m hm=>by have:=hn.2 m hm;omega
 refine Zge I ht (q:=ro t) (Zla) g1 g3 g4 (Zeb g2 (by omega) (by omega)) ⟨by omega,by omega,by omega⟩ (.inl rfl) ?_ ?_ (Ziy I.num.1 (Zbg (by omega))) (I.num.2.1 t)
 . refine ⟨?_,fun k=>by omega,L.boxl,fun k=>by omega,by rw [g6];exact L.nx,by rw [g7];exact L.nw,fun _=>by rw [g8];exact hh,fun k=>by omega,fun k=>by omega,fun k=>by omega,fun k=>by omega,fun k=>by omega,fun _=>by rw [g1,g2];exact L.kidsN (by omega),fun _=>by rw [g1];exact L.ops (by omega)⟩
   refine ⟨by rw [hT.1,hl];exact ZhP (by omega),fun _=>by rw [g4];exact hi,fun k=>by omega,fun _=>by rw [g5];omega,fun k=>by omega,fun _=>by rw [g5];omega,fun k=>?_,fun k=>by omega⟩
   rw [g8,g9];omega
 . rw [Zdi]
   refine I.tree.write ht rfl g4 hn.1 (fun j _=>⟨rfl,rfl⟩) (fun h=>⟨h,rfl⟩) (.inr ⟨t,2,ht,by omega,rfl⟩) ?_ ?_ ?_ ?_ (by omega) (by omega) ?_ ?_ ?_ ?_ (by omega) (by omega)
   . intro j hj hjt hij hm;exact ⟨by omega,fun h hx=>by omega⟩
   . intro j hj hjt hb;omega
   . intro j hj hjt hr hb;omega
   . intro j hj hw;omega
   . intro j hj hjt hp hij hm
     have:=(I.tree.t7 j hj hp).2.1
     rw [hij,hm,e] at this
     omega
   . intro m hm
     rw [hun'] at hm
     rw [ZdN (fun x=>hne m hm x.2)]
     exact I.tree.t2 t ht m (by rw [hun];exact hm)
   . intro j m hj hjt hij hm hmj
     rw [hun'] at hm
     exact hjt (I.tree.t3 j t m hj ht hij hmj (by rw [hun];exact hm))
   . intro k;rw [g5,Zgf]
theorem ZrX (I:Inv c v ro pa rt co) (hC:CfgOK c) (ht:InT c t) (p:((v.th t).phase=8/\v.b (v.th t).item (ZbC (v.th t))=8*(t+1)+1)\/(v.th t).phase=10) :
   Kept c v (put (wB v (v.th t).item (ZbC (v.th t)) 0) t (Ztj (v.th t))) ro pa rt co t [] false:=by
 have L:=I.loc t ht
 have A:=L.ari
 have hT:=Zdr L.tab (by omega)
 have hl:v.l t=0:=by omega
 have hi:=L.item (by omega)
 have hh:=L.held (by omega)
 have ha:=A.2.2.2.2.2.2.1 (by omega)
 have hst:=A.2.2.2.1 (by omega)
 have hun:Za7 (v.th t)=(v.th t).held.drop (v.th t).at_.toNat:=Zdb (by omega)
 have hth:=hC.threads
 have hin:=ht
 unfold InT at hin
 have hnb:=ZbT c
 have hm0:=I.nodes t ht
 have hmem:ZbC (v.th t)∈Za7 (v.th t):=Zhw (by omega) ha
 have hm1:=hm0.1 _ hmem
 have hlt:(v.th t).at_.toNat<(v.th t).held.length:=by omega
 have hlen:(v.th t).held.length<=15:=by
   have h1:((v.th t).held).Nodup:=hh.1.imp (fun h=>by omega)
   have key:∀ (n:Nat) (l:List Int),l.Pairwise (· > ·)->(∀ x∈l,1<=x/\x<=(n:Int))->l.length<=n:=by
     intro n
     induction n with
     | zero => intro l _ hl; cases l with
       | nil=>simp
       | cons a r=>have:=hl a (List.mem_cons_self ..);omega
     | succ n ih => intro l hp hl; cases l with
       | nil=>simp
       | cons a r =>
         rw [List.pairwise_cons] at hp
         have:=ih r hp.2 (fun x hx=>by
           have h1:=hl x (List.mem_cons_of_mem _ hx)
           have h2:=hp.1 x hx
           have h3:=hl a (List.mem_cons_self ..)
           omega)
         rw [List.length_cons];omega
   exact key 15 _ hh.1 (fun x hx=>by have:=hh.2 x hx;omega)
 have hwr:Zac IntKind.i64 ((v.th t).at_+1)=(v.th t).at_+1:=Zas (by omega) (by omega)
 have hd:=Zfv { (v.th t) with at_:=Zac IntKind.i64 ((v.th t).at_+1) }
 have hu':=Zmu (h:={ (v.th t) with at_:=Zac IntKind.i64 ((v.th t).at_+1) }) (by show 0<=Zac IntKind.i64 ((v.th t).at_+1);omega)
 obtain ⟨h',hh'⟩:∃ h',h'=Ztj (v.th t):=⟨_,rfl⟩
 have hd:(h'.phase=7/\0<=Zac IntKind.i64 ((v.th t).at_+1)/\Zac IntKind.i64 ((v.th t).at_+1)<((v.th t).held.length:Int))\/(¬(0<=Zac IntKind.i64 ((v.th t).at_+1)/\Zac IntKind.i64 ((v.th t).at_+1)<((v.th t).held.length:Int))/\((h'.phase=11/\0<(v.th t).stop)\/(h'.phase=2/\¬0<(v.th t).stop))):=by rw [hh'];exact hd
 have hun':Za7 h'=(v.th t).held.drop ((v.th t).at_.toNat+1):=by
   rw [hh']
   refine hu'.trans ?_
   show (v.th t).held.drop (Zac IntKind.i64 ((v.th t).at_+1)).toNat=_
   rw [hwr,show ((v.th t).at_+1).toNat=(v.th t).at_.toNat+1 by omega]
 have f1:h'.batch=(v.th t).batch/\h'.kids=(v.th t).kids/\h'.op=(v.th t).op/\h'.item=(v.th t).item/\h'.stop=(v.th t).stop/\h'.x=(v.th t).x/\h'.width=(v.th t).width/\h'.held=(v.th t).held/\h'.at_=(v.th t).at_+1:=by
   rw [hh'];exact ⟨rfl,rfl,rfl,rfl,rfl,rfl,rfl,rfl,hwr⟩
 obtain ⟨g1,g2,g3,g4,g5,g6,g7,g8,g9⟩:=f1
 rw [hwr] at hd
 rw [<- hh']
 have hdrop:(v.th t).held.drop (v.th t).at_.toNat=ZbC (v.th t)::(v.th t).held.drop ((v.th t).at_.toNat+1):=by
   rw [List.drop_eq_getElem_cons hlt]
   unfold ZbC
   rw [List.getD_eq_getElem?_getD,List.getElem?_eq_getElem hlt]
   rfl
 have hpd:((v.th t).held.drop (v.th t).at_.toNat).Pairwise (· > ·):=hh.1.sublist (List.drop_sublist _ _)
 rw [hdrop,List.pairwise_cons] at hpd
 have hsub:∀ m∈(v.th t).held.drop ((v.th t).at_.toNat+1),m∈Za7 (v.th t)/\m≠ZbC (v.th t):=by
   intro m hm
   refine ⟨by rw [hun,hdrop];exact List.mem_cons_of_mem _ hm,?_⟩
   have:=hpd.1 m hm
   omega
 have hw0:∀ P:Prop,(v.b (v.th t).item (ZbC (v.th t))=8*(t+1)+1->P)->(∀ q,InT c q->ro q=5->v.b (v.th t).item (ZbC (v.th t))=8*(q+1)+3->P)->P:=by
   intro P h1 h2
   rcases p with p | p
   . exact h1 p.2
   . obtain ⟨a,b,d⟩:=I.tree.t7 t ht (.inr p)
     exact h2 _ a (d p).1 b
 have hph:h'.phase=7\/h'.phase=11\/h'.phase=2:=by omega
 refine Zge I ht (q:=ro t) (Zla) g1 g3 g4 (Zeb g2 (by omega) (by omega)) ⟨by omega,by omega,by omega⟩ (.inl rfl) ?_ ?_ (Ziy I.num.1 (Zbg (by decide))) (I.num.2.1 t)
 . refine L.mod ⟨g1,g2,g8⟩ (by omega) (A.mod (by omega) ⟨g4,g5,g2⟩ ?_ (fun k=>by omega) (fun k=>by omega) (fun k=>by omega) (fun k=>?_) (fun k=>by omega)) (fun k=>by omega) L.boxl (fun k=>by omega) (by rw [g6];exact L.nx) (by rw [g7];exact L.nw) (fun k=>by omega) (fun k=>by omega) (by omega) (fun k=>by omega) (fun k=>k)
   . rw [hT.1,hl];exact ZhP (by omega)
   . rw [g8,g9];omega
 . rw [Zdi]
   refine I.tree.write ht rfl g4 hm1 (fun j _=>⟨rfl,rfl⟩) (fun h=>⟨h,rfl⟩) (.inl rfl) ?_ ?_ ?_ ?_ (by omega) (fun _=>rfl) ?_ ?_ ?_ ?_ (by omega) (by omega)
   . intro j hj hjt hij hm;exact (hjt (I.tree.t3 j t _ hj ht hij hm hmem)).elim
   . intro j hj hjt hb
     exact hw0 _ (fun a=>by omega) (fun q _ _ a=>by omega)
   . intro j hj hjt hr hb
     refine hw0 _ (fun a=>by omega) (fun q _ b a=>?_)
     have:q=j:=by omega
     rw [this] at b;omega
   . intro j hj hw;unfold InT at hj;omega
   . intro j hj hjt hp hij hm
     have hpj:7<=(v.th j).phase/\(v.th j).phase<=10:=by omega
     have hmj:=Zhw hpj ((I.loc j hj).ari.2.2.2.2.2.2.1 hpj)
     rw [hm] at hmj
     exact hjt (I.tree.t3 j t _ hj ht hij hmj hmem)
   . intro m hm
     rw [hun'] at hm
     obtain ⟨a,b⟩:=hsub m hm
     rw [ZdN (fun x=>b x.2)]
     exact I.tree.t2 t ht m a
   . intro j m hj hjt hij hm hmj
     rw [hun'] at hm
     exact hjt (I.tree.t3 j t m hj ht hij hmj (hsub m hm).1)
   . intro k
     rw [g5] at k ⊢
     have old:=I.tree.t4 t ht ⟨by omega,by omega,k.2.2⟩
     rw [ZdN]
     . exact old
     . intro x
       rw [x.2] at old
       exact hw0 _ (fun a=>by omega) (fun q _ _ a=>by omega)
theorem Zz4 (I:Inv c v ro pa rt co) (hC:CfgOK c) (ht:InT c t) (p:(v.th t).phase=12) :
   Kept c v (put (wB v (v.th t).item (v.th t).stop (8*(t+1)+3)) t { (v.th t) with phase:=13 }) ro pa rt co t [] false:=by
 have L:=I.loc t ht
 have A:=L.ari
 have hT:=Zdr L.tab (by omega)
 have hl:v.l t=0:=by omega
 have hst:=A.2.2.2.1 (by omega)
 have hs1:=A.2.2.2.2.2.1 (by omega)
 have hbox:=L.box (.inr ⟨hT.1,by omega⟩)
 have hold:=I.tree.t4 t ht ⟨by omega,by omega,by omega⟩
 have hin:=ht
 unfold InT at hin
 have hth:=hC.threads
 refine Zge I ht (q:=2) (Zla) rfl rfl rfl (Zeb rfl (by omega) (by dsimp only;omega)) (by dsimp only;omega) (.inr (by omega)) ?_ ?_ (Ziy I.num.1 (Zbg (by omega))) (I.num.2.1 t)
 . refine L.mod ⟨rfl,rfl,rfl⟩ (by omega) (A.mod (by omega) ⟨rfl,rfl,rfl⟩ ?_ ?_ ?_ ?_ ?_ ?_) (fun _=>hbox) L.boxl ?_ L.nx L.nw ?_ ?_ ?_ ?_ ?_
   . rw [hl];exact .inr (.inr (.inl ⟨rfl,rfl,rfl⟩))
   all_goals try dsimp only
   all_goals first | omega | (intro k;omega)
 . refine I.tree.write ht rfl rfl ⟨hs1,hst.2⟩ (fun j hj=>⟨Zaf hj,rfl⟩) (fun h=>by omega) (.inr ⟨t,3,ht,by omega,rfl⟩) ?_ ?_ ?_ ?_ (by omega) (by omega) ?_ ?_ ?_ ?_ ?_ (by dsimp only;omega)
   . intro j hj hjt hij hm;exact ⟨by omega,fun h hx=>by omega⟩
   . intro j hj hjt hb;omega
   . intro j hj hjt hr hb;omega
   . intro j hj hw;exact ⟨by omega,Zag,rfl⟩
   . intro j hj hjt hp hij hm
     have:=(I.tree.t7 j hj hp).2.1
     rw [hij,hm,hold] at this
     omega
   . intro m hm;rw [ZaK (by dsimp only;omega)] at hm;cases hm
   . intro j m hj hjt hij hm hmj;rw [ZaK (by dsimp only;omega)] at hm;cases hm
   . dsimp only;omega
   . intro _;exact Zgf
theorem Zsk (I:Inv c v ro pa rt co) (hC:CfgOK c) (ht:InT c t) {r:Int} {h':Thread} (hr:ZaI c<r) (p:(v.th t).phase=19)
   (e:h'.batch=(v.th t).batch/\h'.kids=(v.th t).kids/\h'.held=(v.th t).held/\h'.op=(v.th t).op/\h'.item=(v.th t).item/\h'.stop=(v.th t).stop)
   (e2:h'.layer=(v.th t).layer/\h'.x=(v.th t).x/\h'.width=(v.th t).width) (p':h'.phase=20\/h'.phase=23):Kept c v (put (wB v (v.th t).item r (t+1)) t h') ro pa rt co t [] false:=by
 have L:=I.loc t ht
 have hro:(ro t=3\/ro t=4\/ro t=5\/ro t=6):=by
   have:=Zus L.tab (.inl p)
   clear p p'
   omega
 have hin:=ht
 unfold InT at hin
 have hth:=hC.threads
 have hly:=L.ari.2.2.1 (by omega)
 have he:Zbx h'=Zbx (v.th t):=by unfold Zbx;rw [e.2.2.2.2.1,e2.1]
 have hT:Tab (ro t) h'.phase (v.l t) (Zbx h'):=by rw [he];exact ZyJ L.tab (.inl p) (.inl (by omega))
 have hu:Za7 h'=Za7 (v.th t):=by rw [ZaK (by omega),ZaK (by omega)]
 refine Zge I ht (q:=ro t) (Zla) e.1 e.2.2.2.1 e.2.2.2.2.1 (Zeb e.2.1 (by omega) (by omega)) (by omega) (.inl rfl) ?_ ?_ (Ziy I.num.1 (Zbg (by omega))) (I.num.2.1 t)
 . exact L.mod ⟨e.1,e.2.1,e.2.2.1⟩ (by omega) (L.ari.mod (by omega) ⟨e.2.2.2.2.1,e.2.2.2.2.2,e.2.1⟩ hT (fun _=>by rw [e2.1];exact hly) (fun k=>by omega) (fun k=>by omega) (fun k=>by omega) (fun k=>by omega)) (fun k=>L.box (by omega)) L.boxl (fun k=>by omega) (by rw [e2.2.1];exact L.nx) (by rw [e2.2.2];exact L.nw) (fun k=>by omega) (fun k=>by omega) (by omega) (fun k=>by omega) (fun k=>k)
 . refine I.treeSame (fun i m h1 h2=>ZdN (fun x=>by omega)) (ZhS e.2.2.2.2.1 e.2.2.2.2.2 (by omega) hu) (by omega) (by omega) (by omega)
end
end Go.Proofs.Mill
namespace Go.Proofs.Mill
section
variable {c:Config} {b:Int->Int->Int} {th:Int->Thread} {ro pa ro' pa':Int->Int} {t:Int} {h':Thread}
theorem Tree.see (T:Tree c b th ro pa) (ht:InT c t) (hd:td h'=td (th t)) (hp:(th t).phase≠10) (hr:∀ j,ro' j=2->ro j=2)
   (h6:∀ j,InT c j->ro j=2->ro' j≠2->h'.phase=10/\(th j).item=h'.item/\ZbC h'=(th j).stop)
   (h7:h'.phase=9\/h'.phase=10->InT c h'.who/\b h'.item (ZbC h')=8*(h'.who+1)+3/\(h'.phase=10->ro' h'.who=5/\pa' h'.who=t))
   (h5:∀ j k,j≠t->(th j).phase=10->ro k=5/\pa k=j->ro' k=5/\pa' k=j):Tree c b (seta th t h') ro' pa':=by
 have e:∀ j,td (seta th t h' j)=td (th j):=fun j=>by
   by_cases e:j=t
   . subst e;rw [Zag];exact hd
   . rw [Zaf e]
 refine ⟨T.t1,fun j hj m hm=>?_,fun j k m hj hk hi h1 h2=>?_,fun j hj hp=>?_,fun j hj hr2=>?_,fun i m j a1 a2 a3 a4 hj hD=>?_,fun j hj hpj=>?_⟩
 . rw [ZiK (e j)] at hm
   rw [ZeB (e j)]
   exact T.t2 j hj m hm
 . rw [ZiK (e j)] at h1
   rw [ZiK (e k)] at h2
   rw [ZeB (e j),ZeB (e k)] at hi
   exact T.t3 j k m hj hk hi h1 h2
 . rw [ZeB (e j),Zkq (e j)]
   exact T.t4 j hj ((Zv2 (e j)).1 hp)
 . rw [ZeB (e j),Zkq (e j)]
   exact T.t5 j hj (hr j hr2)
 . rcases T.t6 i m j a1 a2 a3 a4 hj hD with ⟨x,y,z⟩ | ⟨h,hh,x,y,z⟩
   . by_cases q:ro' j=2
     . exact .inl ⟨q,by rw [ZeB (e j)];exact y,by rw [Zkq (e j)];exact z⟩
     . obtain ⟨u1,u2,u3⟩:=h6 j hj x q
       exact .inr ⟨t,ht,by rw [Zag,<- u2];exact y,by rw [Zag];exact u1,by rw [Zag,u3];exact z⟩
   . have ne:h≠t:=by intro ne;rw [ne] at y;exact hp y
     exact .inr ⟨h,hh,by rw [Zaf ne];exact ⟨x,y,z⟩⟩
 . by_cases ne:j=t
   . subst ne
     rw [Zag] at hpj ⊢
     exact h7 hpj
   . rw [Zaf ne] at hpj ⊢
     obtain ⟨x,y,z⟩:=T.t7 j hj hpj
     exact ⟨x,y,fun p10=>h5 j _ ne p10 (z p10)⟩
end
section
variable {c:Config} {v:Vw} {ro pa rt:Int->Int} {co:Int->Option Int} {t:Int}
theorem Zyx (I:Inv c v ro pa rt co) (hC:CfgOK c) (ht:InT c t) (p:(v.th t).phase=7) (k:Zcc (v.b (v.th t).item (ZbC (v.th t)))=3) :
   Kept c v (put v t { (v.th t) with phase:=9,who:=v.b (v.th t).item (ZbC (v.th t)) / 8-1 }) ro pa rt co t [] false:=by
 have L:=I.loc t ht
 have A:=L.ari
 have hT:=Zdr L.tab (by omega)
 have hl:v.l t=0:=by omega
 have hi:=L.item (by omega)
 have ha:=A.2.2.2.2.2.2.1 (by omega)
 have hm:=(I.nodes t ht).1 _ (Zhw (by omega) ha)
 obtain ⟨w1,w2⟩:=ZyZ I hC hi.1 hi.2 hm.1 hm.2 k
 have hu:Za7 { (v.th t) with phase:=9,who:=v.b (v.th t).item (ZbC (v.th t)) / 8-1 }=Za7 (v.th t):=by rw [Zdb (by dsimp only;omega),Zdb (by omega)]
 refine Zge I ht (q:=ro t) ZBz rfl rfl rfl (Zeb rfl (by omega) (by dsimp only;omega)) (by dsimp only;omega) (.inl rfl)
   (L.mod ⟨rfl,rfl,rfl⟩ (by omega) (A.mod (by omega) ⟨rfl,rfl,rfl⟩ ?_ ?_ ?_ ?_ (fun _=>ha) ?_) ?_ L.boxl ?_ L.nx L.nw ?_ ?_ ?_ ?_ ?_) ?_ I.num.1 (I.num.2.1 t)
 . rw [hT.1,hl];exact ZhP (by dsimp only;omega)
 . dsimp only;omega
 . dsimp only;omega
 . dsimp only;omega
 . dsimp only;omega
 . dsimp only;omega
 . dsimp only;omega
 . dsimp only;intro k;omega
 . dsimp only;intro k;omega
 . dsimp only;omega
 . intro k;omega
 . intro k;omega
 . rw [Zdi]
   refine I.tree.see ht (ZhS rfl rfl (by dsimp only;omega) hu) (by omega) (fun j h=>h) (fun j hj h1 h2=>(h2 h1).elim) (fun _=>⟨w1,w2,fun x=>?_⟩) (fun j k' _ _ h=>h)
   have x:(9:Int)=10:=x
   omega
theorem ZwC {h h':Thread} (p:h.phase≠0/\h.phase≠15/\h.phase≠16) (p':h'.phase≠0/\h'.phase≠15/\h'.phase≠16) {k:Kid} (e:h'.kids=h.kids++[k]):ZaV h'=ZaV h++[k]:=by
 unfold ZaV
 rw [if_neg p'.1,if_neg (show ¬(h'.phase=15\/h'.phase=16) by omega),if_neg p.1,if_neg (show ¬(h.phase=15\/h.phase=16) by omega),e]
theorem ZBW {ro p l o:Int} (T:Tab ro p l o) (h:ro=2\/ro=4):Tab 5 p l o/\p≠11/\p≠12:=by
 have key:(p=13\/p=19\/p=20\/p=23\/p=26)/\l=0:=by unfold Tab at T;omega
 exact ⟨.inr (.inr (.inr (.inr (.inl ⟨.inr rfl,key.1,key.2⟩)))),by omega,by omega⟩
theorem Inv.taken (I:Inv c v ro pa rt co) (hC:CfgOK c) (ht:InT c t) {q:Int} {h':Thread} (hq:InT c q) (hr:ro t=1) (hi:(v.th t).item=(v.th q).item)
   (p:(v.th t).phase=9/\h'.phase=10/\ro q=2\/(v.th t).phase=22/\h'.phase=25/\(v.th t).who=q/\ro q=4)
   (e:h'.batch=(v.th t).batch++(v.th q).batch/\h'.kids=(v.th t).kids++[⟨q,(v.th t).batch.length⟩]/\h'.held=(v.th t).held/\h'.op=(v.th t).op/\h'.item=(v.th t).item/\h'.stop=(v.th t).stop)
   (e2:h'.at_=(v.th t).at_/\h'.x=(v.th t).x/\h'.width=(v.th t).width/\h'.layer=(v.th t).layer)
   (hT:Tree c v.b (seta v.th t h') (seta ro q 5) (seta pa q t)):Kept c v (put v t h') ro pa rt co t [] false:=by
 obtain ⟨e1,e3,e4,e5,e6,e7⟩:=e
 have hrq:ro q=2\/ro q=4:=by omega
 have hqt:q≠t:=by intro x;subst x;omega
 have L:=I.loc t ht
 have Lq:=I.loc q hq
 have A:=L.ari
 have hp1:(v.th t).phase≠0/\(v.th t).phase≠15/\(v.th t).phase≠16/\(v.th t).phase≠1/\((1<=(v.th t).phase/\(v.th t).phase<=12)\/(v.th t).phase=22):=by clear hrq;omega
 have hp2:h'.phase≠0/\h'.phase≠1/\h'.phase≠3/\h'.phase≠15/\h'.phase≠16/\h'.phase≠22/\(h'.phase=10\/h'.phase=25):=by clear hrq hp1;omega
 have hp3:(17<=h'.phase->17<=(v.th t).phase)/\(h'.phase<=10->7<=(v.th t).phase/\(v.th t).phase<=10):=by clear hrq hp1 hp2;omega
 have hTa:=Zdr L.tab (hp1.2.2.2.2.imp id (fun x=>.inr (.inr (.inr (.inl x)))))
 have hl:v.l t=0:=hTa.2.elim id (fun x=>(hp1.2.2.2.1 x.1).elim)
 have hrq0:ro q≠0:=by clear p hp1 hp2 hp3;omega
 have hqp:(v.th q).phase≠0:=fun x=>hrq0 ((I.busy hq).2 x)
 have hC2:=I.core.take hr hrq hi
 have c1:(fun j=>(seta v.th t h' j).batch)=seta (fun j=>(v.th j).batch) t ((v.th t).batch++(v.th q).batch):=by
   funext j;unfold seta;split
   . exact e1
   . rfl
 have c2:(fun j=>ZaV (seta v.th t h' j))=seta (fun j=>ZaV (v.th j)) t (ZaV (v.th t)++[⟨q,(v.th t).batch.length⟩]):=by
   funext j;unfold seta;split
   . exact ZwC ⟨hp1.1,hp1.2.1,hp1.2.2.1⟩ ⟨hp2.1,hp2.2.2.2.1,hp2.2.2.2.2.1⟩ e3
   . rfl
 have c3:(fun j=>(seta v.th t h' j).op)=fun j=>(v.th j).op:=by
   funext j;unfold seta;split
   . rename_i x;rw [x];exact e5
   . rfl
 have c4:(fun j=>(seta v.th t h' j).item)=fun j=>(v.th j).item:=by
   funext j;unfold seta;split
   . rename_i x;rw [x];exact e6
   . rfl
 have c4':∀ j,(seta v.th t h' j).item=(v.th j).item:=fun j=>congrFun c4 j
 refine ⟨seta ro q 5,seta pa q t,fun j=>if ro j≠0/\co j=none/\rt j=q then t else rt j,co,?_,.inl ⟨rfl,rfl⟩,fun h=>by cases h⟩
 rw [if_neg (by decide)]
 refine ⟨?_,fun j hj=>?_,fun j hj=>?_,fun s hs1 hs2=>?_,fun s hs1 hs2=>?_,hT,I.num⟩
 . show Core c (fun j=>(seta v.th t h' j).batch) (fun j=>ZaV (seta v.th t h' j)) (fun j=>(seta v.th t h' j).op) (fun j=>(seta v.th t h' j).item) _ _ _ _
   rw [c1,c2,c3,c4]
   exact hC2
 . show LocT c (seta v.th t h' j) (v.l j) (v.r j) (v.bx j) (seta ro q 5 j) (co j)
   by_cases x:j=t
   . subst x
     rw [Zag,Zaf (Ne.symm hqt),hr]
     have hll:=L.kidsN hp1.1
     have hlq:=Lq.kidsN hqp
     have hheld:=L.held hp1.1
     have hops:=L.ops hp1.1
     have hlen:h'.kids.length+1<=h'.batch.length:=by
       rw [e1,e3,List.length_append,List.length_append,List.length_singleton];clear p hp1 hp2 hp3 hrq;omega
     have hops':∀ en∈h'.batch,Num en.op.v:=by
       rw [e1]
       intro en hen
       rcases List.mem_append.1 hen with hen | hen
       . exact hops en hen
       . exact Lq.ops hqp en hen
     have hari:Ari c h' (v.l j) 1:=by
       obtain ⟨a1,a2,a3,a4,a5,a6,a7,a8⟩:=A
       refine ⟨by rw [hl];exact ZhP (by have:=hp2.2.2.2.2.2.2;clear p hp1 hp2 hp3 hrq a5 a6 a7 a8 a3 a2;omega),fun _=>by rw [e6];exact a2 hp1.1,fun k=>by rw [e2.2.2.2];exact a3 (hp3.1 k),fun _=>by rw [e7];exact a4 hp1.1,fun k=>?_,fun k=>?_,fun k=>by rw [e2.1,e4];exact a7 (hp3.2 k.2),fun k=>?_⟩
       . clear p hp1 hp3 hrq a5 a6 a7 a8 a3 a2;omega
       . clear p hp1 hp3 hrq a5 a6 a7 a8 a3 a2;omega
       . clear p hp1 hp3 hrq a5 a6 a7 a8 a3 a2;omega
     have hs:h'.phase=10\/h'.phase=25:=hp2.2.2.2.2.2.2
     clear p hp1 hp3 hrq hll hlq
     exact ⟨hari,fun k=>by omega,L.boxl,fun k=>by omega,by rw [e2.2.1];exact L.nx,by rw [e2.2.2.1];exact L.nw,fun _=>by rw [e4];exact hheld,fun k=>by omega,fun k=>by omega,fun k=>by omega,fun k=>by omega,fun k=>by omega,fun _=>hlen,fun _=>hops'⟩
   . rw [Zaf x]
     by_cases y:j=q
     . subst y
       rw [Zag]
       obtain ⟨a1,a2,a3,a4,a5,a6,a7,a8⟩:=Lq.ari
       obtain ⟨hT2,hph⟩:=ZBW a1 hrq
       refine ⟨⟨hT2,a2,a3,a4,a5,fun k=>?_,a7,a8⟩,fun k=>k.elim (fun x=>absurd x (by decide)) (fun x=>absurd x.1 (by decide)),Lq.boxl,Lq.y,Lq.nx,Lq.nw,Lq.held,Lq.node,Lq.x6,Lq.one,fun k=>absurd k (by decide),fun k=>absurd k (by decide),Lq.kidsN,Lq.ops⟩
       rcases k with k | k | k
       . exact (hph.1 k).elim
       . exact (hph.2 k).elim
       . exact absurd k (by decide)
     . rw [Zaf y];exact I.loc j hj
 . have y:j≠q:=by intro y;subst y;rw [Zag] at hj;exact absurd hj (by decide)
   rw [Zaf y] at hj
   obtain ⟨a,b,d,f⟩:=I.pnd1 j hj
   show InT c (seta pa q t j)/\(seta v.th t h' (seta pa q t j)).phase=22/\(seta v.th t h' (seta pa q t j)).who=j/\(seta v.th t h' (seta pa q t j)).item=(seta v.th t h' j).item
   rw [Zaf y,c4',c4']
   have x:pa j≠t:=by
     intro x
     rw [x] at b d
     rcases p with p | p
     . omega
     . exact y (by rw [<- d];exact p.2.2.1)
   rw [Zaf x]
   exact ⟨a,b,d,f⟩
 . have hs2:(seta v.th t h' s).phase=22:=hs2
   have x:s≠t:=by intro x;rw [x,Zag] at hs2;exact hp2.2.2.2.2.2.1 hs2
   rw [Zaf x] at hs2
   show seta ro q 5 (seta v.th t h' s).who=4/\seta pa q t (seta v.th t h' s).who=s
   rw [Zaf x]
   obtain ⟨a,b⟩:=I.pnd2 s hs1 hs2
   have y:(v.th s).who≠q:=by
     intro y
     rw [y] at a b
     rcases p with p | p
     . omega
     . have:=(I.pnd2 t ht p.1).2
       rw [p.2.2.1,b] at this
       exact x this
   rw [Zaf y,Zaf y]
   exact ⟨a,b⟩
 . have hs2:(seta v.th t h' s).phase=16:=hs2
   have x:s≠t:=by intro x;rw [x,Zag] at hs2;exact hp2.2.2.2.2.1 hs2
   rw [Zaf x] at hs2
   show co (kidH (seta v.th t h' s)).t=some (v.r (kidH (seta v.th t h' s)).t)
   rw [Zaf x]
   exact I.r16 s hs1 hs2
theorem ZwP (I:Inv c v ro pa rt co) (hC:CfgOK c) (ht:InT c t) (p:(v.th t).phase=9) :
   Kept c v (put v t { (v.th t) with batch:=(v.th t).batch++v.bx (v.th t).who,kids:=(v.th t).kids++[⟨(v.th t).who,(v.th t).batch.length⟩],phase:=10 }) ro pa rt co t [] false:=by
 have L:=I.loc t ht
 have A:=L.ari
 have hT:=Zdr L.tab (by omega)
 have hi:=L.item (by omega)
 have ha:=A.2.2.2.2.2.2.1 (by omega)
 have hmem:=Zhw (h:=v.th t) (by omega) ha
 have hm:=(I.nodes t ht).1 _ hmem
 obtain ⟨w1,w2,_⟩:=I.tree.t7 t ht (.inl p)
 have h6:ro (v.th t).who=2/\(v.th (v.th t).who).item=(v.th t).item/\(v.th (v.th t).who).stop=ZbC (v.th t):=by
   rcases I.tree.t6 _ _ _ hi.1 hi.2 hm.1 hm.2 w1 w2 with x | ⟨h,hh,x,y,z⟩
   . exact x
   . exfalso
     have hmh:=Zhw (h:=v.th h) (by omega) ((I.loc h hh).ari.2.2.2.2.2.2.1 (by omega))
     rw [z] at hmh
     have:=I.tree.t3 h t _ hh ht x hmh hmem
     subst this
     omega
 have Lq:=I.loc _ w1
 have hbox:=Lq.box (.inl (by omega))
 rw [hbox]
 have hqt:(v.th t).who≠t:=by intro x;rw [x] at h6;omega
 have hu:Za7 { (v.th t) with batch:=(v.th t).batch++(v.th (v.th t).who).batch,kids:=(v.th t).kids++[⟨(v.th t).who,(v.th t).batch.length⟩],phase:=10 }=Za7 (v.th t):=by rw [Zdb (by dsimp only;omega),Zdb (by omega)]
 refine I.taken hC ht w1 hT.1 h6.2.1.symm (.inl ⟨p,rfl,h6.1⟩) ⟨rfl,rfl,rfl,rfl,rfl,rfl⟩ ⟨rfl,rfl,rfl,rfl⟩ ?_
 refine I.tree.see ht (ZhS rfl rfl (by dsimp only;omega) hu) (by omega) (fun j h=>?_) (fun j hj h1 h2=>?_) (fun _=>⟨w1,w2,fun _=>⟨Zag,Zag⟩⟩) (fun j k hj hp h=>?_)
 . by_cases x:j=(v.th t).who
   . rw [x,Zag] at h;omega
   . rw [Zaf x] at h;exact h
 . by_cases x:j=(v.th t).who
   . rw [x];exact ⟨rfl,h6.2.1,h6.2.2.symm⟩
   . rw [Zaf x] at h2;exact (h2 h1).elim
 . have x:k≠(v.th t).who:=by intro x;rw [x] at h;omega
   rw [Zaf x,Zaf x];exact h
theorem ZvH (I:Inv c v ro pa rt co) (hC:CfgOK c) (ht:InT c t) (p:(v.th t).phase=22) (hw:InT c (v.th t).who) :
   Kept c v (put v t { (v.th t) with batch:=(v.th t).batch++v.bx (v.th t).who,kids:=(v.th t).kids++[⟨(v.th t).who,(v.th t).batch.length⟩],phase:=25 }) ro pa rt co t [] false:=by
 have L:=I.loc t ht
 have hT:=Zdr L.tab (by omega)
 obtain ⟨q1,q2⟩:=I.pnd2 t ht p
 obtain ⟨_,_,_,q3⟩:=I.pnd1 _ q1
 rw [q2] at q3
 have Lq:=I.loc _ hw
 rw [Lq.box (.inl (by omega))]
 refine I.taken hC ht hw hT.1 q3 (.inr ⟨p,rfl,rfl,q1⟩) ⟨rfl,rfl,rfl,rfl,rfl,rfl⟩ ⟨rfl,rfl,rfl,rfl⟩ ?_
 have hu:Za7 { (v.th t) with batch:=(v.th t).batch++(v.th (v.th t).who).batch,kids:=(v.th t).kids++[⟨(v.th t).who,(v.th t).batch.length⟩],phase:=25 }=Za7 (v.th t):=by rw [ZaK (by dsimp only;omega),ZaK (by omega)]
 refine I.tree.see ht (ZhS rfl rfl (by dsimp only;omega) hu) (by omega) (fun j h=>?_) (fun j hj h1 h2=>?_) (fun k=>?_) (fun j k hj hp h=>?_)
 . by_cases x:j=(v.th t).who
   . rw [x,Zag] at h;omega
   . rw [Zaf x] at h;exact h
 . by_cases x:j=(v.th t).who
   . rw [x] at h1;omega
   . rw [Zaf x] at h2;exact (h2 h1).elim
 . dsimp only at k;omega
 . have x:k≠(v.th t).who:=by intro x;rw [x] at h;omega
   rw [Zaf x,Zaf x];exact h
theorem ZzX (I:Inv c v ro pa rt co) (hC:CfgOK c) (ht:InT c t) (p:(v.th t).phase=21) (hw:InT c (v.th t).who) (e:v.l (v.th t).who=Zbx (v.th t)) :
   Kept c v (put (wL v (v.th t).who 0) t { (v.th t) with phase:=22 }) ro pa rt co t [] false:=by
 have L:=I.loc t ht
 have A:=L.ari
 have hT:=Zdr L.tab (by omega)
 have hl:v.l t=0:=by omega
 have ho:=I.opn hC ht (by omega)
 have Lq:=I.loc _ hw
 obtain ⟨q,hqe⟩:∃ q,q=(v.th t).who:=⟨_,rfl⟩
 rw [<- hqe] at hw e Lq ⊢
 have hqt:q≠t:=by intro x;rw [x] at e;omega
 have hr3:ro q=3/\v.l q=Zbx (v.th q)/\((v.th q).phase=19\/(v.th q).phase=20\/(v.th q).phase=23\/(v.th q).phase=26):=by
   have:=Lq.tab
   unfold Tab at this
   omega
 have hit:(v.th t).item=(v.th q).item:=by
   have h1:=A.2.2.1 (by omega)
   have h2:=Lq.ari.2.2.1 (by omega)
   have hcl:=hC.layers
   have h3:Zbx (v.th t)=Zbx (v.th q):=by rw [<- e];exact hr3.2.1
   unfold Zbx at h3
   omega
 have c0:∀ {α:Type} (f:Thread->α),f { (v.th t) with phase:=22 }=f (v.th t)->(fun j=>f (seta v.th t { (v.th t) with phase:=22 } j))=fun j=>f (v.th j):=by
   intro α f hf
   funext j;unfold seta;split
   . rename_i x;rw [x];exact hf
   . rfl
 have hit':∀ j,(seta v.th t { (v.th t) with phase:=22 } j).item=(v.th j).item:=fun j=>congrFun (c0 (fun h=>h.item) rfl) j
 have r4:∀ j,j≠q->seta ro q 4 j=ro j:=fun j hj=>Zaf hj
 refine ⟨seta ro q 4,seta pa q t,rt,co,?_,.inl ⟨rfl,rfl⟩,fun h=>by cases h⟩
 rw [if_neg (by decide)]
 refine ⟨?_,fun j hj=>?_,fun j hj=>?_,fun s hs1 hs2=>?_,fun s hs1 hs2=>?_,?_,I.num.1,fun j=>?_,I.num.2.2⟩
 . show Core c (fun j=>(seta v.th t { (v.th t) with phase:=22 } j).batch) (fun j=>ZaV (seta v.th t { (v.th t) with phase:=22 } j)) (fun j=>(seta v.th t { (v.th t) with phase:=22 } j).op) (fun j=>(seta v.th t { (v.th t) with phase:=22 } j).item) _ _ _ _
   rw [c0 (fun h=>h.batch) rfl,c0 ZaV (Zeb rfl (by omega) (by dsimp only;omega)),c0 (fun h=>h.op) rfl,c0 (fun h=>h.item) rfl]
   refine I.core.roles (fun j=>?_) (fun j h5=>?_)
   . by_cases x:j=q
     . subst x;rw [Zag];omega
     . rw [Zaf x];exact .inl rfl
   . have x:j≠q:=by intro x;subst x;omega
     exact Zaf x
 . show LocT c (seta v.th t { (v.th t) with phase:=22 } j) (seta v.l q 0 j) (v.r j) (v.bx j) (seta ro q 4 j) (co j)
   by_cases x:j=t
   . subst x
     rw [Zag,Zaf (Ne.symm hqt),Zaf (Ne.symm hqt)]
     refine L.mod ⟨rfl,rfl,rfl⟩ (by omega) (A.mod (by omega) ⟨rfl,rfl,rfl⟩ ?_ (fun _=>A.2.2.1 (by omega)) ?_ ?_ ?_ ?_) ?_ L.boxl ?_ L.nx L.nw ?_ ?_ ?_ ?_ ?_
     . rw [hT.1,hl];exact ZhP (by dsimp only;omega)
     all_goals try dsimp only
     all_goals first | omega | (intro k;omega)
   . rw [Zaf x]
     by_cases y:j=q
     . subst y
       rw [Zag,Zag]
       obtain ⟨a1,a2,a3,a4,a5,a6,a7,a8⟩:=Lq.ari
       refine ⟨⟨.inr (.inr (.inr (.inr (.inl ⟨.inl rfl,.inr hr3.2.2,rfl⟩)))),a2,a3,a4,a5,fun k=>by omega,a7,a8⟩,fun _=>Lq.box (.inl (by omega)),Lq.boxl,Lq.y,Lq.nx,Lq.nw,Lq.held,Lq.node,Lq.x6,Lq.one,fun k=>by omega,fun k=>by omega,Lq.kidsN,Lq.ops⟩
     . rw [Zaf y,Zaf y];exact I.loc j hj
 . show InT c (seta pa q t j)/\(seta v.th t { (v.th t) with phase:=22 } (seta pa q t j)).phase=22/\(seta v.th t { (v.th t) with phase:=22 } (seta pa q t j)).who=j/\(seta v.th t { (v.th t) with phase:=22 } (seta pa q t j)).item=(seta v.th t { (v.th t) with phase:=22 } j).item
   rw [hit',hit']
   by_cases y:j=q
   . subst y
     rw [Zag,Zag]
     exact ⟨ht,rfl,hqe.symm,hit⟩
   . rw [Zaf y] at hj
     rw [Zaf y]
     obtain ⟨a,b,d,f⟩:=I.pnd1 j hj
     have x:pa j≠t:=by intro x;rw [x] at b;omega
     rw [Zaf x]
     exact ⟨a,b,d,f⟩
 . have hs2:(seta v.th t { (v.th t) with phase:=22 } s).phase=22:=hs2
   show seta ro q 4 (seta v.th t { (v.th t) with phase:=22 } s).who=4/\seta pa q t (seta v.th t { (v.th t) with phase:=22 } s).who=s
   by_cases x:s=t
   . subst x
     rw [Zag]
     show seta ro q 4 (v.th s).who=4/\seta pa q s (v.th s).who=s
     rw [<- hqe,Zag,Zag]
     exact ⟨rfl,rfl⟩
   . rw [Zaf x] at hs2
     rw [Zaf x]
     obtain ⟨a,b⟩:=I.pnd2 s hs1 hs2
     have y:(v.th s).who≠q:=by intro y;rw [y] at a;omega
     rw [Zaf y,Zaf y]
     exact ⟨a,b⟩
 . have hs2:(seta v.th t { (v.th t) with phase:=22 } s).phase=16:=hs2
   have x:s≠t:=by intro x;rw [x,Zag] at hs2;dsimp only at hs2;omega
   rw [Zaf x] at hs2
   show co (kidH (seta v.th t { (v.th t) with phase:=22 } s)).t=some (v.r (kidH (seta v.th t { (v.th t) with phase:=22 } s)).t)
   rw [Zaf x]
   exact I.r16 s hs1 hs2
 . show Tree c v.b (seta v.th t { (v.th t) with phase:=22 }) (seta ro q 4) (seta pa q t)
   refine I.tree.same (fun _ _ _ _=>rfl) I.nodes (fun j=>?_) (fun j=>?_) (fun j=>?_) (fun j k hj hk hp=>?_)
   . by_cases x:j=t
     . subst x
       rw [Zag]
       exact ZhS rfl rfl (by dsimp only;omega) (by rw [ZaK (by dsimp only;omega),ZaK (by omega)])
     . rw [Zaf x]
   . by_cases y:j=q
     . subst y;rw [Zag];omega
     . rw [Zaf y]
   . by_cases x:j=t
     . subst x;rw [Zag];right;dsimp only;omega
     . rw [Zaf x];exact .inl rfl
   . have y:k≠q:=by intro y;subst y;omega
     rw [Zaf y,Zaf y]
     exact ⟨hk,hp⟩
 . show Num (seta v.l q 0 j)
   by_cases y:j=q
   . subst y;rw [Zag];exact Zbg (by decide)
   . rw [Zaf y];exact I.num.2.1 j
end
end Go.Proofs.Mill
namespace Go.Proofs.Mill
theorem ZsN {α:Type} {f:Int->α} {j:Int} {a b:α}:seta (seta f j a) j b=seta f j b:=by
 funext k;unfold seta;split <;> rfl
theorem ZpH {lo hi:Int} (hlo:Num lo) (hhi:Num hi):∀ (b:List Entry) (x:Int),Num x->(∀ e∈b,Num e.op.v)->Num (allT lo hi b x)
 | [],x,hx,_=>hx
 | e::b,x,hx,hb=>ZpH hlo hhi b _ (ZoI hx (hb e (List.mem_cons_self ..)) hlo) (fun y hy=>hb y (List.mem_cons_of_mem _ hy))
theorem Zib (h:Thread):((ZbL h).phase=0/\Zey h=true/\(h.at_<0\/h.at_>=(h.kids.length:Int)))\/((ZbL h).phase=15/\Zey h=false/\0<=h.at_/\h.at_<(h.kids.length:Int)):=by
 unfold ZbL Zey
 by_cases g:h.at_<0\/h.at_>=(h.kids.length:Int)
 . rw [if_pos g];exact .inl ⟨rfl,decide_eq_true g,g⟩
 . rw [if_neg g];exact .inr ⟨rfl,decide_eq_false g,by omega⟩
theorem ZlM (h:Thread):(ZbL h).batch=h.batch/\(ZbL h).kids=h.kids/\(ZbL h).op=h.op/\(ZbL h).item=h.item/\(ZbL h).stop=h.stop/\(ZbL h).x=h.x/\(ZbL h).width=h.width/\(ZbL h).held=h.held/\(ZbL h).at_=h.at_:=by
 unfold ZbL
 split <;> exact ⟨rfl,rfl,rfl,rfl,rfl,rfl,rfl,rfl,rfl⟩
section
variable {c:Config} {v:Vw} {ro pa rt:Int->Int} {co:Int->Option Int} {t:Int}
theorem LocT.settled {h h':Thread} {l r:Int} {bx:List Entry} {ro0:Int} {co0 co':Option Int} (L:LocT c h l r bx ro0 co0) (hp:h.phase≠0) (hl:l=0\/l=5)
   (e:h'.batch=h.batch/\h'.kids=h.kids/\h'.item=h.item/\h'.stop=h.stop/\h'.held=h.held) (hx:Num h'.x) (hw:h'.width=h.width) {q:Int}
   (hq:(q=0/\h'.phase=0)\/(q=7/\h'.phase=15/\0<=h'.at_/\h'.at_<(h.kids.length:Int)/\co'=some h'.x)):LocT c h' l r bx q co':=by
 obtain ⟨e1,e2,e3,e4,e5⟩:=e
 obtain ⟨a1,a2,a3,a4,a5,a6,a7,a8⟩:=L.ari
 have hk:=L.kidsN hp
 have ho:=L.ops hp
 have hh:=L.held hp
 rcases hq with ⟨rfl,p⟩ | ⟨rfl,p,h1,h2,h3⟩
 . refine ⟨⟨.inl ⟨rfl,p,hl⟩,fun k=>(k p).elim,fun k=>?_,fun k=>(k p).elim,fun k=>?_,fun k=>?_,fun k=>?_,fun k=>?_⟩,fun k=>?_,L.boxl,fun k=>?_,hx,by rw [hw];exact L.nw,fun k=>(k p).elim,fun k=>?_,fun k=>?_,fun k=>?_,fun k=>absurd k (by decide),fun k=>absurd k (by decide),fun k=>(k p).elim,fun k=>(k p).elim⟩
   all_goals (clear a1 a2 a3 a4 a5 a6 a7 a8;omega)
 . refine ⟨⟨.inr (.inr (.inr (.inr (.inr (.inr ⟨rfl,.inl p,hl⟩))))),fun _=>by rw [e3];exact a2 hp,fun k=>?_,fun _=>by rw [e4];exact a4 hp,fun k=>?_,fun k=>?_,fun k=>?_,fun _=>by rw [e2];exact ⟨h1,h2⟩⟩,fun k=>?_,L.boxl,fun k=>?_,hx,by rw [hw];exact L.nw,fun _=>by rw [e5];exact hh,fun k=>?_,fun k=>?_,fun k=>?_,fun _=>h3,fun k=>absurd k (by decide),fun _=>by rw [e1,e2];exact hk,fun _=>by rw [e1];exact ho⟩
   all_goals (clear a1 a2 a3 a4 a5 a6 a7 a8;omega)
theorem Zpl (I:Inv c v ro pa rt co) (hC:CfgOK c) (ht:InT c t) (p:(v.th t).phase=2\/(v.th t).phase=3\/(v.th t).phase=25) {b':Int->Int->Int} (hb:∀ i m,1<=m->m<=ZaI c->b' i m=v.b i m) (hnb:∀ i r,Num (b' i r)) :
   Kept c v ⟨b',v.l,v.r,v.bx,seta v.th t (ZbL { (v.th t) with at_:=0,x:=v.b (v.th t).item 0 })⟩ ro pa rt co t (Zgs c (v.th t) (v.b (v.th t).item 0)) (Zey { (v.th t) with at_:=0,x:=v.b (v.th t).item 0 }):=by
 have L:=I.loc t ht
 have hT:=Zdr L.tab (by omega)
 have hl:v.l t=0:=by omega
 have hct:=(I.core.k1 t (by omega)).1
 have hrt:=(I.core.k1 t (by omega)).2
 obtain ⟨h0,hh0⟩:∃ h0,h0=({ (v.th t) with at_:=0,x:=v.b (v.th t).item 0 }:Thread):=⟨_,rfl⟩
 have f0:h0.batch=(v.th t).batch/\h0.kids=(v.th t).kids/\h0.op=(v.th t).op/\h0.item=(v.th t).item/\h0.stop=(v.th t).stop/\h0.x=v.b (v.th t).item 0/\h0.width=(v.th t).width/\h0.held=(v.th t).held/\h0.at_=0:=by
   rw [hh0];exact ⟨rfl,rfl,rfl,rfl,rfl,rfl,rfl,rfl,rfl⟩
 rw [<- hh0]
 have f1:=ZlM h0
 have hs:=Zib h0
 obtain ⟨h',hh'⟩:∃ h',h'=ZbL h0:=⟨_,rfl⟩
 rw [<- hh'] at f1 hs ⊢
 obtain ⟨x1,x2,x3,x4,x5,x6,x7,x8,x9⟩:=f0
 obtain ⟨g1,g2,g3,g4,g5,g6,g7,g8,g9⟩:=f1
 rw [x1] at g1;rw [x2] at g2;rw [x3] at g3;rw [x4] at g4;rw [x5] at g5;rw [x6] at g6;rw [x7] at g7;rw [x8] at g8;rw [x9] at g9 hs
 rw [x2] at hs
 obtain ⟨x,hx⟩:∃ x,x=v.b (v.th t).item 0:=⟨_,rfl⟩
 rw [<- hx] at g6
 have hnx:Num x:=by rw [hx];exact I.num.1 _ _
 have hC1:=I.core.commit (x:=x) hT.1
 obtain ⟨co1,hco1⟩:∃ co1,co1=Zlf c (fun j=>(v.th j).batch) ro rt co t x:=⟨_,rfl⟩
 rw [<- hco1] at hC1
 have hkeep:∀ j y,co j=some y->co1 j=some y:=by
   intro j y hj
   rw [hco1]
   unfold Zlf
   rw [if_neg (fun k=>by rw [hj] at k;cases k.2.1)]
   exact hj
 have hown:co1 t=some x:=by
   rw [hco1]
   unfold Zlf
   rw [if_pos ⟨by omega,hct,hrt⟩]
   obtain ⟨rr,hr⟩:=I.core.k3 t (by omega)
   have hr':(v.th t).batch=⟨t,(v.th t).op⟩::rr:=hr
   show some (allT c.lo c.hi ((v.th t).batch.take (idxOf (v.th t).batch t)) x)=_
   have:idxOf (v.th t).batch t=0:=by rw [hr'];exact Zue (e:=⟨t,(v.th t).op⟩)
   rw [this,List.take_zero]
   rfl
 have hkA:ZaV (v.th t)=(v.th t).kids:=by
   unfold ZaV
   rw [if_neg (by omega),if_neg (by omega)]
 have hkA':ZaV h'=(v.th t).kids:=by
   unfold ZaV
   rcases hs with ⟨y1,_,y2⟩ | ⟨y1,_,y2⟩
   . rw [if_pos y1]
     cases hk:(v.th t).kids with
     | nil=>rfl
     | cons a r=>rw [hk] at y2;simp at y2;omega
   . rw [if_neg (by omega),if_pos (.inl y1),g9,g2];rfl
 have c0:∀ {α:Type} (f:Thread->α),f h'=f (v.th t)->(fun j=>f (seta v.th t h' j))=fun j=>f (v.th j):=by
   intro α f hf
   funext j;unfold seta;split
   . rename_i e;rw [e];exact hf
   . rfl
 have it':∀ j,(seta v.th t h' j).item=(v.th j).item:=fun j=>congrFun (c0 (fun h=>h.item) g4) j
 obtain ⟨dn,hdn⟩:∃ dn,dn=Zey h0:=⟨_,rfl⟩
 rw [<- hdn] at hs ⊢
 obtain ⟨q,hq⟩:∃ q:Int,q=if dn=true then 0 else 7:=⟨_,rfl⟩
 obtain ⟨co',hco'⟩:∃ co',co'=if dn=true then seta co1 t none else co1:=⟨_,rfl⟩
 have hcore:Core c (fun j=>(v.th j).batch) (fun j=>ZaV (v.th j)) (fun j=>(v.th j).op) (fun j=>(v.th j).item) (seta ro t q) pa rt co':=by
   cases hd:dn with
   | false=>rw [hd] at hq hco';rw [hq,hco'];exact hC1
   | true =>
     rw [hd] at hq hco'
     rw [hq,hco']
     have hk0:ZaV (v.th t)=[]:=by
       rcases hs with ⟨y1,_,_⟩ | ⟨_,y2,_⟩
       . rw [<- hkA'] at hkA;rw [hkA];unfold ZaV;rw [if_pos y1]
       . rw [hd] at y2;cases y2
     have:=hC1.done (t:=t) Zag hk0
     rw [ZsN] at this
     exact this
 have hco'ne:∀ j y,co j=some y->co' j=some y:=by
   intro j y hj
   have hjt:j≠t:=by intro e;rw [e,hct] at hj;cases hj
   rw [hco']
   split
   . rw [Zaf hjt];exact hkeep j y hj
   . exact hkeep j y hj
 refine ⟨seta ro t q,pa,rt,co1,?_,.inr ⟨hT.1,by rw [<- hx],by rw [<- hx];exact hco1⟩,fun _=>?_⟩
 . rw [<- hco']
   refine ⟨?_,fun j hj=>?_,fun j hj=>?_,fun s hs1 hs2=>?_,fun s hs1 hs2=>?_,?_,hnb,I.num.2⟩
   . show Core c (fun j=>(seta v.th t h' j).batch) (fun j=>ZaV (seta v.th t h' j)) (fun j=>(seta v.th t h' j).op) (fun j=>(seta v.th t h' j).item) _ _ _ _
     rw [c0 (fun h=>h.batch) g1,c0 ZaV (by rw [hkA,hkA']),c0 (fun h=>h.op) g3,c0 (fun h=>h.item) g4]
     exact hcore
   . show LocT c (seta v.th t h' j) (v.l j) (v.r j) (v.bx j) (seta ro t q j) (co' j)
     by_cases e:j=t
     . subst e
       rw [Zag,Zag]
       refine L.settled (by omega) (.inl hl) ⟨g1,g2,g4,g5,g8⟩ (by rw [g6];exact hnx) g7 ?_
       cases hd:dn with
       | true =>
         rw [hd] at hq hs
         rcases hs with ⟨y1,_,_⟩ | ⟨_,y2,_⟩
         . exact .inl ⟨hq,y1⟩
         . cases y2
       | false =>
         rw [hd] at hq hs hco'
         rcases hs with ⟨_,y2,_⟩ | ⟨y1,_,y3,y4⟩
         . cases y2
         . exact .inr ⟨hq,y1,by rw [g9];exact y3,by rw [g9];exact y4,by rw [hco',g6];exact hown⟩
     . rw [Zaf e,Zaf e]
       have Lj:=I.loc j hj
       exact ⟨Lj.ari,Lj.box,Lj.boxl,Lj.y,Lj.nx,Lj.nw,Lj.held,Lj.node,Lj.x6,Lj.one,fun k=>hco'ne _ _ (Lj.tell k),fun k=>hco'ne _ _ (Lj.told k),Lj.kidsN,Lj.ops⟩
   . have e:j≠t:=by
       intro e;rw [e,Zag] at hj
       rw [hq] at hj
       split at hj <;> exact absurd hj (by decide)
     rw [Zaf e] at hj
     obtain ⟨a,b,d,f⟩:=I.pnd1 j hj
     show InT c (pa j)/\(seta v.th t h' (pa j)).phase=22/\(seta v.th t h' (pa j)).who=j/\(seta v.th t h' (pa j)).item=(seta v.th t h' j).item
     have e2:pa j≠t:=by intro e2;rw [e2] at b;omega
     rw [it',it',Zaf e2]
     exact ⟨a,b,d,f⟩
   . have hs2:(seta v.th t h' s).phase=22:=hs2
     have e:s≠t:=by intro e;rw [e,Zag] at hs2;omega
     rw [Zaf e] at hs2
     show seta ro t q (seta v.th t h' s).who=4/\pa (seta v.th t h' s).who=s
     rw [Zaf e]
     obtain ⟨a,b⟩:=I.pnd2 s hs1 hs2
     have e2:(v.th s).who≠t:=by intro e2;rw [e2] at a;omega
     rw [Zaf e2]
     exact ⟨a,b⟩
   . have hs2:(seta v.th t h' s).phase=16:=hs2
     have e:s≠t:=by intro e;rw [e,Zag] at hs2;omega
     rw [Zaf e] at hs2
     show co' (kidH (seta v.th t h' s)).t=some (v.r (kidH (seta v.th t h' s)).t)
     rw [Zaf e]
     exact hco'ne _ _ (I.r16 s hs1 hs2)
   . have hq2:q≠2:=by rw [hq];split <;> decide
     refine I.treeSame hb (ZhS g4 g5 (by omega) ?_) (by omega) (by omega) (by omega)
     rw [ZaK (by omega),ZaK (by omega)]
 . rw [hown]
   show some x=some (seta v.th t h' t).x
   rw [Zag,g6]
theorem Zzr (I:Inv c v ro pa rt co) (hC:CfgOK c) (ht:InT c t) (p:(v.th t).phase=14) :
   Kept c v (put v t (ZbL { (v.th t) with at_:=0,x:=v.r t })) ro pa rt co t [] (Zey { (v.th t) with at_:=0,x:=v.r t }):=by
 have L:=I.loc t ht
 have hT:ro t=6/\v.l t=5:=by have:=L.tab;unfold Tab at this;omega
 have hco:=L.told hT.1
 obtain ⟨h0,hh0⟩:∃ h0,h0=({ (v.th t) with at_:=0,x:=v.r t }:Thread):=⟨_,rfl⟩
 have f0:h0.batch=(v.th t).batch/\h0.kids=(v.th t).kids/\h0.op=(v.th t).op/\h0.item=(v.th t).item/\h0.stop=(v.th t).stop/\h0.x=v.r t/\h0.width=(v.th t).width/\h0.held=(v.th t).held/\h0.at_=0:=by
   rw [hh0];exact ⟨rfl,rfl,rfl,rfl,rfl,rfl,rfl,rfl,rfl⟩
 rw [<- hh0]
 have f1:=ZlM h0
 have hs:=Zib h0
 obtain ⟨h',hh'⟩:∃ h',h'=ZbL h0:=⟨_,rfl⟩
 rw [<- hh'] at f1 hs ⊢
 obtain ⟨x1,x2,x3,x4,x5,x6,x7,x8,x9⟩:=f0
 obtain ⟨g1,g2,g3,g4,g5,g6,g7,g8,g9⟩:=f1
 rw [x1] at g1;rw [x2] at g2;rw [x3] at g3;rw [x4] at g4;rw [x5] at g5;rw [x6] at g6;rw [x7] at g7;rw [x8] at g8;rw [x9] at g9 hs
 rw [x2] at hs
 have hC1:=I.core.told hT.1
 have hkA:ZaV (v.th t)=(v.th t).kids:=by
   unfold ZaV
   rw [if_neg (by omega),if_neg (by omega)]
 have hkA':ZaV h'=(v.th t).kids:=by
   unfold ZaV
   rcases hs with ⟨y1,_,y2⟩ | ⟨y1,_,y2⟩
   . rw [if_pos y1]
     cases hk:(v.th t).kids with
     | nil=>rfl
     | cons a r=>rw [hk] at y2;simp at y2;omega
   . rw [if_neg (by omega),if_pos (.inl y1),g9,g2];rfl
 have c0:∀ {α:Type} (f:Thread->α),f h'=f (v.th t)->(fun j=>f (seta v.th t h' j))=fun j=>f (v.th j):=by
   intro α f hf
   funext j;unfold seta;split
   . rename_i e;rw [e];exact hf
   . rfl
 have it':∀ j,(seta v.th t h' j).item=(v.th j).item:=fun j=>congrFun (c0 (fun h=>h.item) g4) j
 obtain ⟨dn,hdn⟩:∃ dn,dn=Zey h0:=⟨_,rfl⟩
 rw [<- hdn] at hs ⊢
 obtain ⟨q,hq⟩:∃ q:Int,q=if dn=true then 0 else 7:=⟨_,rfl⟩
 obtain ⟨co',hco'⟩:∃ co',co'=if dn=true then seta co t none else co:=⟨_,rfl⟩
 have hcore:Core c (fun j=>(v.th j).batch) (fun j=>ZaV (v.th j)) (fun j=>(v.th j).op) (fun j=>(v.th j).item) (seta ro t q) pa rt co':=by
   cases hd:dn with
   | false=>rw [hd] at hq hco';rw [hq,hco'];exact hC1
   | true =>
     rw [hd] at hq hco'
     rw [hq,hco']
     have hk0:ZaV (v.th t)=[]:=by
       rcases hs with ⟨y1,_,_⟩ | ⟨_,y2,_⟩
       . rw [<- hkA'] at hkA;rw [hkA];unfold ZaV;rw [if_pos y1]
       . rw [hd] at y2;cases y2
     have:=hC1.done (t:=t) Zag hk0
     rw [ZsN] at this
     exact this
 have hco'ne:∀ j,j≠t->co' j=co j:=by
   intro j hj
   rw [hco']
   split
   . rw [Zaf hj]
   . rfl
 refine ⟨seta ro t q,pa,rt,co,?_,.inl ⟨rfl,rfl⟩,fun _=>?_⟩
 . rw [<- hco']
   refine ⟨?_,fun j hj=>?_,fun j hj=>?_,fun s hs1 hs2=>?_,fun s hs1 hs2=>?_,?_,I.num⟩
   . show Core c (fun j=>(seta v.th t h' j).batch) (fun j=>ZaV (seta v.th t h' j)) (fun j=>(seta v.th t h' j).op) (fun j=>(seta v.th t h' j).item) _ _ _ _
     rw [c0 (fun h=>h.batch) g1,c0 ZaV (by rw [hkA,hkA']),c0 (fun h=>h.op) g3,c0 (fun h=>h.item) g4]
     exact hcore
   . show LocT c (seta v.th t h' j) (v.l j) (v.r j) (v.bx j) (seta ro t q j) (co' j)
     by_cases e:j=t
     . subst e
       rw [Zag,Zag]
       refine L.settled (by omega) (.inr hT.2) ⟨g1,g2,g4,g5,g8⟩ (by rw [g6];exact I.num.2.2 _) g7 ?_
       cases hd:dn with
       | true =>
         rw [hd] at hq hs
         rcases hs with ⟨y1,_,_⟩ | ⟨_,y2,_⟩
         . exact .inl ⟨hq,y1⟩
         . cases y2
       | false =>
         rw [hd] at hq hs hco'
         rcases hs with ⟨_,y2,_⟩ | ⟨y1,_,y3,y4⟩
         . cases y2
         . exact .inr ⟨hq,y1,by rw [g9];exact y3,by rw [g9];exact y4,by rw [hco',g6];exact hco⟩
     . rw [Zaf e,Zaf e,hco'ne j e]
       exact I.loc j hj
   . have e:j≠t:=by
       intro e;rw [e,Zag] at hj
       rw [hq] at hj
       split at hj <;> exact absurd hj (by decide)
     rw [Zaf e] at hj
     obtain ⟨a,b,d,f⟩:=I.pnd1 j hj
     show InT c (pa j)/\(seta v.th t h' (pa j)).phase=22/\(seta v.th t h' (pa j)).who=j/\(seta v.th t h' (pa j)).item=(seta v.th t h' j).item
     have e2:pa j≠t:=by intro e2;rw [e2] at b;omega
     rw [it',it',Zaf e2]
     exact ⟨a,b,d,f⟩
   . have hs2:(seta v.th t h' s).phase=22:=hs2
     have e:s≠t:=by intro e;rw [e,Zag] at hs2;omega
     rw [Zaf e] at hs2
     show seta ro t q (seta v.th t h' s).who=4/\pa (seta v.th t h' s).who=s
     rw [Zaf e]
     obtain ⟨a,b⟩:=I.pnd2 s hs1 hs2
     have e2:(v.th s).who≠t:=by intro e2;rw [e2] at a;omega
     rw [Zaf e2]
     exact ⟨a,b⟩
   . have hs2:(seta v.th t h' s).phase=16:=hs2
     have e:s≠t:=by intro e;rw [e,Zag] at hs2;omega
     rw [Zaf e] at hs2
     show co' (kidH (seta v.th t h' s)).t=some (v.r (kidH (seta v.th t h' s)).t)
     rw [Zaf e]
     have ha:=(I.loc s hs1).ari.2.2.2.2.2.2.2 (.inr hs2)
     have hk:kidH (v.th s)∈ZaV (v.th s):=by
       unfold ZaV kidH
       have h1:(v.th s).at_.toNat<(v.th s).kids.length:=by omega
       rw [if_neg (by omega),if_pos (.inr hs2),List.getD_eq_getElem?_getD,List.getElem?_eq_getElem h1,Option.getD_some,List.drop_eq_getElem_cons h1]
       exact List.mem_cons_self ..
     have h5:=(I.core.k7 s _ hk).1
     rw [hco'ne _ (fun x=>by rw [x] at h5;omega)]
     exact I.r16 s hs1 hs2
   . have hq2:q≠2:=by rw [hq];split <;> decide
     refine I.treeSame (fun _ _ _ _=>rfl) (ZhS g4 g5 (by omega) ?_) (by omega) (by omega) (by omega)
     rw [ZaK (by omega),ZaK (by omega)]
 . rw [hco]
   show some (v.r t)=some (seta v.th t h' t).x
   rw [Zag,g6]
theorem Inv.kid (I:Inv c v ro pa rt co) (ht:InT c t) (p:(v.th t).phase=15\/(v.th t).phase=16):ZaV (v.th t)=kidH (v.th t)::(v.th t).kids.drop ((v.th t).at_.toNat+1)/\ro (kidH (v.th t)).t=5/\pa (kidH (v.th t)).t=t/\∀ x,co t=some x->co (kidH (v.th t)).t=some (allT c.lo c.hi ((v.th t).batch.take (kidH (v.th t)).ahead.toNat) x):=by
 have ha:=(I.loc t ht).ari.2.2.2.2.2.2.2 p
 have h1:(v.th t).at_.toNat<(v.th t).kids.length:=by omega
 have e:ZaV (v.th t)=kidH (v.th t)::(v.th t).kids.drop ((v.th t).at_.toNat+1):=by
   unfold ZaV kidH
   rw [if_neg (by omega),if_pos p,List.getD_eq_getElem?_getD,List.getElem?_eq_getElem h1,Option.getD_some,List.drop_eq_getElem_cons h1]
 have hk:kidH (v.th t)∈ZaV (v.th t):=by rw [e];exact List.mem_cons_self ..
 obtain ⟨a,b,_,_,d⟩:=I.core.k7 t _ hk
 exact ⟨e,a,b,d⟩
theorem Zww (I:Inv c v ro pa rt co) (hC:CfgOK c) (hlo:Num c.lo) (hhi:Num c.hi) (ht:InT c t) (p:(v.th t).phase=15) :
   Kept c v (put (wR v (kidH (v.th t)).t (allT c.lo c.hi ((v.th t).batch.take (kidH (v.th t)).ahead.toNat) (v.th t).x)) t { (v.th t) with phase:=16 }) ro pa rt co t [] false:=by
 have L:=I.loc t ht
 have A:=L.ari
 have hT:ro t=7/\(v.l t=0\/v.l t=5):=by have:=L.tab;unfold Tab at this;omega
 have hco:=L.tell hT.1
 have ha:=A.2.2.2.2.2.2.2 (.inl p)
 obtain ⟨k1,k2,k3,k4⟩:=I.kid ht (.inl p)
 have k5:=k4 _ hco
 obtain ⟨k,hk⟩:∃ k,k=(kidH (v.th t)).t:=⟨_,rfl⟩
 obtain ⟨z,hz⟩:∃ z,z=allT c.lo c.hi ((v.th t).batch.take (kidH (v.th t)).ahead.toNat) (v.th t).x:=⟨_,rfl⟩
 have hnz:Num z:=by rw [hz];exact ZpH hlo hhi _ _ L.nx (fun e he=>L.ops (by omega) e (List.mem_of_mem_take he))
 rw [<- hk,<- hz] at k5
 rw [<- hk] at k2 k3
 rw [<- hk,<- hz]
 have hkt:k≠t:=by intro e;rw [e] at k2;omega
 have c0:∀ {α:Type} (f:Thread->α),f { (v.th t) with phase:=16 }=f (v.th t)->(fun j=>f (seta v.th t { (v.th t) with phase:=16 } j))=fun j=>f (v.th j):=by
   intro α f hf
   funext j;unfold seta;split
   . rename_i e;rw [e];exact hf
   . rfl
 have it':∀ j,(seta v.th t { (v.th t) with phase:=16 } j).item=(v.th j).item:=fun j=>congrFun (c0 (fun h=>h.item) rfl) j
 have hkA:ZaV { (v.th t) with phase:=16 }=ZaV (v.th t):=by
   unfold ZaV
   rw [if_neg (by dsimp only;omega),if_pos (by dsimp only;omega),if_neg (by omega),if_pos (.inl p)]
 refine ⟨ro,pa,rt,co,?_,.inl ⟨rfl,rfl⟩,fun h=>by cases h⟩
 rw [if_neg (by decide)]
 refine ⟨?_,fun j hj=>?_,fun j hj=>?_,fun s hs1 hs2=>?_,fun s hs1 hs2=>?_,?_,I.num.1,I.num.2.1,fun j=>?_⟩
 . show Core c (fun j=>(seta v.th t { (v.th t) with phase:=16 } j).batch) (fun j=>ZaV (seta v.th t { (v.th t) with phase:=16 } j)) (fun j=>(seta v.th t { (v.th t) with phase:=16 } j).op) (fun j=>(seta v.th t { (v.th t) with phase:=16 } j).item) _ _ _ _
   rw [c0 (fun h=>h.batch) rfl,c0 ZaV hkA,c0 (fun h=>h.op) rfl,c0 (fun h=>h.item) rfl]
   exact I.core
 . show LocT c (seta v.th t { (v.th t) with phase:=16 } j) (v.l j) (seta v.r k z j) (v.bx j) (ro j) (co j)
   by_cases e:j=t
   . subst e
     rw [Zag,Zaf (Ne.symm hkt)]
     obtain ⟨a1,a2,a3,a4,a5,a6,a7,a8⟩:=A
     have hh:=L.held (by omega)
     have hkn:=L.kidsN (by omega)
     have hop:=L.ops (by omega)
     refine ⟨⟨?_,fun _=>a2 (by omega),?_,fun _=>a4 (by omega),?_,?_,?_,fun _=>ha⟩,?_,L.boxl,?_,L.nx,L.nw,fun _=>hh,?_,?_,?_,fun _=>hco,?_,fun _=>hkn,fun _=>hop⟩
     . exact .inr (.inr (.inr (.inr (.inr (.inr ⟨hT.1,.inr rfl,hT.2⟩)))))
     all_goals clear a1 a2 a3 a4 a5 a6 a7 a8 k4 k5
     all_goals try dsimp only
     all_goals first | omega | (intro k;omega)
   . rw [Zaf e]
     by_cases y:j=k
     . have Lj:=I.loc j hj
       rw [y] at Lj ⊢
       rw [Zag]
       exact ⟨Lj.ari,Lj.box,Lj.boxl,Lj.y,Lj.nx,Lj.nw,Lj.held,Lj.node,Lj.x6,Lj.one,Lj.tell,fun h6=>by omega,Lj.kidsN,Lj.ops⟩
     . rw [Zaf y];exact I.loc j hj
 . obtain ⟨a,b,d,f⟩:=I.pnd1 j hj
   show InT c (pa j)/\(seta v.th t { (v.th t) with phase:=16 } (pa j)).phase=22/\(seta v.th t { (v.th t) with phase:=16 } (pa j)).who=j/\(seta v.th t { (v.th t) with phase:=16 } (pa j)).item=(seta v.th t { (v.th t) with phase:=16 } j).item
   have e2:pa j≠t:=by intro e2;rw [e2] at b;omega
   rw [it',it',Zaf e2]
   exact ⟨a,b,d,f⟩
 . have hs2:(seta v.th t { (v.th t) with phase:=16 } s).phase=22:=hs2
   have e:s≠t:=by intro e;rw [e,Zag] at hs2;dsimp only at hs2;omega
   rw [Zaf e] at hs2
   show ro (seta v.th t { (v.th t) with phase:=16 } s).who=4/\pa (seta v.th t { (v.th t) with phase:=16 } s).who=s
   rw [Zaf e]
   exact I.pnd2 s hs1 hs2
 . have hs2:(seta v.th t { (v.th t) with phase:=16 } s).phase=16:=hs2
   show co (kidH (seta v.th t { (v.th t) with phase:=16 } s)).t=some (seta v.r k z (kidH (seta v.th t { (v.th t) with phase:=16 } s)).t)
   by_cases e:s=t
   . subst e
     rw [Zag]
     show co (kidH (v.th s)).t=some (seta v.r k z (kidH (v.th s)).t)
     rw [<- hk,Zag]
     exact k5
   . rw [Zaf e] at hs2 ⊢
     obtain ⟨_,_,l3,_⟩:=I.kid hs1 (.inr hs2)
     rw [Zaf (fun x=>by rw [x,k3] at l3;exact e l3.symm)]
     exact I.r16 s hs1 hs2
 . have:=I.treeSame (t:=t) (h':={ (v.th t) with phase:=16 }) (b':=v.b) (q:=ro t) (fun _ _ _ _=>rfl) (ZhS rfl rfl (by dsimp only;omega) (by rw [ZaK (by dsimp only;omega),ZaK (by omega)])) Iff.rfl (fun h=>h) (by dsimp only;omega)
   rw [Zdi] at this
   exact this
 . show Num (seta v.r k z j)
   by_cases y:j=k
   . rw [y,Zag];exact hnz
   . rw [Zaf y];exact I.num.2.2 j
theorem Zw1 (I:Inv c v ro pa rt co) (hC:CfgOK c) (ht:InT c t) (p:(v.th t).phase=16) :
   Kept c v (put (wL v (kidH (v.th t)).t 5) t (ZbL { (v.th t) with at_:=Zac .i64 ((v.th t).at_+1) })) ro pa rt co t [] (Zey { (v.th t) with at_:=Zac .i64 ((v.th t).at_+1) }):=by
 have L:=I.loc t ht
 have A:=L.ari
 have hT:ro t=7/\(v.l t=0\/v.l t=5):=by have:=L.tab;unfold Tab at this;omega
 have hco:=L.tell hT.1
 have ha:=A.2.2.2.2.2.2.2 (.inr p)
 obtain ⟨k1,k2,k3,_⟩:=I.kid ht (.inr p)
 have hres:=I.r16 t ht p
 obtain ⟨k,hk⟩:∃ k,k=(kidH (v.th t)).t:=⟨_,rfl⟩
 rw [<- hk] at k2 k3 hres ⊢
 have hkt:k≠t:=by intro e;rw [e] at k2;omega
 have hkin:InT c k:=I.core.out k (by omega)
 have hsh:=I.short hC (j:=t) (by omega)
 have hkn:=L.kidsN (by omega)
 have hwr:Zac IntKind.i64 ((v.th t).at_+1)=(v.th t).at_+1:=Zas (by omega) (by omega)
 obtain ⟨h0,hh0⟩:∃ h0,h0=({ (v.th t) with at_:=Zac .i64 ((v.th t).at_+1) }:Thread):=⟨_,rfl⟩
 have f0:h0.batch=(v.th t).batch/\h0.kids=(v.th t).kids/\h0.op=(v.th t).op/\h0.item=(v.th t).item/\h0.stop=(v.th t).stop/\h0.x=(v.th t).x/\h0.width=(v.th t).width/\h0.held=(v.th t).held/\h0.at_=(v.th t).at_+1:=by
   rw [hh0];exact ⟨rfl,rfl,rfl,rfl,rfl,rfl,rfl,rfl,hwr⟩
 rw [<- hh0]
 have f1:=ZlM h0
 have hs:=Zib h0
 obtain ⟨h',hh'⟩:∃ h',h'=ZbL h0:=⟨_,rfl⟩
 rw [<- hh'] at f1 hs ⊢
 obtain ⟨x1,x2,x3,x4,x5,x6,x7,x8,x9⟩:=f0
 obtain ⟨g1,g2,g3,g4,g5,g6,g7,g8,g9⟩:=f1
 rw [x1] at g1;rw [x2] at g2;rw [x3] at g3;rw [x4] at g4;rw [x5] at g5;rw [x6] at g6;rw [x7] at g7;rw [x8] at g8;rw [x9] at g9 hs
 rw [x2] at hs
 have hC1:=I.core.tell hT.1 k1
 rw [<- hk] at hC1
 have hkA':ZaV h'=(v.th t).kids.drop ((v.th t).at_.toNat+1):=by
   unfold ZaV
   rcases hs with ⟨y1,_,y2⟩ | ⟨y1,_,y2⟩
   . rw [if_pos y1,List.drop_of_length_le (by omega)]
   . rw [if_neg (by omega),if_pos (.inl y1),g9,g2,show ((v.th t).at_+1).toNat=(v.th t).at_.toNat+1 by omega]
 have c0:∀ {α:Type} (f:Thread->α),f h'=f (v.th t)->(fun j=>f (seta v.th t h' j))=fun j=>f (v.th j):=by
   intro α f hf
   funext j;unfold seta;split
   . rename_i e;rw [e];exact hf
   . rfl
 have cK:(fun j=>ZaV (seta v.th t h' j))=seta (fun j=>ZaV (v.th j)) t ((v.th t).kids.drop ((v.th t).at_.toNat+1)):=by
   funext j;unfold seta;split
   . exact hkA'
   . rfl
 have it':∀ j,(seta v.th t h' j).item=(v.th j).item:=fun j=>congrFun (c0 (fun h=>h.item) g4) j
 obtain ⟨dn,hdn⟩:∃ dn,dn=Zey h0:=⟨_,rfl⟩
 rw [<- hdn] at hs ⊢
 obtain ⟨q,hq⟩:∃ q:Int,q=if dn=true then 0 else 7:=⟨_,rfl⟩
 obtain ⟨co',hco'⟩:∃ co',co'=if dn=true then seta co t none else co:=⟨_,rfl⟩
 have hq07:q=0\/q=7:=by rw [hq];split <;> simp
 have hcore:Core c (fun j=>(v.th j).batch) (seta (fun j=>ZaV (v.th j)) t ((v.th t).kids.drop ((v.th t).at_.toNat+1))) (fun j=>(v.th j).op) (fun j=>(v.th j).item) (seta (seta ro k 6) t q) pa rt co':=by
   cases hd:dn with
   | false =>
     rw [hd] at hq hco'
     have e:seta (seta ro k 6) t q=seta ro k 6:=by
       rw [hq]
       funext j;unfold seta;split
       . rename_i e;rw [e,if_neg (Ne.symm hkt)];exact hT.1.symm
       . rfl
     rw [e,hco'];exact hC1
   | true =>
     rw [hd] at hq hco'
     rw [hq,hco']
     refine hC1.done (t:=t) ?_ ?_
     . rw [Zaf (Ne.symm hkt)];exact hT.1
     . rw [Zag]
       rcases hs with ⟨_,_,y2⟩ | ⟨_,y2,_⟩
       . exact List.drop_of_length_le (by omega)
       . rw [hd] at y2;cases y2
 have hco'ne:∀ j,j≠t->co' j=co j:=by
   intro j hj
   rw [hco']
   split
   . rw [Zaf hj]
   . rfl
 refine ⟨seta (seta ro k 6) t q,pa,rt,co,?_,.inl ⟨rfl,rfl⟩,fun _=>?_⟩
 . rw [<- hco']
   refine ⟨?_,fun j hj=>?_,fun j hj=>?_,fun s hs1 hs2=>?_,fun s hs1 hs2=>?_,?_,I.num.1,fun j=>?_,I.num.2.2⟩
   . show Core c (fun j=>(seta v.th t h' j).batch) (fun j=>ZaV (seta v.th t h' j)) (fun j=>(seta v.th t h' j).op) (fun j=>(seta v.th t h' j).item) _ _ _ _
     rw [c0 (fun h=>h.batch) g1,cK,c0 (fun h=>h.op) g3,c0 (fun h=>h.item) g4]
     exact hcore
   . show LocT c (seta v.th t h' j) (seta v.l k 5 j) (v.r j) (v.bx j) (seta (seta ro k 6) t q j) (co' j)
     by_cases e:j=t
     . subst e
       rw [Zag,Zag,Zaf (Ne.symm hkt)]
       refine L.settled (by omega) hT.2 ⟨g1,g2,g4,g5,g8⟩ (by rw [g6];exact L.nx) g7 ?_
       cases hd:dn with
       | true =>
         rw [hd] at hq hs
         rcases hs with ⟨y1,_,_⟩ | ⟨_,y2,_⟩
         . exact .inl ⟨hq,y1⟩
         . cases y2
       | false =>
         rw [hd] at hq hs hco'
         rcases hs with ⟨_,y2,_⟩ | ⟨y1,_,y3,y4⟩
         . cases y2
         . exact .inr ⟨hq,y1,by rw [g9];exact y3,by rw [g9];exact y4,by rw [hco',g6];exact hco⟩
     . rw [Zaf e,Zaf e,hco'ne j e]
       by_cases y:j=k
       . have Lj:=I.loc j hj
         rw [y] at Lj ⊢
         rw [Zag,Zag]
         obtain ⟨a1,a2,a3,a4,a5,a6,a7,a8⟩:=Lj.ari
         have hTk:(v.th k).phase=13\/(v.th k).phase=19\/(v.th k).phase=20\/(v.th k).phase=23\/(v.th k).phase=26:=by
           unfold Tab at a1;clear hs;omega
         refine ⟨⟨.inr (.inr (.inr (.inr (.inr (.inl ⟨rfl,hTk.elim .inl (fun x=>.inr (.inr x)),rfl⟩))))),a2,a3,a4,a5,fun x=>?_,a7,a8⟩,fun x=>x.elim (fun x=>absurd x (by decide)) (fun x=>absurd x.1 (by decide)),Lj.boxl,Lj.y,Lj.nx,Lj.nw,Lj.held,Lj.node,Lj.x6,Lj.one,fun x=>absurd x (by decide),fun _=>hres,Lj.kidsN,Lj.ops⟩
         clear a1 a2 a3 a4 a5 a6 a7 a8 hs;omega
       . rw [Zaf y,Zaf y];exact I.loc j hj
   . have e:j≠t:=by
       intro e;rw [e,Zag] at hj
       clear hs;omega
     have y:j≠k:=by
       intro y;rw [y,Zaf hkt,Zag] at hj;exact absurd hj (by decide)
     rw [Zaf e,Zaf y] at hj
     obtain ⟨a,b,d,f⟩:=I.pnd1 j hj
     show InT c (pa j)/\(seta v.th t h' (pa j)).phase=22/\(seta v.th t h' (pa j)).who=j/\(seta v.th t h' (pa j)).item=(seta v.th t h' j).item
     have e2:pa j≠t:=by intro e2;rw [e2] at b;clear hs;omega
     rw [it',it',Zaf e2]
     exact ⟨a,b,d,f⟩
   . have hs2:(seta v.th t h' s).phase=22:=hs2
     have e:s≠t:=by intro e;rw [e,Zag] at hs2;omega
     rw [Zaf e] at hs2
     show seta (seta ro k 6) t q (seta v.th t h' s).who=4/\pa (seta v.th t h' s).who=s
     rw [Zaf e]
     obtain ⟨a,b⟩:=I.pnd2 s hs1 hs2
     have e2:(v.th s).who≠t:=by intro e2;rw [e2] at a;clear hs;omega
     have e3:(v.th s).who≠k:=by intro e3;rw [e3] at a;clear hs;omega
     rw [Zaf e2,Zaf e3]
     exact ⟨a,b⟩
   . have hs2:(seta v.th t h' s).phase=16:=hs2
     have e:s≠t:=by intro e;rw [e,Zag] at hs2;omega
     rw [Zaf e] at hs2
     show co' (kidH (seta v.th t h' s)).t=some (v.r (kidH (seta v.th t h' s)).t)
     rw [Zaf e]
     obtain ⟨_,l2,l3,_⟩:=I.kid hs1 (.inr hs2)
     rw [hco'ne _ (fun x=>by rw [x] at l2;clear hs;omega)]
     exact I.r16 s hs1 hs2
   . show Tree c v.b (seta v.th t h') (seta (seta ro k 6) t q) pa
     refine I.tree.same (fun _ _ _ _=>rfl) I.nodes (fun j=>?_) (fun j=>?_) (fun j=>?_) (fun j i hj hi hp=>?_)
     . by_cases x:j=t
       . rw [x,Zag]
         exact ZhS g4 g5 (by omega) (by rw [ZaK (by omega),ZaK (by omega)])
       . rw [Zaf x]
     . by_cases x:j=t
       . rw [x,Zag];clear hs;omega
       . rw [Zaf x]
         by_cases y:j=k
         . rw [y,Zag];clear hs;omega
         . rw [Zaf y]
     . by_cases x:j=t
       . rw [x,Zag];right;omega
       . rw [Zaf x];exact .inl rfl
     . have x:i≠t:=by intro x;rw [x] at hi;clear hs;omega
       have y:i≠k:=by intro y;rw [y,k3] at hp;rw [<- hp] at hj;clear hs;omega
       rw [Zaf x,Zaf y]
       exact ⟨hi,hp⟩
   . show Num (seta v.l k 5 j)
     by_cases y:j=k
     . rw [y,Zag];exact Zbg (by decide)
     . rw [Zaf y];exact I.num.2.1 j
 . rw [hco]
   show some (v.th t).x=some (seta v.th t h' t).x
   rw [Zag,g6]
theorem Inv.step (I:Inv c v ro pa rt co) (hC:CfgOK c) (hlo:Num c.lo) (hhi:Num c.hi) (ht:InT c t) {v':Vw} {log:List Mark} {done:Bool} (T:Tr c t v (v.th t) v' log done):Kept c v v' ro pa rt co t log done:=by
 have L:=I.loc t ht
 cases T with
 | nop s=>exact ZAe I
 | start p s=>exact Zwo I hC ht p s
 | load p=>exact ZyX I hC ht p
 | casF p hw hw2=>exact Zye I hC ht p hw
 | same p e=>exact Zpl I hC ht (by omega) (b':=v.b) (fun _ _ _ _=>rfl) I.num.1
 | cas p e =>
   have hy:=L.y p
   have hny:Num (v.th t).y:=by rw [hy];exact ZpH hlo hhi _ _ L.nx (L.ops (by omega))
   rw [<- e]
   exact Zpl I hC ht (by omega) (b':=setb v.b (v.th t).item 0 (v.th t).y) (fun i m h1 h2=>ZdN (fun x=>by omega)) (Ziy I.num.1 hny)
 | on25 p o=>exact ZyW I hC ht p o
 | look1 p k=>exact Zyp I hC ht p k
 | look0 p=>exact ZwV I hC ht p
 | lookL p=>exact ZxZ I hC ht p
 | take p n e=>exact Zya I hC ht p e
 | takeF p=>exact ZuM I hC ht (.inl p)
 | join p n e=>exact Zx3 I hC ht p e
 | joinF p=>exact ZuM I hC ht (.inr p)
 | seeF p a e=>exact Zze I hC ht p
 | seeD p a k=>exact Zyx I hC ht p k
 | close p a e=>exact ZrX I hC ht (.inl ⟨p,e⟩)
 | closeF p=>exact ZvE I hC ht p
 | takeB p w=>exact ZwP I hC ht p
 | clear p a=>exact ZrX I hC ht (.inr p)
 | box11 p=>exact Zuf I hC ht (.inl ⟨p,rfl⟩)
 | dep p n=>exact Zz4 I hC ht p
 | told p e=>exact Zyb I hC ht p e
 | res p=>exact Zzr I hC ht p
 | tell1 p a w=>exact Zww I hC hlo hhi ht p
 | tell2 p a w=>exact Zw1 I hC ht p
 | box17 p=>exact Zuf I hC ht (.inr ⟨p,rfl⟩)
 | open18 p=>exact Zr2 I hC ht (.inl p) ⟨rfl,rfl,rfl,rfl,rfl,rfl⟩ ⟨rfl,rfl,rfl⟩ (.inl rfl)
 | swap20 p s w=>exact Zsk I hC ht s.1 p ⟨rfl,rfl,rfl,rfl,rfl,rfl⟩ ⟨rfl,rfl,rfl⟩ (.inl rfl)
 | swap23 p s=>exact Zsk I hC ht s.1 p ⟨rfl,rfl,rfl,rfl,rfl,rfl⟩ ⟨rfl,rfl,rfl⟩ (.inr rfl)
 | shut20 p e=>exact ZnG I hC ht (.inr (.inl p)) e ⟨rfl,rfl,rfl,rfl,rfl,rfl⟩ rfl L.nw (fun _=>L.ari.2.2.1 (by omega)) (.inl rfl)
 | shutF p e=>exact Zg5 I hC ht (.inr (.inl p)) ⟨rfl,rfl,rfl,rfl,rfl,rfl⟩ ⟨rfl,rfl,rfl⟩ (.inr ⟨rfl,e⟩)
 | cap21 p w e=>exact ZzX I hC ht p w e
 | capF p=>exact ZxY I hC ht p
 | absorb p w=>exact ZvH I hC ht p w
 | spinF p e=>exact Zg5 I hC ht (.inr (.inr (.inl p))) ⟨rfl,rfl,rfl,rfl,rfl,rfl⟩ ⟨rfl,rfl,rfl⟩ (.inr ⟨rfl,e⟩)
 | spinL p e=>exact Zg5 I hC ht (.inr (.inr (.inl p))) ⟨rfl,rfl,rfl,rfl,rfl,rfl⟩ ⟨rfl,rfl,rfl⟩ (.inl (.inr (.inr (.inl p))))
 | spinO p e=>exact Zg5 I hC ht (.inr (.inr (.inl p))) ⟨rfl,rfl,rfl,rfl,rfl,rfl⟩ ⟨rfl,rfl,rfl⟩ (.inl (.inr (.inr (.inr rfl))))
 | open24 p=>exact Zr2 I hC ht (.inr p) ⟨rfl,rfl,rfl,rfl,rfl,rfl⟩ ⟨rfl,rfl,rfl⟩ (.inr rfl)
 | leave p e hw hw2 o =>
   have hly:=L.ari.2.2.1 (by omega)
   have hcl:=hC.layers
   cases o with
   | up g =>
     have g:(v.th t).layer<c.layers:=g
     exact ZnG I hC ht (.inr (.inr (.inr p))) e ⟨rfl,rfl,rfl,rfl,rfl,rfl⟩ rfl hw (fun _=>by show 1<=Zac .i64 ((v.th t).layer+1)/\Zac .i64 ((v.th t).layer+1)<=c.layers;rw [Zas (by omega) (by omega)];omega) (.inr (.inl rfl))
   | cell=>exact ZnG I hC ht (.inr (.inr (.inr p))) e ⟨rfl,rfl,rfl,rfl,rfl,rfl⟩ rfl hw (fun k=>absurd (show (17:Int)<=2 from k) (by decide)) (.inr (.inr rfl))
 | leaveF p e=>exact Zg5 I hC ht (.inr (.inr (.inr p))) ⟨rfl,rfl,rfl,rfl,rfl,rfl⟩ ⟨rfl,rfl,rfl⟩ (.inr ⟨rfl,e⟩)
end
end Go.Proofs.Mill
namespace Go.Proofs.Mill
structure Inv2 (c:Config) (v:Vw):Prop where
  w1:∀ i m,0<=i->i<c.items->1<=m->m<=ZaI c->v.b i m≠0->∃ h,InT c h/\(v.th h).item=i/\m∈Za7 (v.th h)
  w2:∀ i m j,0<=i->i<c.items->1<=m->m<=ZaI c->InT c j->v.b i m=8*(j+1)+2->(v.th j).item=i/\(v.th j).stop=m/\7<=(v.th j).phase/\(v.th j).phase<=12
  w3:∀ j,InT c j->7<=(v.th j).phase/\(v.th j).phase<=12/\0<(v.th j).stop->∀ m∈(v.th j).held,(v.th j).stop<m
  w6:∀ p,InT c p->∀ k∈ZaV (v.th p),1<=k.ahead
  w9:∀ j,InT c j->(v.th j).phase=20\/(v.th j).phase=21->InT c (v.th j).who
  w10:∀ j,InT c j->1<=(v.th j).width/\(v.th j).width<=c.width
section
variable {c:Config} {v:Vw} {t:Int} {h':Thread}
section
variable {ro pa rt:Int->Int} {co:Int->Option Int}
end
end
end Go.Proofs.Mill
namespace Go.Proofs.Mill
def lvN (n:Int):Int:=if n<=0 then 0 else if n<=1 then 1 else if n<=3 then 2 else if n<=7 then 3 else 4
def mu (c:Config) (h:Thread):Int := if h.phase<=0 then 0 else if h.phase<=1 then 6+6*c.depth+c.layers*(9+c.spin) else if h.phase<=3 then 3+2*(h.kids.length:Int) else if h.phase<=6 then 5+2*(h.kids.length:Int)+5*(h.held.length:Int)+6*lvN h.node else if h.phase<=8 then 4+2*(h.kids.length:Int)+5*((h.held.length:Int)-h.at_) else if h.phase<=9 then 3+2*(h.kids.length:Int)+5*((h.held.length:Int)-h.at_) else if h.phase<=10 then 2*(h.kids.length:Int)+5*((h.held.length:Int)-h.at_) else if h.phase<=11 then 4+2*(h.kids.length:Int) else if h.phase<=12 then 3+2*(h.kids.length:Int) else if h.phase<=13 then 2+2*(h.kids.length:Int) else if h.phase<=14 then 1+2*(h.kids.length:Int) else if h.phase<=15 then 2*((h.kids.length:Int)-h.at_) else if h.phase<=16 then 2*((h.kids.length:Int)-h.at_)-1 else if h.phase<=17 then 4+2*(h.kids.length:Int)+(c.layers-h.layer)*(9+c.spin)+(8+c.spin) else if h.phase<=18 then 4+2*(h.kids.length:Int)+(c.layers-h.layer)*(9+c.spin)+(7+c.spin) else if h.phase<=19 then 4+2*(h.kids.length:Int)+(c.layers-h.layer)*(9+c.spin)+(6+c.spin) else if h.phase<=20 then 4+2*(h.kids.length:Int)+(c.layers-h.layer)*(9+c.spin)+(5+c.spin) else if h.phase<=21 then 4+2*(h.kids.length:Int)+(c.layers-h.layer)*(9+c.spin)+(4+c.spin) else if h.phase<=22 then 4+2*(h.kids.length:Int)+(c.layers-h.layer)*(9+c.spin)+3 else if h.phase<=23 then 4+2*(h.kids.length:Int)+(c.layers-h.layer)*(9+c.spin)+2+(if 0<h.left then h.left else 0) else if h.phase<=24 then 4+2*(h.kids.length:Int)+(c.layers-h.layer)*(9+c.spin)+(3+c.spin) else if h.phase<=25 then 4+2*(h.kids.length:Int)+(c.layers-h.layer)*(9+c.spin) else 4+2*(h.kids.length:Int)+(c.layers-h.layer)*(9+c.spin)+1
section
variable {c:Config} {h:Thread}
theorem mu1 (p:h.phase=1):mu c h=6+6*c.depth+c.layers*(9+c.spin):=by
 unfold mu
 rw [if_neg (by omega),if_pos (by omega)]
end
def rkQ (b:Int->Int->Int) (t:Int) (h:Thread):Int := if h.phase=2 then 1 else if h.phase=3 then (if b h.item 0=h.x then 0 else 2) else if h.phase=4 then 1 else if h.phase=5 then (if b h.item h.node=0 then 0 else 2) else if h.phase=6 then (if b h.item h.node=h.x then 0 else 2) else if h.phase=7 then 1 else if h.phase=8 then (if b h.item (ZbC h)=8*(t+1)+1 then 0 else 2) else 0
section
variable {b:Int->Int->Int} {t:Int} {h:Thread}
end
def ZDs (t:Int) (b:Int->Int->Int) (l:Int->Int) (h:Thread):Prop :=
 h.phase=0\/(h.phase=4/\Zcc (b h.item h.node)≠1/\Zcc (b h.item h.node)≠0)\/(h.phase=7/\b h.item (ZbC h)≠8*(t+1)+1/\Zcc (b h.item (ZbC h))≠3)\/(h.phase=13/\l t≠5)
structure Own2 (c:Config) (h:Thread):Prop where
  up:4<=h.phase/\h.phase<=6->(h.held.length:Int)+lvN h.node<=c.depth
  down:7<=h.phase/\h.phase<=10->(h.held.length:Int)<=c.depth
  left:h.phase=23->h.left<=c.spin
section
variable {c:Config} {v:Vw} {ro pa rt:Int->Int} {co:Int->Option Int} {t:Int}
end
end Go.Proofs.Mill
namespace Go.Proofs.Mill
section
variable {c:Config} {v:Vw} {ro pa rt:Int->Int} {co:Int->Option Int}
end
end Go.Proofs.Mill
namespace Go.Proofs.Mill
section
variable {c:Config} {t i:Int} {op:Op}
end
end Go.Proofs.Mill
namespace Go.Proofs.Mill
section
variable {c:Config} {t i:Int} {op:Op}
theorem Zyc {t:Tape} (h1:Num t.at_) (h2:t.l.length<=4294967296):Num (Zez t).2.at_/\(Zez t).2.l.length<=4294967296:=by
 unfold Zez
 split
 . exact ⟨h1,h2⟩
 . rename_i h
   have h:¬(t.at_<0\/t.at_>=(t.l.length:Int)):=h
   refine ⟨?_,h2⟩
   show Num (Zac .i64 (t.at_+1))
   rw [Zas (by omega) (by omega)]
   exact ⟨by omega,by omega⟩
end
end Go.Proofs.Mill
namespace Go.Proofs.Mill
theorem ZlN {c:Config} {a:Nat}:∀ (k:Nat),(∀ j:Nat,j<k->a≠((j:Int)*Zaz c).toNat)->(ZeO c k).getD a 0=0
 | 0, _ => by
   unfold ZeO
   rw [List.getD_eq_getElem?_getD]
   by_cases h:a<(sizeOf c).toNat
   . rw [List.getElem?_replicate_of_lt h,Option.getD_some]
   . rw [List.getElem?_eq_none (by simp;omega)];rfl
 | k + 1, h => by
   unfold ZeO
   rw [ZcL (Ne.symm (h k (by omega)))]
   exact ZlN k fun j hj=>h j (by omega)
theorem ZzS:([1,2,3,4].all fun d=>(List.range 16).all fun (t:Nat)=>match Ze8 ((d:Nat):Int) (t:Int) with | some L=>decide (1<=L) && decide (L<2 ^ d) | none=>false)=true:=by kernel_rfl
theorem ZCC {c:Config} (h:CfgOK c) (hd:1<=c.depth) {t:Int} (ht:0<=t/\t<c.threads):1<=Zl0 c t/\Zl0 c t<=ZaI c:=by
 have htt:=h.threads
 have hdd:=h.depth
 have key:=ZzS
 rw [List.all_eq_true] at key
 have k1:=key c.depth.toNat (by
   have:c.depth.toNat=1\/c.depth.toNat=2\/c.depth.toNat=3\/c.depth.toNat=4:=by omega
   rcases this with e | e | e | e <;> rw [e] <;> simp)
 rw [List.all_eq_true] at k1
 have k2:=k1 t.toNat (by simp;omega)
 have e1:((c.depth.toNat:Nat):Int)=c.depth:=by omega
 have e2:((t.toNat:Nat):Int)=t:=by omega
 rw [e1,e2,Zv9 h t] at k2
 simp only [Bool.and_eq_true,decide_eq_true_eq] at k2
 refine ⟨k2.1,?_⟩
 have h3:=k2.2
 unfold ZaI
 have:c.depth=1\/c.depth=2\/c.depth=3\/c.depth=4:=by omega
 rcases this with e | e | e | e <;> rw [e] at h3 ⊢ <;> simp at h3 ⊢ <;> omega
section
variable {c:Config} {t i:Int} {op:Op} {now:Int}
theorem ZnR (h:CfgOK c) (hn:Num c.init) (ht:0<=t/\t<c.threads) (hi:0<=i/\i<c.items):Mem1 c t i [] 0 (Zc2 c).words:=by
 have hs:=ZlO h
 have hit:=h.items
 have hb:=ZlK h
 have hnb:=ZbT c
 have hl:=ZeG h ht.1 ht.2
 have zero:∀ {it r:Int},0<=it->it<c.items->1<=r->r<Zaz c->(ZeO c c.items.toNat).getD (pl c it r).toNat 0=0:=fun h0 h1 r0 r1 =>
   ZlN _ fun j hj=>by
     have:=ZBi h (a:=_) (b:=(j:Int)) (r:=_) (s:=0) ⟨h0,h1⟩ ⟨by omega,by omega⟩ ⟨by omega,r1⟩ ⟨Int.le_refl 0,by omega⟩ (by omega)
     simpa [pl] using this
 refine ⟨by show ((ZeO c _).length:Int)=_;rw [Zgg];omega,ZmX hn _,fun it h0 h1=>?_,fun it n h0 h1 n0 n1=>?_,fun it r h0 h1 r0 r1=>.inl (zero h0 h1 (by omega) r1),?_⟩
 . have:=Zp8 h c.items.toNat (by omega) it.toNat (by omega)
   rw [show ((it.toNat:Nat):Int)=it by omega] at this
   show (ZeO c c.items.toNat).getD (pl c it 0).toNat 0=c.init
   simpa [pl] using this
 . rw [show (Zc2 c).words=ZeO c c.items.toNat from rfl,zero h0 h1 n0 (by omega)]
   simp
 . refine ZlN _ fun j hj=>?_
   have:=Zmh h (i:=(j:Int)) (by omega) (by omega)
   omega
end
end Go.Proofs.Mill
namespace Go.Proofs.Mill
def Zfi (op:Op) (b:Bool):Bool:=bif b then (op.tag == 8 || (op.tag == 9 && decide (op.v>=0))) else (decide (1<=op.tag) && decide (op.tag<=7))
theorem ZAs (op:Op) (b:Bool):Zm6 op b=some (Zfi op b):=by
 unfold Zm6 Zfi
 cases b with
 | true =>
   simp only [Bool.not_true,cond_false,cond_true]
   by_cases h:op.tag=9
   . rw [Zbf h,cond_true,ZaS (show ¬op.tag=8 by omega)];rfl
   . rw [ZaS h,cond_false]
     cases op.tag == 8 <;> rfl
 | false =>
   simp only [Bool.not_false,cond_false,cond_true,Zlb,ZnE,Zat]
   by_cases h1:1<=op.tag
   . rw [if_pos h1,decide_eq_true h1]
     by_cases h2:op.tag<=9
     . rw [decide_eq_true h2]
       simp only [cond_true,Bool.true_and]
       congr 1
       by_cases h3:op.tag<=7
       . rw [decide_eq_true h3,decide_eq_true (by omega)]
       . rw [decide_eq_false h3,decide_eq_false (by omega)]
     . rw [decide_eq_false h2,decide_eq_false (show ¬op.tag<=7 by omega)];rfl
   . rw [if_neg h1,decide_eq_false h1];rfl
theorem ZtG (op:Op) (b:Bool):ZlE op b=some (Zfi op b):=by
 unfold ZlE Zfi
 cases b with
 | true =>
   simp only [cond_true]
   by_cases h:op.tag=8
   . rw [Zbf h];rfl
   . rw [ZaS h,cond_false]
     by_cases h9:op.tag=9
     . rw [Zbf h9];rfl
     . rw [ZaS h9];rfl
 | false =>
   simp only [cond_false,Zat]
   by_cases h1:op.tag>=1
   . rw [if_pos h1,decide_eq_true h1];rfl
   . rw [if_neg h1,decide_eq_false h1];rfl
def Zbu (c:Config) (e:SEntry):Int := if e.kind<1\/e.kind>3 then 90 else if e.kind=3 then 0 else if e.t<0\/e.t>=c.threads then 91 else if e.kind=2 then 0 else if e.item<0\/e.item>=c.items then 92 else if Zfi e.op c.bounded=true then 0 else 93
theorem Zx7 (x n:Int):ZdR (x,n)=some (decide (0<=x/\x<n)):=by
 show Zh7 x n=_
 unfold Zh7
 rw [Zat]
 by_cases h:0<=x
 . rw [if_pos h];simp [h]
 . rw [if_neg h];simp [h]
theorem Zt1 (c:Config) (e:SEntry):ZiL c e=some (Zbu c e):=by
 unfold ZiL Zbu
 simp only [Zx7,Zkf,ZAs]
 by_cases k1:e.kind=1
 . rw [Zbf k1,ZaS (show ¬e.kind=2 by omega),if_neg (show ¬(e.kind<1\/e.kind>3) by omega),if_neg (show ¬e.kind=3 by omega),if_neg (show ¬e.kind=2 by omega)]
   simp only [cond_true,cond_false]
   by_cases ht:0<=e.t/\e.t<c.threads
   . rw [decide_eq_true ht,if_neg (show ¬(e.t<0\/e.t>=c.threads) by omega)]
     simp only [Bool.not_true,cond_false]
     by_cases hi:0<=e.item/\e.item<c.items
     . rw [decide_eq_true hi,if_neg (show ¬(e.item<0\/e.item>=c.items) by omega)]
       simp only [Bool.not_true,cond_false]
       cases Zfi e.op c.bounded <;> rfl
     . rw [decide_eq_false hi,if_pos (show e.item<0\/e.item>=c.items by omega)];rfl
   . rw [decide_eq_false ht,if_pos (show e.t<0\/e.t>=c.threads by omega)];rfl
 . rw [ZaS k1]
   by_cases k2:e.kind=2
   . rw [Zbf k2,if_neg (show ¬(e.kind<1\/e.kind>3) by omega),if_neg (show ¬e.kind=3 by omega),if_pos k2]
     simp only [cond_true,cond_false]
     by_cases ht:0<=e.t/\e.t<c.threads
     . rw [decide_eq_true ht,if_neg (show ¬(e.t<0\/e.t>=c.threads) by omega)];rfl
     . rw [decide_eq_false ht,if_pos (show e.t<0\/e.t>=c.threads by omega)];rfl
   . rw [ZaS k2]
     by_cases k3:e.kind=3
     . rw [Zbf k3,if_neg (show ¬(e.kind<1\/e.kind>3) by omega),if_pos k3];rfl
     . rw [ZaS k3,if_pos (show e.kind<1\/e.kind>3 by omega)];rfl
def ZeT (c:Config):Nat->List SEntry->Option (Int×Int)
 | _,[]=>none
 | i,e::l=>if Zbu c e=0 then ZeT c (i+1) l else some ((i:Int),Zbu c e)
theorem Zq4 {c:Config}:∀ {l:List SEntry} {i:Nat},(∀ e∈l,Zbu c e=0)->ZeT c i l=none
 | [],_,_=>rfl
 | e :: l, i, h => by
   unfold ZeT
   rw [if_pos (h e (List.mem_cons_self ..))]
   exact Zq4 fun x hx=>h x (List.mem_cons_of_mem _ hx)
theorem ZsM {c:Config}:∀ {l:List SEntry} {i:Nat},ZeT c i l=none->∀ e∈l,Zbu c e=0
 | [],_,_=>fun _ h=>by cases h
 | e :: l, i, h => by
   unfold ZeT at h
   by_cases h0:Zbu c e=0
   . rw [if_pos h0] at h
     intro x hx
     rcases List.mem_cons.1 hx with rfl | hx
     . exact h0
     . exact ZsM h x hx
   . rw [if_neg h0] at h;cases h
theorem ZtT {c:Config} {l:List SEntry} (hl:l.length<=4294967296):∀ (k i:Nat),i+k=l.length->ZiU (c,l,(l.length:Int),(i:Int))=some (match ZeT c i (l.drop i) with | none=>.inl () | some y=>.inr y)
 | 0, i, hk => by
   rw [List.drop_of_length_le (by omega)]
   refine whileM_some.2 (.done _ _ ?_)
   show Ze7 _ _ _ _=_
   unfold Ze7
   simp only [Zat]
   rw [if_neg (by omega)]
   rfl
 | k + 1, i, hk => by
   have hi:i<l.length:=by omega
   rw [List.drop_eq_getElem_cons hi]
   have e:l.getD i ZaE=l[i]:=by rw [List.getD_eq_getElem?_getD,List.getElem?_eq_getElem hi];rfl
   unfold ZeT
   have hs:ZgQ (c,l,(l.length:Int),(i:Int))=if Zbu c l[i]=0 then some (.inl (c,l,(l.length:Int),((i+1:Nat):Int))) else some (.inr (.inr ((i:Int),Zbu c l[i]))):=by
     show Ze7 _ _ _ _=_
     unfold Ze7
     simp only [Zat,ZgS,Zt1,Int.toNat_natCast,e]
     rw [if_pos (show (i:Int)<(l.length:Int) by omega),if_pos (show (0:Int)<=(i:Int) by omega),if_pos (show (i:Int)<(l.length:Int) by omega)]
     by_cases h0:Zbu c l[i]=0
     . rw [if_pos h0,Zf7 h0,Zas (by omega) (by omega)];rfl
     . rw [if_neg h0,ZeV h0];rfl
   by_cases h0:Zbu c l[i]=0
   . rw [if_pos h0] at hs ⊢
     exact whileM_some.2 (.more _ _ _ hs (whileM_some.1 (ZtT hl k (i+1) (by omega))))
   . rw [if_neg h0] at hs ⊢
     exact whileM_some.2 (.done _ _ hs)
def allE (c:Config) (l:List SEntry):Int×Int :=
 if (ZdZ c).getD 0≠0 then (0,(ZdZ c).getD 0) else if l.length>65536 then (0,2) else (ZeT c 0 l).getD (0,0)
theorem ZmI (c:Config) (l:List SEntry):ZkL c l=some (allE c l):=by
 obtain ⟨e,he,hE⟩:=ZgU c
 unfold ZkL allE
 simp only [Zdo,Zk4,he,Option.getD_some,Zat]
 by_cases h0:e=0
 . rw [Zf7 h0,cond_false,if_neg (show ¬e≠0 from fun h=>h h0)]
   by_cases h1:l.length>65536
   . rw [if_pos h1,if_pos (show (l.length:Int)>65536 by omega)]
   . rw [if_neg h1,if_neg (show ¬(l.length:Int)>65536 by omega)]
     have:=ZtT (c:=c) (l:=l) (by omega) l.length 0 (by omega)
     rw [List.drop_zero] at this
     rw [show ZiU (c,l,(l.length:Int),0)=_ from this]
     cases ZeT c 0 l <;> rfl
 . rw [ZeV h0,cond_true,if_pos h0]
theorem ZrN {c:Config} (h:CfgOK c) {l:List SEntry} (hl:l.length<=65536) (ho:∀ e∈l,Zbu c e=0):allE c l=(0,0):=by
 obtain ⟨e,he,hE⟩:=ZgU c
 have he0:=hE.2 h
 subst he0
 unfold allE
 rw [he,Option.getD_some,if_neg (fun h=>h rfl),if_neg (by omega),Zq4 ho]
 rfl
theorem Zr4 {c:Config} (h:CfgOK c) {l:List SEntry} {d:List Int} {w:Wld} (hl:l.length<=65536) (ho:∀ e∈l,Zbu c e=0) (hd:d.length<=4294967296) (hw:Zgw (newW c d) l=some w):ZcO c l d=some (w,0,0):=by
 unfold ZcO
 have e1:Zgc (c,l)=some (0,0):=(ZmI c l).trans (by rw [ZrN h hl ho])
 have e2:Zi9 (c,d)=some (newW c d,0):=Zzl h hd
 rw [e1]
 simp only [bne_self_eq_false,cond_false,e2]
 have e3:=Ztx (l:=l) (by omega) l.length 0 (newW c d) w h (by omega) (by rw [List.drop_zero];exact hw)
   (w0:=Wld.mk (Config.mk (0:Int) (0:Int) (0:Int) (0:Int) (0:Int) (0:Int) (0:Int) (0:Int) false (0:Int) (0:Int) (0:Int)) (Memo.mk ([]:List Int) ([]:List (List Entry))) ([]:List Thread) (0:Int) (0:Int) (Tape.mk ([]:List Int) (0:Int)) ([]:List Mark) ([]:List Event)) (x:=0)
 rw [show ZjQ (_,newW c d,0,l,(l.length:Int),0)=_ from e3]
def ZmV (l:List Thread):Nat:=(l.filter fun t=>t.phase != 0).length
theorem Zsl {l:List Thread} (hl:l.length<=4294967296):∀ (k i:Nat) (n:Nat),i+k=l.length->n<=i->ZiZ ((n:Int),l,(l.length:Int),(i:Int))=some ((n+ZmV (l.drop i):Nat):Int)
 | 0, i, n, hk, hn => by
   rw [List.drop_of_length_le (by omega)]
   refine whileM_some.2 (.done _ _ ?_)
   show Zfa _ _ _ _=_
   unfold Zfa
   simp only [Zat]
   rw [if_neg (by omega)]
   rfl
 | k + 1, i, n, hk, hn => by
   have hi:i<l.length:=by omega
   rw [List.drop_eq_getElem_cons hi]
   have e:l.getD i Zaw=l[i]:=by rw [List.getD_eq_getElem?_getD,List.getElem?_eq_getElem hi];rfl
   unfold ZmV
   rw [List.filter_cons]
   have hs:ZgW ((n:Int),l,(l.length:Int),(i:Int))=some (.inl ((((if l[i].phase != 0 then n+1 else n):Nat):Int),l,(l.length:Int),((i+1:Nat):Int))):=by
     show Zfa _ _ _ _=_
     unfold Zfa
     simp only [Zat,ZbE,ZeD,Int.toNat_natCast,e]
     rw [if_pos (show (i:Int)<(l.length:Int) by omega),if_pos (show (0:Int)<=(i:Int) by omega),if_pos (show (i:Int)<(l.length:Int) by omega),Zas (n:=(i:Int)+1) (by omega) (by omega),Zas (n:=(n:Int)+1) (by omega) (by omega)]
     cases l[i].phase != 0 <;> rfl
   have:=Zsl hl k (i+1) (if l[i].phase != 0 then n+1 else n) (by omega) (by split <;> omega)
   refine whileM_some.2 (.more _ _ _ hs ?_)
   have h2:=whileM_some.1 this
   unfold ZmV at h2
   cases hb:(l[i].phase != 0) with
   | true =>
     rw [hb] at h2
     simp only [if_true] at h2 ⊢
     rw [List.length_cons,show n+((l.drop (i+1)).filter (fun t=>t.phase != 0)).length.succ=n+1+((l.drop (i+1)).filter (fun t=>t.phase != 0)).length by omega]
     exact h2
   | false =>
     rw [hb] at h2
     exact h2
theorem Zw3 {w:Wld} (hl:w.t.length<=4294967296):ZkO w=some (ZmV w.t:Int):=by
 unfold ZkO
 have:=Zsl hl w.t.length 0 0 (by omega) (Nat.le_refl _)
 rw [List.drop_zero,Nat.zero_add] at this
 rw [show ZiZ (0,w.t,(w.t.length:Int),0)=_ from this]
theorem ZyP {l:List Thread} (h:∀ t∈l,t.phase=0):ZmV l=0:=by
 unfold ZmV
 rw [List.length_eq_zero_iff,List.filter_eq_nil_iff]
 intro t ht
 rw [h t ht]
 decide
end Go.Proofs.Mill
namespace Go.Proofs.Mill
def Zbq (u:Turn):Tape:=u.tape
def Zt7 (u v:Turn):Prop:=Zbq v=Zbq u\/Zbq v=(ZfJ u.tape u.th.width).2
theorem Zh2 (u:Turn):Zbq (Zcj u)=Zbq u:=by unfold Zcj;split <;> rfl
theorem ZvB (u:Turn):Zbq (ZfN u)=Zbq u:=by
 unfold ZfN
 repeat' split
 all_goals rfl
theorem Zwq (u:Turn) (w:Int):Zbq (ZhJ u w)=Zbq u:=by
 unfold ZhJ
 repeat' split
 all_goals rfl
theorem Zvo (u:Turn):Zbq (Zen u)=Zbq u:=by unfold Zen;split <;> rfl
theorem Zob (u:Turn):Zbq (Zdy u)=Zbq u:=by unfold Zdy;split <;> rfl
theorem ZvG (u:Turn):Zbq (Zca u).1=Zbq u:=by
 unfold Zca
 split
 . exact ZvB _
 . rfl
theorem Zvc (u:Turn):Zbq (Zb4 u).1=Zbq u:=by
 unfold Zb4
 split
 . show Zbq (if _ then _ else _:Turn)=_
   split <;> rfl
 split
 . exact Zh2 _
 split
 . show Zbq (if _ then _ else _:Turn)=_
   split
   . rfl
   . split <;> rfl
 split
 . show Zbq (if _ then _ else _:Turn)=_
   split
   . rfl
   . split
     . rfl
     . exact Zh2 _
 rfl
theorem Zuv (u:Turn):Zbq (ZbV u).1=Zbq u:=by
 unfold ZbV
 split
 . show Zbq (Zef u)=_
   unfold Zef
   split
   . exact Zh2 _
   . rfl
 split
 . show Zbq (if _ then _ else _:Turn)=_
   split
   . exact Zh2 _
   . split
     . exact Zob _
     . rfl
 rfl
theorem Zvz (u:Turn):Zbq (Zcs u).1=Zbq u:=by
 unfold Zcs
 split
 . show Zbq (if _ then _ else _:Turn)=_
   split
   . rfl
   . exact Zwq _ _
 split
 . show Zbq (if _ then _ else _:Turn)=_
   split
   . rfl
   . split
     . exact Zvo _
     . rfl
 split
 . show Zbq (if _ then _ else _:Turn)=_
   split
   . rfl
   . split <;> rfl
 rfl
theorem ZtU (u:Turn):Zbq (Zci u).1=Zbq u:=by
 unfold Zci
 repeat' split
 all_goals rfl
theorem ZsU (u:Turn):Zt7 u (ZbY u).1:=by
 unfold ZbY
 split
 . exact .inl rfl
 split
 . exact .inl rfl
 split
 . show Zt7 u (swapT u)
   unfold swapT
   repeat' split
   all_goals first | exact .inl rfl | exact .inr rfl
 split
 . refine .inl ?_
   show Zbq (ZbW u u.t 21 13)=_
   unfold ZbW
   repeat' split
   all_goals rfl
 split
 . refine .inl ?_
   show Zbq (ZbW u u.th.who 22 24)=_
   unfold ZbW
   repeat' split
   all_goals rfl
 split
 . refine .inl ?_
   show Zbq (ZfS u)=_
   unfold ZfS
   split <;> rfl
 split
 . refine .inl ?_
   show Zbq (Zja u)=_
   unfold Zja
   repeat' split
   all_goals rfl
 split
 . exact .inl rfl
 split
 . refine .inl ?_
   show Zbq (Zhd u)=_
   unfold Zhd
   split
   . exact Zob _
   . rfl
 exact .inl rfl
theorem Zs5 (u:Turn):Zt7 u (ZaR u):=by
 unfold ZaR
 split
 . exact .inl rfl
 split
 . exact .inl (ZvG (begT u))
 split
 . exact .inl (Zvc (begT u))
 split
 . exact .inl (Zuv (begT u))
 split
 . exact .inl (Zvz (begT u))
 split
 . exact .inl (ZtU (begT u))
 split
 . exact ZsU (begT u)
 exact .inl rfl
theorem ZyY {t:Tape} (n:Int) (h1:Num t.at_) (h2:t.l.length<=4294967296):Num (ZfJ t n).2.at_/\(ZfJ t n).2.l.length<=4294967296:=by
 unfold ZfJ
 split
 . exact ⟨h1,h2⟩
 . exact Zyc h1 h2
structure WInv (c:Config) (w:Wld) (n:Nat) (ro pa rt:Int->Int) (co:Int->Option Int):Prop where
  cE:w.c=c
  lenT:(w.t.length:Int)=c.threads
  lenW:(w.m.words.length:Int)=sizeOf c
  lenB:(w.m.boxes.length:Int)=c.threads
  tape:Num w.tape.at_/\w.tape.l.length<=4294967296
  log:w.log.length<=16*n
  hist:w.hist.length<=n
  steps:0<=w.steps/\w.steps<=n
  now:0<=w.now/\w.now<=n
  inv:Inv c (vw c w.m w.t) ro pa rt co
section
variable {c:Config} {w:Wld} {n:Nat} {ro pa rt:Int->Int} {co:Int->Option Int} {t:Int}
theorem ZyG (hC:CfgOK c) {m:Memo} {ts:List Thread} (hl:(m.words.length:Int)=sizeOf c) (h:VN (vw c m ts)):∀ x∈m.words,Num x:=by
 intro x hx
 obtain ⟨i,hi,rfl⟩:=List.mem_iff_getElem.1 hx
 have hg:m.words.getD i 0=m.words[i]:=by rw [List.getD_eq_getElem?_getD,List.getElem?_eq_getElem hi];rfl
 rw [<- hg]
 have hb:=ZcJ hC
 have hlb:=Za8 hC
 have hth:=hC.threads
 unfold sizeOf at hl
 by_cases hk:(i:Int)<Za0 c
 . have h1:(i:Int) / Zaz c*Zaz c+(i:Int) % Zaz c=i:=by rw [Int.mul_comm];exact Int.mul_ediv_add_emod ..
   have h2:=Int.emod_nonneg (i:Int) (show Zaz c≠0 by omega)
   have h3:=Int.emod_lt_of_pos (i:Int) (show 0<Zaz c by omega)
   have h4:0<=(i:Int) / Zaz c:=Int.ediv_nonneg (by omega) (by omega)
   have h5:(i:Int) / Zaz c<c.items:=by
     apply Int.ediv_lt_of_lt_mul (by omega)
     exact hk
   have hin:ZgH c ((i:Int) / Zaz c) ((i:Int) % Zaz c):=⟨⟨h4,h5⟩,h2,h3⟩
   have:=h.1 ((i:Int) / Zaz c) ((i:Int) % Zaz c)
   rw [rd_B hin] at this
   have e:(pl c ((i:Int) / Zaz c) ((i:Int) % Zaz c)).toNat=i:=by
     show ((i:Int) / Zaz c*Zaz c+(i:Int) % Zaz c).toNat=i
     rw [h1];rfl
   rwa [e] at this
 . have hj:InT c (((i:Int)-Za0 c) / 2):=⟨by omega,by omega⟩
   by_cases he:((i:Int)-Za0 c) % 2=0
   . have:=h.2.1 (((i:Int)-Za0 c) / 2)
     rw [rd_L hC hj,(ZeG hC hj.1 hj.2).1] at this
     have e:(Za0 c+2*(((i:Int)-Za0 c) / 2)).toNat=i:=by omega
     rwa [e] at this
   . have:=h.2.2 (((i:Int)-Za0 c) / 2)
     rw [show (vw c m ts).r (((i:Int)-Za0 c) / 2)=m.words.getD (Za0 c+2*(((i:Int)-Za0 c) / 2)+1).toNat 0 from if_pos hj] at this
     have e:(Za0 c+2*(((i:Int)-Za0 c) / 2)+1).toNat=i:=by omega
     rwa [e] at this
theorem Zi3 {m:Memo} {ts:List Thread} (ht:InT c t):(vw c m ts).th t=ts.getD t.toNat Zaw:=if_pos ht
theorem WInv.fit (W:WInv c w n ro pa rt co) (hC:CfgOK c) (hlo:Num c.lo) (hhi:Num c.hi) (ht:InT c t) (hp:(w.t.getD t.toNat Zaw).phase≠0):FitM (ZbK w t):=by
 have hth:(vw c w.m w.t).th t=w.t.getD t.toNat Zaw:=Zi3 ht
 have L:=W.inv.loc t ht
 rw [hth] at L
 have hr:ro t≠0:=by
   intro h0
   have:=(W.inv.busy ht).1 h0
   rw [hth] at this
   exact hp this
 have hsh:=W.inv.short hC hr
 rw [hth] at hsh
 have hk:=L.kidsN hp
 have hi:=L.item hp
 have hh:=L.held hp
 have cE:=W.cE
 have hlen:=Zxg hh.1 hh.2
 have hly:=L.ari.2.2.1
 have hcl:=hC.layers
 refine ⟨⟨by show CfgOK w.c;rw [cE];exact hC,by show 0<=t/\t<w.c.threads;rw [cE];exact ht,by show (w.m.words.length:Int)=sizeOf w.c;rw [cE];exact W.lenW,by show (w.m.boxes.length:Int)=w.c.threads;rw [cE];exact W.lenB,ZyG hC W.lenW W.inv.num,?_,?_,fun b hb=>?_⟩,?_,?_,fun h17=>?_,W.tape.1,W.tape.2,L.nw,by show Num w.c.lo;rw [cE];exact hlo,by show Num w.c.hi;rw [cE];exact hhi,L.nx,L.ops hp⟩
 . show (w.t.getD t.toNat Zaw).batch.length<=1000000;omega
 . show (w.t.getD t.toNat Zaw).kids.length<=1000000;omega
 . obtain ⟨i,hi',rfl⟩:=List.mem_iff_getElem.1 hb
   have hin:InT c (i:Int):=⟨by omega,by have:=W.lenB;have hi':i<w.m.boxes.length:=hi';omega⟩
   have:=(W.inv.loc i hin).boxl
   have hi2:i<w.m.boxes.length:=hi'
   rw [rd_X hin,Int.toNat_natCast,List.getD_eq_getElem?_getD,List.getElem?_eq_getElem hi2] at this
   have this:(w.m.boxes[i]).length<=16:=this
   show (w.m.boxes[i]).length<=_
   omega
 . show (w.t.getD t.toNat Zaw).held.length<=4294967295;omega
 . show 0<=(w.t.getD t.toNat Zaw).item/\(w.t.getD t.toNat Zaw).item<w.c.items;rw [cE];exact hi
 . have:=hly h17
   show 1<=(w.t.getD t.toNat Zaw).layer/\(w.t.getD t.toNat Zaw).layer<=3;omega
theorem WInv.pick (W:WInv c w n ro pa rt co) (hC:CfgOK c) (hlo:Num c.lo) (hhi:Num c.hi) (hn:n<=200000) (ht:InT c t) (hp:(w.t.getD t.toNat Zaw).phase≠0) :
   Zb6 w t=some (ZdQ w t (ZaR (ZbK w t)))/\∃ ro' pa' rt' co1,WInv c (ZdQ w t (ZaR (ZbK w t))) (n+1) ro' pa' rt' (if (ZaR (ZbK w t)).done=true then seta co1 t none else co1) /\
     Info c (vw c w.m w.t) (vw c (ZdQ w t (ZaR (ZbK w t))).m (ZdQ w t (ZaR (ZbK w t))).t) ro rt co co1 t (ZaR (ZbK w t)).log (ZaR (ZbK w t)).done /\
     Tr c t (vw c w.m w.t) (w.t.getD t.toNat Zaw) (vw c (ZdQ w t (ZaR (ZbK w t))).m (ZdQ w t (ZaR (ZbK w t))).t) (ZaR (ZbK w t)).log (ZaR (ZbK w t)).done:=by
 have hf:=W.fit hC hlo hhi ht hp
 have hth:(vw c w.m w.t).th t=w.t.getD t.toNat Zaw:=Zi3 ht
 have cE:=W.cE
 have hu0:ZbK w t=trn c t w.now w.m (w.t.getD t.toNat Zaw) w.tape:=by unfold ZbK;rw [cE]
 have hT:Steps c t w.m w.t (w.t.getD t.toNat Zaw) (ZaR (ZbK w t)):=by
   rw [hu0]
   have hi:=hf.item
   have hi:0<=(w.t.getD t.toNat Zaw).item/\(w.t.getD t.toNat Zaw).item<w.c.items:=hi
   rw [cE] at hi
   exact Zwx hC W.lenW W.lenB W.lenT ht rfl hi hf.width
 have hone:=ZtE (ZbK w t)
 have hkp:=Znl (ZbK w t)
 have htp:=Zs5 (ZbK w t)
 obtain ⟨u,hu⟩:∃ u,u=ZaR (ZbK w t):=⟨_,rfl⟩
 rw [<- hu] at hT hone hkp htp ⊢
 unfold Steps at hT
 have hT':=hT
 rw [<- hth] at hT'
 obtain ⟨ro',pa',rt',co1,hinv,hinfo⟩:=W.inv.step hC hlo hhi ht hT'
 have hth':(vw c u.m (w.t.set t.toNat u.th)).th t=u.th:=by
   have h0:=ht.1
   have h1:=ht.2
   have:=W.lenT
   rw [Zi3 ht,List.getD_eq_getElem?_getD,List.getElem?_set_self (by omega)]
   rfl
 have hr:ro t≠0:=by
   intro h0
   have:=(W.inv.busy ht).1 h0
   rw [hth] at this
   exact hp this
 have hsh:=W.inv.short hC hr
 have hlog:u.log.length<=16:=by
   rcases hinfo.1 with ⟨e,_⟩ | ⟨_,e,_⟩
   . rw [e];simp
   . rw [e]
     unfold Zgs
     rw [List.length_zipWith]
     omega
 have hop:u.th.op=(w.t.getD t.toNat Zaw).op:=Zwl hkp
 have hnx:u.done=true->Num u.th.x/\Num u.th.op.v:=by
   intro hd
   have L:=hinv.loc t ht
   rw [hth'] at L
   refine ⟨L.nx,?_⟩
   rw [hop]
   obtain ⟨r,hb⟩:=W.inv.core.k3 t hr
   have hb:((vw c w.m w.t).th t).batch=⟨t,((vw c w.m w.t).th t).op⟩::r:=hb
   rw [hth] at hb
   have:=hf.ops ⟨t,(w.t.getD t.toNat Zaw).op⟩ (by show _∈(w.t.getD t.toNat Zaw).batch;rw [hb];exact List.mem_cons_self ..)
   exact this
 have hl:=W.log
 have hh:=W.hist
 have hpk:=Zx9 (w:=w) (t:=t) (u:=u) ht.1 (by rw [W.lenT];exact ht.2) hp hf hu.symm hnx (by omega) (by omega)
 refine ⟨hpk,ro',pa',rt',co1,⟨cE,?_,?_,?_,?_,?_,?_,?_,?_,hinv⟩,hinfo,hT⟩
 . show ((w.t.set _ _).length:Int)=_
   rw [List.length_set];exact W.lenT
 . show (u.m.words.length:Int)=_
   have hw:(ZbK w t).m=w.m:=rfl
   rcases hone with ⟨a,x,e⟩ | ⟨i,b,e⟩ | e
   . rw [e];show ((w.m.words.set a x).length:Int)=_;rw [List.length_set];exact W.lenW
   . rw [e];exact W.lenW
   . rw [e];exact W.lenW
 . show (u.m.boxes.length:Int)=_
   rcases hone with ⟨a,x,e⟩ | ⟨i,b,e⟩ | e
   . rw [e];exact W.lenB
   . rw [e];show ((w.m.boxes.set i b).length:Int)=_;rw [List.length_set];exact W.lenB
   . rw [e];exact W.lenB
 . show Num u.tape.at_/\u.tape.l.length<=4294967296
   rcases htp with e | e
   . rw [show u.tape=w.tape from e];exact W.tape
   . rw [show u.tape=_ from e];exact ZyY _ W.tape.1 W.tape.2
 . show (w.log++u.log.map _).length<=_
   rw [List.length_append,List.length_map];omega
 . show (if u.done=true then w.hist++[Zkm w t u] else w.hist).length<=_
   split
   . rw [List.length_append,List.length_singleton];omega
   . omega
 . show 0<=Zac IntKind.i64 (w.steps+1)/\Zac IntKind.i64 (w.steps+1)<=((n+1:Nat):Int)
   have:=W.steps
   rw [Zas (by omega) (by omega)]
   omega
 . have:=W.now
   show 0<=w.now/\w.now<=((n+1:Nat):Int)
   omega
theorem Tree.idle {b:Int->Int->Int} {th:Int->Thread} {h':Thread} (T:Tree c b th ro pa) (u0:Za7 (th t)=[]) (u1:Za7 h'=[]) (p0:¬(7<=(th t).phase/\(th t).phase<=12)) (p1:¬(7<=h'.phase/\h'.phase<=12)) (r0:ro t≠2/\ro t≠5) {q:Int} (r1:q≠2):Tree c b (seta th t h') (seta ro t q) pa:=by
 refine ⟨T.t1,fun j hj m hm=>?_,fun j k m hj hk hi h1 h2=>?_,fun j hj hp=>?_,fun j hj hr2=>?_,fun i m j a1 a2 a3 a4 hj hD=>?_,fun j hj hpj=>?_⟩
 . by_cases e:j=t
   . rw [e,Zag,u1] at hm;cases hm
   . rw [Zaf e] at hm ⊢;exact T.t2 j hj m hm
 . by_cases e:j=t
   . rw [e,Zag,u1] at h1;cases h1
   . by_cases e2:k=t
     . rw [e2,Zag,u1] at h2;cases h2
     . rw [Zaf e] at hi h1;rw [Zaf e2] at hi h2
       exact T.t3 j k m hj hk hi h1 h2
 . by_cases e:j=t
   . rw [e,Zag] at hp;exact (p1 ⟨hp.1,hp.2.1⟩).elim
   . rw [Zaf e] at hp ⊢;exact T.t4 j hj hp
 . by_cases e:j=t
   . rw [e,Zag] at hr2;exact (r1 hr2).elim
   . rw [Zaf e] at hr2 ⊢;exact T.t5 j hj hr2
 . rcases T.t6 i m j a1 a2 a3 a4 hj hD with ⟨x,y,z⟩ | ⟨h,hh,x,y,z⟩
   . have e:j≠t:=by intro e;rw [e] at x;exact r0.1 x
     exact .inl ⟨by rw [Zaf e];exact x,by rw [Zaf e];exact y,by rw [Zaf e];exact z⟩
   . have e:h≠t:=by intro e;rw [e] at y;omega
     exact .inr ⟨h,hh,by rw [Zaf e];exact ⟨x,y,z⟩⟩
 . by_cases e:j=t
   . rw [e,Zag] at hpj;omega
   . rw [Zaf e] at hpj ⊢
     obtain ⟨x,y,z⟩:=T.t7 j hj hpj
     refine ⟨x,y,fun p10=>?_⟩
     obtain ⟨z1,z2⟩:=z p10
     exact ⟨by rw [Zaf (fun e=>by rw [e] at z1;exact r0.2 z1)];exact z1,z2⟩
theorem Inv.invoke {v:Vw} (I:Inv c v ro pa rt co) (hC:CfgOK c) (ht:InT c t) (hp:(v.th t).phase=0) {i now wd:Int} {op:Op} (hi:0<=i/\i<c.items) (hop:Num op.v) (hw:wd=(v.th t).width) :
   Inv c { v with th:=seta v.th t (Zji c t i op now wd) } (seta ro t 1) pa (seta rt t t) co:=by
 have h0:ro t=0:=(I.busy ht).2 hp
 have L:=I.loc t ht
 have hl:v.l t=0\/v.l t=5:=by have:=L.tab;unfold Tab at this;omega
 have hC1:=I.core.invoke (i:=i) (o:=op) h0 ht
 obtain ⟨h',hh'⟩:∃ h',h'=Zji c t i op now wd:=⟨_,rfl⟩
 have f:h'.phase=1/\h'.item=i/\h'.op=op/\h'.batch=[⟨t,op⟩]/\h'.kids=[]/\h'.held=[]/\h'.stop=0/\h'.node=Zl0 c t/\h'.x=0/\h'.width=wd:=by rw [hh'];exact ⟨rfl,rfl,rfl,rfl,rfl,rfl,rfl,rfl,rfl,rfl⟩
 rw [<- hh']
 obtain ⟨f1,f2,f3,f4,f5,f6,f7,f8,f9,f10⟩:=f
 have hk0:ZaV (v.th t)=[]:=by unfold ZaV;rw [if_pos hp]
 have hk1:ZaV h'=[]:=by unfold ZaV;rw [if_neg (by omega),if_neg (by omega),f5]
 have c1:(fun j=>(seta v.th t h' j).batch)=seta (fun j=>(v.th j).batch) t [⟨t,op⟩]:=by
   funext j;unfold seta;split
   . exact f4
   . rfl
 have c2:(fun j=>ZaV (seta v.th t h' j))=fun j=>ZaV (v.th j):=by
   funext j;unfold seta;split
   . rename_i e;rw [e,hk0,hk1]
   . rfl
 have c3:(fun j=>(seta v.th t h' j).op)=seta (fun j=>(v.th j).op) t op:=by
   funext j;unfold seta;split
   . exact f3
   . rfl
 have c4:(fun j=>(seta v.th t h' j).item)=seta (fun j=>(v.th j).item) t i:=by
   funext j;unfold seta;split
   . exact f2
   . rfl
 refine ⟨?_,fun j hj=>?_,fun j hj=>?_,fun s hs1 hs2=>?_,fun s hs1 hs2=>?_,?_,I.num⟩
 . show Core c (fun j=>(seta v.th t h' j).batch) (fun j=>ZaV (seta v.th t h' j)) (fun j=>(seta v.th t h' j).op) (fun j=>(seta v.th t h' j).item) _ _ _ _
   rw [c1,c2,c3,c4]
   exact hC1
 . show LocT c (seta v.th t h' j) (v.l j) (v.r j) (v.bx j) (seta ro t 1 j) (co j)
   by_cases e:j=t
   . rw [e,Zag,Zag]
     have hnb:=ZbT c
     refine ⟨⟨.inr (.inl ⟨rfl,.inl (by omega),hl.imp id (fun x=>⟨f1,x⟩)⟩),fun _=>by rw [f2];exact hi,fun k=>by omega,fun _=>by rw [f7];omega,fun _=>f7,fun k=>by omega,fun k=>by omega,fun k=>by omega⟩,fun k=>by omega,L.boxl,fun k=>by omega,by rw [f9];exact Zbg (by decide),by rw [f10,hw];exact L.nw,fun _=>by rw [f6];exact ⟨List.Pairwise.nil,fun m hm=>by cases hm⟩,fun k=>by omega,fun k=>by omega,fun _=>⟨f6,f5,fun hd=>by rw [f8];exact ZCC hC (by omega) ht⟩,fun k=>absurd k (by decide),fun k=>absurd k (by decide),fun _=>by rw [f4,f5];simp,fun _=>by
       rw [f4];intro e he;rw [List.mem_singleton] at he;subst he;exact hop⟩
   . rw [Zaf e,Zaf e];exact I.loc j hj
 . have e:j≠t:=by intro e;rw [e,Zag] at hj;exact absurd hj (by decide)
   rw [Zaf e] at hj
   obtain ⟨a,b,d,f⟩:=I.pnd1 j hj
   have e2:pa j≠t:=by intro e2;rw [e2] at b;omega
   show InT c (pa j)/\(seta v.th t h' (pa j)).phase=22/\(seta v.th t h' (pa j)).who=j/\(seta v.th t h' (pa j)).item=(seta v.th t h' j).item
   rw [Zaf e2,Zaf e]
   exact ⟨a,b,d,f⟩
 . have hs2:(seta v.th t h' s).phase=22:=hs2
   have e:s≠t:=by intro e;rw [e,Zag] at hs2;omega
   rw [Zaf e] at hs2
   show seta ro t 1 (seta v.th t h' s).who=4/\pa (seta v.th t h' s).who=s
   rw [Zaf e]
   obtain ⟨a,b⟩:=I.pnd2 s hs1 hs2
   rw [Zaf (fun x=>by rw [x] at a;omega)]
   exact ⟨a,b⟩
 . have hs2:(seta v.th t h' s).phase=16:=hs2
   have e:s≠t:=by intro e;rw [e,Zag] at hs2;omega
   rw [Zaf e] at hs2
   show co (kidH (seta v.th t h' s)).t=some (v.r (kidH (seta v.th t h' s)).t)
   rw [Zaf e]
   exact I.r16 s hs1 hs2
 . exact I.tree.idle (by rw [ZaK (by omega)]) (by rw [ZaK (by omega)]) (by omega) (by omega) (by omega) (by decide)
def ZcE (w:Wld) (e:SEntry):Wld := if e.kind=1 then invT w e else if e.kind=2 then (if (w.t.getD e.t.toNat Zaw).phase=0 then w else ZdQ w e.t (ZaR (ZbK w e.t))) else if e.kind=3 then { w with now:=Zac .i64 (w.now+1) } else w
theorem ZuD {e:SEntry} (h:Zbu c e=0):(e.kind=1/\InT c e.t/\(0<=e.item/\e.item<c.items)/\Zfi e.op c.bounded=true)\/(e.kind=2/\InT c e.t)\/e.kind=3:=by
 unfold Zbu at h
 unfold InT
 split at h
 . omega
 split at h
 . rename_i k;exact .inr (.inr k)
 split at h
 . omega
 split at h
 . rename_i k;exact .inr (.inl ⟨k,by omega⟩)
 split at h
 . omega
 split at h
 . rename_i k;exact .inl ⟨by omega,by omega,by omega,k⟩
 . omega
theorem WInv.entry (W:WInv c w n ro pa rt co) (hC:CfgOK c) (hlo:Num c.lo) (hhi:Num c.hi) (hn:n<=200000) {e:SEntry} (he:Zbu c e=0) (hop:Num e.op.v) :
   Zfz w e=some (ZcE w e)/\∃ ro' pa' rt' co',WInv c (ZcE w e) (n+1) ro' pa' rt' co':=by
 have hl:=W.log
 have hh:=W.hist
 have hst:=W.steps
 have hnw:=W.now
 rcases ZuD he with ⟨k,ht,hi,ho⟩ | ⟨k,ht⟩ | k
 . unfold Zfz ZcE
   rw [if_pos k,if_pos k,if_pos ⟨ht.1,by rw [W.lenT];exact ht.2,by omega⟩]
   refine ⟨rfl,?_⟩
   unfold invT
   by_cases hp:(w.t.getD e.t.toNat Zaw).phase=0
   . rw [if_neg (fun x=>x hp)]
     have hth:(vw c w.m w.t).th e.t=w.t.getD e.t.toNat Zaw:=Zi3 ht
     have:=W.inv.invoke hC ht (by rw [hth];exact hp) (i:=e.item) (op:=e.op) (now:=w.now) (wd:=(w.t.getD e.t.toNat Zaw).width) hi hop (by rw [hth])
     refine ⟨seta ro e.t 1,pa,seta rt e.t e.t,co,W.cE,?_,W.lenW,W.lenB,W.tape,?_,?_,?_,?_,?_⟩
     . show ((w.t.set _ _).length:Int)=_
       rw [List.length_set];exact W.lenT
     . show w.log.length<=_;omega
     . show (w.hist++[_]).length<=_
       rw [List.length_append,List.length_singleton];omega
     . show 0<=w.steps/\w.steps<=((n+1:Nat):Int);omega
     . show 0<=w.now/\w.now<=((n+1:Nat):Int);omega
     . show Inv c (vw c w.m (w.t.set _ _)) _ _ _ _
       rw [ZqP W.lenT ht,W.cE]
       exact this
   . rw [if_pos hp]
     refine ⟨ro,pa,rt,co,W.cE,W.lenT,W.lenW,W.lenB,W.tape,?_,?_,?_,?_,W.inv⟩
     . show w.log.length<=_;omega
     . show (w.hist++[_]).length<=_
       rw [List.length_append,List.length_singleton];omega
     . show 0<=w.steps/\w.steps<=((n+1:Nat):Int);omega
     . show 0<=w.now/\w.now<=((n+1:Nat):Int);omega
 . unfold Zfz ZcE
   rw [if_neg (show ¬e.kind=1 by omega),if_neg (show ¬e.kind=1 by omega),if_pos k,if_pos k]
   by_cases hp:(w.t.getD e.t.toNat Zaw).phase=0
   . rw [if_pos hp]
     refine ⟨Zyi ht.1 (by rw [W.lenT];exact ht.2) hp,ro,pa,rt,co,W.cE,W.lenT,W.lenW,W.lenB,W.tape,by omega,by omega,by omega,by omega,W.inv⟩
   . rw [if_neg hp]
     obtain ⟨a,ro',pa',rt',co1,b,_⟩:=W.pick hC hlo hhi hn ht hp
     exact ⟨a,_,_,_,_,b⟩
 . unfold Zfz ZcE
   rw [if_neg (show ¬e.kind=1 by omega),if_neg (show ¬e.kind=1 by omega),if_neg (show ¬e.kind=2 by omega),if_neg (show ¬e.kind=2 by omega),if_pos k,if_pos k]
   refine ⟨rfl,ro,pa,rt,co,W.cE,W.lenT,W.lenW,W.lenB,W.tape,?_,?_,?_,?_,W.inv⟩
   . show w.log.length<=_;omega
   . show w.hist.length<=_;omega
   . show 0<=w.steps/\w.steps<=((n+1:Nat):Int);omega
   . show 0<=Zac .i64 (w.now+1)/\Zac .i64 (w.now+1)<=((n+1:Nat):Int)
     rw [Zas (by omega) (by omega)];omega
theorem WInv.entries (hC:CfgOK c) (hlo:Num c.lo) (hhi:Num c.hi):∀ {l:List SEntry} {w:Wld} {n:Nat} {ro pa rt:Int->Int} {co:Int->Option Int},WInv c w n ro pa rt co->n+l.length<=200000->(∀ e∈l,Zbu c e=0/\Num e.op.v) ->
   Zgw w l=some (l.foldl ZcE w)/\∃ ro' pa' rt' co',WInv c (l.foldl ZcE w) (n+l.length) ro' pa' rt' co'
 | [],w,n,ro,pa,rt,co,W,_,_=>⟨rfl,ro,pa,rt,co,W⟩
 | e :: l, w, n, ro, pa, rt, co, W, hn, he => by
   rw [List.length_cons] at hn
   obtain ⟨a,ro',pa',rt',co',b⟩:=W.entry hC hlo hhi (by omega) (he e (List.mem_cons_self ..)).1 (he e (List.mem_cons_self ..)).2
   obtain ⟨d,f⟩:=WInv.entries hC hlo hhi b (by omega) (fun x hx=>he x (List.mem_cons_of_mem _ hx))
   refine ⟨by rw [Ztd a];exact d,?_⟩
   rw [List.length_cons,show n+(l.length+1)=n+1+l.length by omega]
   exact f
theorem Zp0 (hC:CfgOK c) (hci:Num c.init) {d:List Int} (hd:d.length<=4294967296):WInv c (newW c d) 0 (fun _=>0) (fun _=>0) (fun _=>0) (fun _=>none):=by
 have hs:=ZlO hC
 have hth:=hC.threads
 have hit:=hC.items
 have hthr:∀ j,InT c j->(vw c (Zc2 c) (List.replicate c.threads.toNat newT)).th j=newT:=by
   intro j hj
   have h0:=hj.1
   have h1:=hj.2
   rw [Zi3 hj,List.getD_eq_getElem?_getD,List.getElem?_replicate_of_lt (by omega)];rfl
 have hthp:∀ j,((vw c (Zc2 c) (List.replicate c.threads.toNat newT)).th j).phase=0:=by
   intro j
   by_cases hj:InT c j
   . rw [hthr j hj];rfl
   . rw [show (vw c (Zc2 c) (List.replicate c.threads.toNat newT)).th j=Zaw from if_neg hj];rfl
 have hline:∀ j,InT c j->(vw c (Zc2 c) (List.replicate c.threads.toNat newT)).l j=0:=by
   intro j hj
   rw [rd_L hC hj]
   exact (ZnR (i:=0) hC hci hj ⟨by omega,by omega⟩).line
 have hnode:∀ i m,0<=i->i<c.items->1<=m->m<=ZaI c->(vw c (Zc2 c) (List.replicate c.threads.toNat newT)).b i m=0:=by
   intro i m a1 a2 a3 a4
   have hb:=ZlK hC
   rw [rd_B ⟨⟨a1,a2⟩,by omega,by omega⟩]
   have:=(ZnR (t:=0) (i:=0) hC hci ⟨by omega,by omega⟩ ⟨by omega,by omega⟩).nodes i m a1 a2 a3 a4
   simpa using this
 have hun:∀ j,Za7 ((vw c (Zc2 c) (List.replicate c.threads.toNat newT)).th j)=[]:=fun j=>ZaK (by rw [hthp j];decide)
 have hwn:∀ (k:Nat),Num ((Zc2 c).words.getD k 0):=by
   intro k
   rw [List.getD_eq_getElem?_getD]
   by_cases hk:k<(Zc2 c).words.length
   . rw [List.getElem?_eq_getElem hk]
     exact ZmX hci _ _ (List.getElem_mem hk)
   . rw [List.getElem?_eq_none (by omega)]
     exact Zbg (by decide)
 refine ⟨rfl,by show ((List.replicate c.threads.toNat newT).length:Int)=_;rw [List.length_replicate];omega,by show ((ZeO c _).length:Int)=_;rw [Zgg];omega,by show ((List.replicate c.threads.toNat ([]:List Entry)).length:Int)=_;rw [List.length_replicate];omega,⟨Zbg (show (-1000000:Int)<=0/\(0:Int)<=1000000 by decide),hd⟩,Nat.le_refl _,Nat.le_refl _,⟨Int.le_refl 0,Int.le_refl 0⟩,⟨Int.le_refl 0,Int.le_refl 0⟩,?_⟩
 show Inv c (vw c (Zc2 c) (List.replicate c.threads.toNat newT)) _ _ _ _
 refine ⟨⟨fun j h=>(h rfl).elim,fun j _=>⟨rfl,by show ZaV _=[];unfold ZaV;rw [if_pos (hthp j)]⟩,fun j h=>absurd h.1 (by decide),fun j h=>absurd h (by decide),fun j=>⟨Int.le_refl 0,by decide⟩,fun j h=>(h rfl).elim,fun j h=>(h rfl).elim,fun j h=>(h rfl).elim,fun j h=>(h rfl).elim,fun j h=>(h rfl).elim,fun j h=>absurd h (by decide),fun p k hk=>?_,fun p=>?_⟩,fun j hj=>?_,fun j h=>absurd h (by decide),fun p _ h=>?_,fun p _ h=>?_,?_,?_⟩
 . have hk:k∈ZaV ((vw c (Zc2 c) (List.replicate c.threads.toNat newT)).th p):=hk
   unfold ZaV at hk
   rw [if_pos (hthp p)] at hk
   cases hk
 . show ((ZaV ((vw c (Zc2 c) (List.replicate c.threads.toNat newT)).th p)).map (·.t)).Nodup
   unfold ZaV
   rw [if_pos (hthp p)]
   exact List.nodup_nil
 . rw [hthr j hj,hline j hj]
   have hbx:(vw c (Zc2 c) (List.replicate c.threads.toNat newT)).bx j=[]:=by
     have h0:=hj.1
     have h1:=hj.2
     rw [rd_X hj]
     show (List.replicate c.threads.toNat ([]:List Entry)).getD j.toNat []=[]
     rw [List.getD_eq_getElem?_getD,List.getElem?_replicate_of_lt (by omega)];rfl
   rw [hbx]
   have hp:newT.phase=0:=rfl
   refine ⟨⟨.inl ⟨rfl,rfl,.inl rfl⟩,fun k=>(k hp).elim,fun k=>?_,fun k=>(k hp).elim,fun k=>?_,fun k=>?_,fun k=>?_,fun k=>?_⟩,fun k=>?_,by simp,fun k=>?_,Zbg (by decide),Zbg (by decide),fun k=>(k hp).elim,fun k=>?_,fun k=>?_,fun k=>?_,fun k=>absurd k (by decide),fun k=>absurd k (by decide),fun k=>(k hp).elim,fun k=>(k hp).elim⟩
   all_goals omega
 . rw [hthp p] at h;exact absurd h (by decide)
 . rw [hthp p] at h;exact absurd h (by decide)
 . refine ⟨fun i m a1 a2 a3 a4=>.inl (hnode i m a1 a2 a3 a4),fun j _ m hm=>(by rw [hun j] at hm;cases hm),fun j k m _ _ _ hm _=>(by rw [hun j] at hm;cases hm),fun j _ hp=>?_,fun j _ h=>absurd h (by decide),fun i m j a1 a2 a3 a4 hj hD=>?_,fun j _ hp=>?_⟩
   . rw [hthp j] at hp;exact absurd hp.1 (by decide)
   . rw [hnode i m a1 a2 a3 a4] at hD
     unfold InT at hj
     omega
   . rw [hthp j] at hp;exact absurd hp (by decide)
 . refine ⟨fun i r=>?_,fun j=>?_,fun j=>?_⟩
   . show Num (vwB c _ i r)
     unfold vwB
     split
     . exact hwn _
     . exact Zbg (by decide)
   . show Num (vwL c _ j)
     unfold vwL
     split
     . exact hwn _
     . exact Zbg (by decide)
   . show Num (vwR c _ j)
     unfold vwR
     split
     . exact hwn _
     . exact Zbg (by decide)
end
end Go.Proofs.Mill
namespace Go.Proofs.Mill
def Zbr (j:Int) (log:List Mark):List Mark:=log.filter (fun m=>m.t == j)
theorem Zxi {j:Int} {a b:List Mark}:Zbr j (a++b)=Zbr j a++Zbr j b:=List.filter_append ..
def Fits (lo hi:Int) (own:List Mark) (n:Nat) (last h:Event):Prop :=
 n<own.length/\(own.getD n ZaO).op=h.op/\(own.getD n ZaO).item=h.item/\(own.getD n ZaO).prior=h.prior/\h.did=(App h.op h.prior lo hi).2/\last.op=h.op/\last.item=h.item/\last.step<(own.getD n ZaO).step/\(own.getD n ZaO).step<=h.step
instance (lo hi:Int) (own:List Mark) (n:Nat) (last h:Event):Decidable (Fits lo hi own n last h):=Classical.propDecidable _
def ansE (lo hi j:Int) (own:List Mark) (s:Nat×Bool×Event) (h:Event):Option (Nat×Bool×Event) := if h.t≠j\/h.kind=3 then some s else if h.kind=1 then (if s.2.1=true then none else some (s.1,true,h)) else if s.2.1=true/\Fits lo hi own s.1 s.2.2 h then some (s.1+1,false,s.2.2) else none
def ansL (lo hi j:Int) (own:List Mark):Nat×Bool×Event->List Event->Option (Nat×Bool×Event)
 | s,[]=>some s
 | s, h :: r => match ansE lo hi j own s h with
  | some s=>ansL lo hi j own s r
  | none=>none
theorem Zhe {lo hi j:Int} {own:List Mark}:∀ {a b:List Event} {s s':Nat×Bool×Event},ansL lo hi j own s a=some s'->ansL lo hi j own s (a++b)=ansL lo hi j own s' b
 | [],b,s,s',h=>by cases h;rfl
 | e :: a, b, s, s', h => by
   have h:(match ansE lo hi j own s e with | some s=>ansL lo hi j own s a | none=>none)=some s':=h
   show (match ansE lo hi j own s e with | some s=>ansL lo hi j own s (a++b) | none=>none)=_
   cases h1:ansE lo hi j own s e with
   | none=>rw [h1] at h;cases h
   | some v=>rw [h1] at h;exact Zhe h
theorem ZmB {lo hi j:Int} {own:List Mark} {s:Nat×Bool×Event} {e:Event}:ansL lo hi j own s [e]=ansE lo hi j own s e:=by
 show (match ansE lo hi j own s e with | some s=>ansL lo hi j own s [] | none=>none)=_
 cases ansE lo hi j own s e <;> rfl
theorem ZyU {lo hi:Int} {own x:List Mark} {n:Nat} {last h:Event} (f:Fits lo hi own n last h):Fits lo hi (own++x) n last h:=by
 have e:(own++x).getD n ZaO=own.getD n ZaO:=by
   rw [List.getD_eq_getElem?_getD,List.getD_eq_getElem?_getD,List.getElem?_append_left f.1]
 unfold Fits at f ⊢
 rw [e,List.length_append]
 exact ⟨by omega,f.2⟩
theorem ZxT {lo hi j:Int} {own x:List Mark} {s s':Nat×Bool×Event} {h:Event} (a:ansE lo hi j own s h=some s'):ansE lo hi j (own++x) s h=some s':=by
 unfold ansE at a ⊢
 split at a
 . rename_i g;rw [if_pos g];exact a
 . rename_i g
   rw [if_neg g]
   split at a
   . rename_i k;rw [if_pos k];exact a
   . rename_i k
     rw [if_neg k]
     split at a
     . rename_i f;rw [if_pos ⟨f.1,ZyU f.2⟩];exact a
     . cases a
theorem Zss {lo hi j:Int} {own x:List Mark}:∀ {l:List Event} {s s':Nat×Bool×Event},ansL lo hi j own s l=some s'->ansL lo hi j (own++x) s l=some s'
 | [],s,s',h=>h
 | e :: l, s, s', h => by
   have h:(match ansE lo hi j own s e with | some s=>ansL lo hi j own s l | none=>none)=some s':=h
   show (match ansE lo hi j (own++x) s e with | some s=>ansL lo hi j (own++x) s l | none=>none)=_
   cases h1:ansE lo hi j own s e with
   | none=>rw [h1] at h;cases h
   | some v =>
     rw [h1] at h
     rw [ZxT h1]
     exact Zss h
def Inb (c:Config) (x:Int):Prop:=c.bounded=true->c.lo<=x/\x<=c.hi
instance (c:Config) (x:Int):Decidable (Inb c x):=Classical.propDecidable _
def Zew (c:Config) (i:Int):Int->List Mark->Option Int
 | x,[]=>some x
 | x,m::r=>if m.item≠i then Zew c i x r else if m.prior=x/\Inb c (App m.op x c.lo c.hi).1 then Zew c i (App m.op x c.lo c.hi).1 r else none
theorem Zm0 {c:Config} {i x:Int} {m:Mark} {r:List Mark}:Zew c i x (m::r)=if m.item≠i then Zew c i x r else if m.prior=x/\Inb c (App m.op x c.lo c.hi).1 then Zew c i (App m.op x c.lo c.hi).1 r else none:=rfl
theorem Zk9 {c:Config} {i:Int}:∀ {a b:List Mark} {x y:Int},Zew c i x a=some y->Zew c i x (a++b)=Zew c i y b
 | [],b,x,y,h=>by cases h;rfl
 | m :: a, b, x, y, h => by
   rw [List.cons_append,Zm0]
   rw [Zm0] at h
   by_cases e:m.item≠i
   . rw [if_pos e] at h ⊢;exact Zk9 h
   . rw [if_neg e] at h ⊢
     by_cases g:m.prior=x/\Inb c (App m.op x c.lo c.hi).1
     . rw [if_pos g] at h ⊢;exact Zk9 h
     . rw [if_neg g] at h;cases h
theorem ZpQ {c:Config} {i:Int}:∀ {a:List Mark} {x y:Int},Zew c i x a=some y->Inb c x->Inb c y
 | [],x,y,h,hx=>by cases h;exact hx
 | m :: a, x, y, h, hx => by
   unfold Zew at h
   by_cases e:m.item≠i
   . rw [if_pos e] at h;exact ZpQ h hx
   . rw [if_neg e] at h
     by_cases g:m.prior=x/\Inb c (App m.op x c.lo c.hi).1
     . rw [if_pos g] at h;exact ZpQ h g.2
     . rw [if_neg g] at h;cases h
theorem ZCW {o:Op} {x lo hi:Int} (hx:Num x) (hlo:Num lo) (hv:Num o.v) (h:Zfi o true=true) (h1:lo<=x) (h2:x<=hi):lo<=(App o x lo hi).1/\(App o x lo hi).1<=hi:=by
 have ha:=ZlR o x lo hi
 generalize App o x lo hi=r at ha ⊢
 unfold Zfi at h
 simp only [cond_true,Bool.or_eq_true,beq_iff_eq,Bool.and_eq_true,decide_eq_true_eq] at h
 unfold ZcQ at ha
 rcases h with h | ⟨h,hv0⟩
 . rw [ZaS (show ¬o.tag=1 by omega),ZaS (show ¬o.tag=2 by omega),ZaS (show ¬o.tag=3 by omega),ZaS (show ¬o.tag=4 by omega),ZaS (show ¬o.tag=5 by omega),ZaS (show ¬o.tag=6 by omega),ZaS (show ¬o.tag=7 by omega),Zbf h] at ha
   simp only [cond_false,cond_true,Zg8,Zg6,Zat] at ha
   generalize (decide (o.v>=0) == decide (Zac IntKind.i64 (x+o.v)>=x))=bb at ha
   cases bb with
   | false =>
     have:=Option.some.inj ha
     rw [<- this];exact ⟨h1,h2⟩
   | true =>
     simp only [Bool.not_true,cond_false] at ha
     split at ha
     . have:=Option.some.inj ha
       rw [<- this];exact ⟨h1,h2⟩
     . split at ha
       . have:=Option.some.inj ha
         rw [<- this];exact ⟨h1,h2⟩
       . have:=Option.some.inj ha
         rw [<- this]
         dsimp only
         omega
 . rw [ZaS (show ¬o.tag=1 by omega),ZaS (show ¬o.tag=2 by omega),ZaS (show ¬o.tag=3 by omega),ZaS (show ¬o.tag=4 by omega),ZaS (show ¬o.tag=5 by omega),ZaS (show ¬o.tag=6 by omega),ZaS (show ¬o.tag=7 by omega),ZaS (show ¬o.tag=8 by omega),Zbf h] at ha
   simp only [cond_false,cond_true,Zat] at ha
   rw [if_neg (by omega),if_neg (by omega),ZuQ hx hlo h1] at ha
   have huv:IntKind.u64.wrap o.v=o.v:=by
     rw [<- Zbv]
     exact wrap_u64 hv0 (by have:=hv.2;omega)
   rw [huv] at ha
   split at ha
   . have:=Option.some.inj ha
     rw [<- this]
     dsimp only
     omega
   . have:=Option.some.inj ha
     rw [<- this]
     dsimp only
     have hxx:=hx
     have hll:=hlo
     unfold Num at hxx hll
     rw [Zas (by omega) (by omega)]
     omega
theorem Zq8 {c:Config} (hlo:Num c.lo) (it:Int) (s:Int):∀ (b:List Entry) (x:Int),Num x->Inb c x->(∀ e∈b,Num e.op.v/\Zfi e.op c.bounded=true) ->
   Zew c it x ((List.zipWith (fun (e:Entry) p=>(⟨e.t,it,e.op,p,0⟩:Mark)) b (Zei c.lo c.hi b x)).map (ZcH s))=some (allT c.lo c.hi b x)
 | [],x,_,_,_=>rfl
 | e :: b, x, hx, hin, he => by
   show Zew c it x (ZcH s ⟨e.t,it,e.op,x,0⟩::(List.zipWith (fun (e:Entry) p=>(⟨e.t,it,e.op,p,0⟩:Mark)) b (Zei c.lo c.hi b (App e.op x c.lo c.hi).1)).map (ZcH s))=some (allT c.lo c.hi b (App e.op x c.lo c.hi).1)
   obtain ⟨n1,n2⟩:=he e (List.mem_cons_self ..)
   have hi2:Inb c (App e.op x c.lo c.hi).1:=by
     intro hb
     rw [hb] at n2
     exact ZCW hx hlo n1 n2 (hin hb).1 (hin hb).2
   unfold Zew
   rw [if_neg (show ¬(ZcH s ⟨e.t,it,e.op,x,0⟩).item≠it from fun h=>h rfl),if_pos (show (ZcH s ⟨e.t,it,e.op,x,0⟩).prior=x/\Inb c (App (ZcH s ⟨e.t,it,e.op,x,0⟩).op x c.lo c.hi).1 from ⟨rfl,hi2⟩)]
   exact Zq8 hlo it s b _ (ZoI hx n1 hlo) hi2 (fun y hy=>he y (List.mem_cons_of_mem _ hy))
theorem Zpo {c:Config} {it i:Int} (hne:it≠i) (s:Int) {f:Entry->Int->Mark} (hf:∀ e p,(f e p).item=it):∀ (b:List Entry) (ps:List Int) (x:Int),Zew c i x ((List.zipWith f b ps).map (ZcH s))=some x
 | [],_,x=>rfl
 | e::b,[],x=>rfl
 | e :: b, p :: ps, x => by
   show Zew c i x (ZcH s (f e p)::(List.zipWith f b ps).map (ZcH s))=some x
   unfold Zew
   rw [if_pos (show (ZcH s (f e p)).item≠i from by show (f e p).item≠i;rw [hf];exact hne)]
   exact Zpo hne s hf b ps x
theorem Zsy {c:Config} (it s:Int) (j:Int):∀ (b:List Entry) (x:Int),(b.map (·.t)).Nodup ->
   Zbr j ((List.zipWith (fun (e:Entry) p=>(⟨e.t,it,e.op,p,0⟩:Mark)) b (Zei c.lo c.hi b x)).map (ZcH s)) =
     if idxOf b j<b.length then [⟨j,it,(b.getD (idxOf b j) ⟨0,⟨0,0⟩⟩).op,allT c.lo c.hi (b.take (idxOf b j)) x,s⟩] else []
 | [],x,_=>by simp [Zbr,idxOf,Zei]
 | e :: b, x, hn => by
   rw [List.map_cons,List.nodup_cons] at hn
   show Zbr j (ZcH s ⟨e.t,it,e.op,x,0⟩::(List.zipWith (fun (e:Entry) p=>(⟨e.t,it,e.op,p,0⟩:Mark)) b (Zei c.lo c.hi b (App e.op x c.lo c.hi).1)).map (ZcH s))=_
   have ih:=Zsy (c:=c) it s j b (App e.op x c.lo c.hi).1 hn.2
   have hcons:∀ (m:Mark) (r:List Mark),Zbr j (m::r)=if m.t=j then m::Zbr j r else Zbr j r:=by
     intro m r
     unfold Zbr
     rw [List.filter_cons]
     by_cases h:m.t=j
     . rw [if_pos (by simp [h]),if_pos h]
     . rw [if_neg (by simp [h]),if_neg h]
   rw [hcons]
   show (if e.t=j then _ else _)=_
   by_cases h:e.t=j
   . have i0:idxOf (e::b) j=0:=by rw [<- h];exact Zue
     have i1:¬idxOf b j<b.length:=by
       intro hlt
       apply hn.1
       unfold idxOf at hlt
       have hlt':(b.map (·.t)).findIdx (fun t=>t == j)<(b.map (·.t)).length:=by rwa [List.length_map]
       have:=List.findIdx_getElem (w:=hlt')
       rw [h,<- eq_of_beq this]
       exact List.getElem_mem hlt'
     rw [if_pos h,ih,if_neg i1,i0,if_pos (by simp)]
     show [ZcH s ⟨e.t,it,e.op,x,0⟩]=_
     rw [h]
     rfl
   . have i1:idxOf (e::b) j=idxOf b j+1:=by
       unfold idxOf
       rw [List.map_cons,List.findIdx_cons]
       have:(e.t == j)=false:=by simpa using h
       rw [this]
       rfl
     rw [if_neg h,ih,i1]
     by_cases hlt:idxOf b j<b.length
     . rw [if_pos hlt,if_pos (by rw [List.length_cons];omega)]
       rfl
     . rw [if_neg hlt,if_neg (by rw [List.length_cons];omega)]
end Go.Proofs.Mill
