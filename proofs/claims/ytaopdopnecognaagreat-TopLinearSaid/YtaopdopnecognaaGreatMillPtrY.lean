/- Methods that turn the string that they are bound to. -/
import Derived.Test.YtaopdopnecognaaGreatMillAll19
import Derived.Test.YtaopdopnecognaaGreatMillAll4
set_option linter.all false
namespace Go.Proofs.Mill
open Go.RowKit
def yOf (fn:ByteArray->Option (Int×ByteArray)):YSpec where
 α:=ByteArray
 β:=Int×ByteArray
 dec cs:=match cs with
   | [.str s]=>some s
   | _=>none
 fn:=fn
 enc y:=(.int .i64 y.1,[.str y.2])
theorem ZBv (fn:ByteArray->Option (Int×ByteArray)) (cs:List AV) (s:ByteArray) (h:(yOf fn).dec cs=some s):cs=[.str s]:=by
 unfold yOf at h
 simp only at h
 split at h
 . obtain rfl:=Option.some.inj h
   rfl
 . cases h
def Zy6 (P:Program) (g:FuncId) (fn:ByteArray->Option (Int×ByteArray)):Prop :=
 ∀ (w0 : World) (ok : Nat -> Prop) (w : World) (mu : Nat -> Option Nat) (p : Value) (vals : Array Value) (s : ByteArray) (y : Int × ByteArray), fn s = some y -> Mem w0 (cx w (Zbh celStr s) mu ok) ->
   PtrV (cx w (Zbh celStr s) mu ok) 65536 0 p->vals.toList=[p] ->
   Calls P g vals w fun e w'=>∃ ob' mu',e=.returned (.int .i64 y.1)/\Mem w0 (cx w' ob' mu' ok)/\Frm (cx w (Zbh celStr s) mu ok) (cx w' ob' mu' ok) p/\look ob' 65536=.box [.str y.2]
theorem ZBA {P:Program} {g:FuncId} {fn:ByteArray->Option (Int×ByteArray)} (h:Zy6 P g fn):Zxq P g (yOf fn):=by
 intro cs s y hdec hfn w0 w ok ob mu id vals hm hl hv
 change ByteArray at s
 change Int×ByteArray at y
 obtain rfl:=ZBv fn cs s hdec
 have hfn:fn s=some y:=hfn
 obtain ⟨ob1,hob1⟩:∃ ob1,ob1=(id,AV.dead)::ob:=⟨_,rfl⟩
 have hx:Zcb celStr.kds [.str s] ((id,.dead)::ob)=some (celStr.enc s,ob1):=by rw [hob1];rfl
 obtain ⟨cs,hcs⟩:∃ cs,cs=[AV.str s]:=⟨_,rfl⟩
 rw [<- hcs] at hl hx
 obtain ⟨os,m⟩:=ZcF hx 65537
 have mb:Moves [.ptr id 0] [.ptr 65536 0] ob ob1 (Zbh celStr s) (some id::os):=m.box (n:=65536) hl
 have hnd:((Zbh celStr s).map (·.1)).Nodup:=by
   obtain ⟨f1,f2,f3,f4⟩:=Zeh 65537 (celStr.enc s)
   show ((65536::(Zbj 65537 (celStr.enc s)).2.1.map (·.1))).Nodup
   rw [List.nodup_cons]
   refine ⟨fun hm=>?_,f4⟩
   obtain ⟨p,hp,he⟩:=List.mem_map.1 hm
   have:=(f2 p hp).1
   omega
 obtain ⟨obf,mu1,mu2,okF,hm1,hmono1,hlive,hdead,hok,hof,hm2,hv2⟩:=ZhV hm mb hnd (ob2:=Zbh celStr s) (fun p hp=>Zcr _ hnd p hp) (fun i hi=>ZcV _ i hi)
 obtain ⟨p,us,hus,hp,h3⟩:=Za6 hv
 have h3:=Zbo h3
 subst h3
 have hp2:PtrV (cx w (Zbh celStr s) mu2 okF) 65536 0 p:=(hv2 [p] ⟨hp,trivial⟩).1
 have hp1:PtrV (cx w obf mu1 ok) id 0 p:=hmono1.ptr _ _ _ hp
 have hdead1:look ob1 id=.dead:=(mb.alive id (by simp)).2
 have hidf:look obf id=.box cs:=(hdead id hdead1).trans hl
 have hMid:Zkh ob ob1 id:=mb.alive id (by simp)
 unfold PtrV at hp1
 rw [show (cx w obf mu1 ok).ob id=.box cs from hidf] at hp1
 obtain ⟨pb,hpb1,hpe⟩:=hp1
 have hpb1:mu1 id=some pb:=hpb1
 refine (h w0 okF w mu2 p vals s y hfn hm2 hp2 hus).mono fun e w' he=>?_
 obtain ⟨ob',mu',rfl,hm',hF,hl3⟩:=he
 obtain ⟨B,hB⟩:∃ B:Nat,B=0:=⟨_,rfl⟩
 obtain ⟨ob3,hob3⟩:∃ ob3,ob3=(65536,AV.dead)::ob':=⟨_,rfl⟩
 have hx3:Zcb celStr.kds [.str y.2] ((65536,.dead)::ob')=some (celStr.enc y.2,ob3):=by rw [hob3];rfl
 obtain ⟨os3,m3⟩:=ZcF hx3 B
 have mb3:Moves [.ptr 65536 0] [.ptr id 0] ob' ob3 ((id,.box (Zbj B (celStr.enc y.2)).1)::(Zbj B (celStr.enc y.2)).2.1) (some 65536::os3):=m3.box (n:=id) hl3
 obtain ⟨f1,f2,f3,f4⟩:=Zeh B (celStr.enc y.2)
 rw [show (Zbj B (celStr.enc y.2)).2.2=B+0 from rfl] at f1 f2
 have hfr:∀ i,B<=i->i<B+0->look ob i=.undef:=fun i h1 h2=>by omega
 have hidn:∀ p∈(Zbj B (celStr.enc y.2)).2.1,p.1≠id:=fun q hq e=>by
   have:=hfr q.1 (f2 q hq).1 (f2 q hq).2
   rw [e,hl] at this
   cases this
 generalize hys:(Zbj B (celStr.enc y.2)).1=ys at *
 generalize hws:(Zbj B (celStr.enc y.2)).2.1=ws at *
 have hnd3:(((id,AV.box ys)::ws).map (·.1)).Nodup:=by
   rw [List.map_cons,List.nodup_cons]
   refine ⟨fun hm=>?_,f4⟩
   obtain ⟨q,hq,he⟩:=List.mem_map.1 hm
   exact hidn q hq he
 obtain ⟨obg,mug,mu3,okG,hmg,hmonog,_,_,hokG,hof3,hm3,hv3⟩:=ZhV hm' mb3 hnd3 (ob2:=(id,.box ys)::ws) (fun p hp=>Zcr _ hnd3 p hp) (fun i hi=>ZcV _ i hi)
 have hGF:∀ b,okG b->okF b:=fun b hb=>((hokG b).1 hb).1
 have hmonoW:MonoB (cx w' ((id,.box ys)::ws) mu3 okG) (cx w' ((id,.box ys)::ws) mu3 okF):=Zfr (fun b hb=>⟨⟨hGF b hb.1,hb.2.1,hb.2.2⟩,rfl⟩) (fun i=>.inr (.inr (.inl ⟨rfl,rfl,fun _ _=>rfl⟩)))
 have hm3F:Mem w0 (cx w' ((id,.box ys)::ws) mu3 okF):=⟨fun i=>(hm3.obj i).keepB hmonoW rfl rfl (fun _ _=>rfl),hm3.inj,hm3.base,hm3.ext,fun b hb=>(hm3.okn b hb).elim (fun x=>.inl (hGF b x)) .inr⟩
 have hp3:PtrV (cx w' ((id,.box ys)::ws) mu3 okG) id 0 p:=(hv3 [p] ⟨hF.ptr,trivial⟩).1
 unfold PtrV at hp3
 rw [show (cx w' ((id,.box ys)::ws) mu3 okG).ob id=.box ys from look_eq _ _ _] at hp3
 obtain ⟨pb3,hpb3,hpe3⟩:=hp3
 have hpb3:mu3 id=some pb3:=hpb3
 have:pb3=pb:=by
   rw [hpe] at hpe3
   simpa using hpe3.symm
 subst this
 have un3:∀ b,b<w'.heap.size->(∀ i,mu' i≠some b)->∀ i,mu3 i≠some b:=fun b hb hu i e=>by
   obtain ⟨j,_,hj⟩:=hof3 i b e
   exact (hmonog.off b hb hu).1 j hj
 have hin3:∀ i,look ((id,AV.box ys)::ws) i≠.undef->i=id\/∃ q∈ws,q.1=i:=fun i hi=>by
   obtain ⟨q,hq,he⟩:=Zgr _ i hi
   rcases List.mem_cons.1 hq with rfl | hq
   . exact .inl he.symm
   . exact .inr ⟨q,hq,he⟩
 have hout3:∀ i,look ((id,AV.box ys)::ws) i=.undef->∀ q∈(id,AV.box ys)::ws,q.1≠i:=fun i hi q hq e=>by
   have:=Zcr _ hnd3 q hq
   rw [e,hi] at this
   rcases mb3.rows q hq with ⟨_,_,_,h⟩ | ⟨_,h⟩ <;> rw [h] at this <;> cases this
 obtain ⟨muR,_,hmR,hmonoR,_⟩:=Zsj (id:=id) (pb:=pb3) (cs:=cs) (cs':=ys) (ob2:=Zbh celStr s) (obR:=(id,.box ys)::(ws++ob1)) (M:=Zkh ob ob1) hm1 hok hof hm3F (fun b hb=>by
     obtain ⟨k1,k2⟩:=hF.blk b hb
     exact ⟨⟨k1.1,k1.2.1,un3 b k1.2.1 k1.2.2⟩,k2⟩) (fun b hb hu=>by
     obtain ⟨k1,k2⟩:=hF.off b hb hu
     refine ⟨un3 b ?_ k1,k2⟩
     rw [Array.getElem?_eq_getElem hb] at k2
     exact (Array.getElem?_eq_some_iff.1 k2).1) hMid hidf (look_eq _ _ _) hpb1 hpb3
   (fun i hi=>by
     rcases hin3 i hi with rfl | ⟨q,hq,rfl⟩
     . exact .inl rfl
     . right
       have hu:=hfr q.1 (f2 q hq).1 (f2 q hq).2
       have h1:look ob1 q.1=.undef:=by
         rcases mb.ev q.1 with h | ⟨h,_⟩ | ⟨_,_,_,h,_⟩
         . rw [h];exact hu
         . rw [hu] at h;rcases h with ⟨_,_,_,h⟩ | ⟨_,h⟩ <;> cases h
         . rw [hu] at h;cases h
       rw [hlive q.1 (by rw [h1];intro h;cases h)]
       exact h1)
   (fun i hi=>by
     obtain ⟨q,hq,he⟩:=Zgr _ i hi
     subst he
     rw [Zcr _ hnd3 q hq]
     exact ZlH ((id,.box ys)::ws) ob1 q hnd3 hq)
   (fun i hi hM=>by
     show look (((id,.box ys)::ws)++ob1) i=_
     rw [Zgh _ _ i (hout3 i hi)]
     exact hM.2)
   (fun i hi hM=>by
     show look (((id,.box ys)::ws)++ob1) i=_
     rw [Zgh _ _ i (hout3 i hi)]
     by_cases hd:look ob1 i=.dead
     . rw [hdead i hd]
       rcases mb.ev i with h | ⟨h,_⟩ | ⟨_,_,_,h,h'⟩
       . exact h
       . exact (hM ⟨h,hd⟩).elim
       . rw [hd] at h';cases h'
     . exact (hlive i hd).symm)
 have ey:ys=[.str y.2]:=by rw [<- hys];rfl
 have ew:ws=[]:=by rw [<- hws];rfl
 subst ey ew
 have e1:(cx w' ((id,AV.box [.str y.2])::([]++ob1)) muR ok)=cx w' (Zay [(id,.box [.str y.2])] ob) muR ok:=by
   unfold cx
   congr 1
   funext j
   show look ((id,AV.box [.str y.2])::ob1) j=look ((id,AV.box [.str y.2])::ob) j
   by_cases e:id=j
   . subst e;rw [look_eq,look_eq]
   . rw [ZaQ _ _ e,ZaQ _ _ e,hob1,ZaQ _ _ e]
 rw [e1] at hmR hmonoR
 exact ⟨_,muR,rfl,hmR,hmono1.trans hmonoR,rfl⟩
end Go.Proofs.Mill
