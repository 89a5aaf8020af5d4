/- copy, into a row of the call's own. -/
import Derived.Test.YtaopdopnecognaaGreatMillAll3
import Derived.Test.YtaopdopnecognaaGreatMillAll1
set_option linter.all false
namespace Go.Proofs.Mill
open Go.RowKit
theorem Zpx {P:Program} (w:World) (dT sT ty elem:TypeId) (g o dLen dCap:Nat) (a:Addr) (sLen sCap:Nat) (cur:Array Value) (t:TypeId) (cs:List Value) (sz:Nat)
   (hu:P.underlying dT=some (.slice elem)) (hs:(P.info? elem).map (·.size)=some sz)
   (hg:w.heap[g]?=some (.cells cur t (0,0))) (hn:cs.length=Nat.min sLen dLen*sz)
   (hsrc:∀ j v,cs[j]?=some v->w.cell? (a.add j)=some v) (hfit:o+cs.length<=cur.size) (h1:∀ v∈cs,v.oneCell'=true) :
   (Builtin.copy_ #[dT,sT] ty #[.slice (some ⟨g,o,none⟩) dLen dCap,.slice (some a) sLen sCap]).run P w =
     .ok (goInt (Nat.min sLen dLen)) (w.setRow g (cur.toList.take o++cs++cur.toList.drop (o+cs.length)).toArray):=by
 have hl:=run_loadCells_list (P:=P) (w:=w) a cs hsrc
 have hst:=run_storeCells_at P g o t cs 0 cur w hg (by simpa using hfit) h1
 cases hq:P.info? elem with
 | none=>simp [hq] at hs
 | some i =>
   have hi:i.size=sz:=by simpa [hq] using hs
   simp [Builtin.copy_,run_underlying hu,Builtin.lenOf,Builtin.firstCells,sizeOf,typeInfo,hq,hi,<- hn,hl,hst]
theorem Cx.DVs.take {c:Cx} {ds:List D} {vs:List Value} (h:c.DVs ds vs) (n:Nat):c.DVs (ds.take n) (vs.take n) :=
 Cx.DVs.mk (by simp [h.length]) fun i d v hd hv=>by
   rw [List.getElem?_take] at hd hv
   split at hd
   . rename_i hi
     rw [if_pos hi] at hv
     obtain ⟨v',h1,h2⟩:=h.get i d hd
     rw [h1] at hv
     obtain rfl:=Option.some.inj hv
     exact h2
   . cases hd
theorem Zrk {τ:Ty} (xs ys:List τ.den) (k:Nat) (hk:k+ys.length<=xs.length) :
   ((xs.take k++ys++xs.drop (k+ys.length)).map τ.enc).flatten=(xs.map τ.enc).flatten.take (k*τ.sz)++(ys.map τ.enc).flatten++(xs.map τ.enc).flatten.drop (k*τ.sz+ys.length*τ.sz):=by
 have e1:((xs.take k).map τ.enc).flatten=(xs.map τ.enc).flatten.take (k*τ.sz):=by
   have e:(xs.map τ.enc).flatten=((xs.take k).map τ.enc).flatten++((xs.drop k).map τ.enc).flatten:=by
     rw [<- List.flatten_append,<- List.map_append,List.take_append_drop]
   have hl:((xs.take k).map τ.enc).flatten.length=k*τ.sz:=by rw [Zbn];congr 1;simp;omega
   rw [e,List.take_left' hl]
 have e2:((xs.drop (k+ys.length)).map τ.enc).flatten=(xs.map τ.enc).flatten.drop (k*τ.sz+ys.length*τ.sz):=by
   have e:(xs.map τ.enc).flatten=((xs.take (k+ys.length)).map τ.enc).flatten++((xs.drop (k+ys.length)).map τ.enc).flatten:=by
     rw [<- List.flatten_append,<- List.map_append,List.take_append_drop]
   have hl:((xs.take (k+ys.length)).map τ.enc).flatten.length=k*τ.sz+ys.length*τ.sz:=by rw [Zbn,<- Nat.add_mul];congr 1;simp;omega
   rw [e,List.drop_left' hl]
 rw [List.map_append,List.map_append,List.flatten_append,List.flatten_append,e1,e2]
theorem Zsv {w0 w:World} {ob:List (Nat×AV)} {mu:Nat->Option Nat} {ok:Nat->Prop} {id b cap k:Nat} {e:TypeId} {τ:Ty} {xs ys:List τ.den} {cur:Array Value} {cs:List Value}
   (hm:Mem w0 (cx w ob mu ok)) (hob:look ob id=.row e τ xs) (hmu:mu id=some b) (hrow:ZgP (cx w ob mu ok) e τ b cap cur) (hlen:xs.length<=cap) (hcap:cap<=maxLen)
   (hds:(cx w ob mu ok).DVs (xs.map τ.enc).flatten (cur.toList.take (xs.length*τ.sz))) (hcs:(cx w ob mu ok).DVs (ys.map τ.enc).flatten cs) (hk:k+ys.length<=xs.length) :
   Mono (cx w ob mu ok) (cx (w.setRow b (cur.toList.take (k*τ.sz)++cs++cur.toList.drop (k*τ.sz+cs.length)).toArray) ((id,.row e τ (xs.take k++ys++xs.drop (k+ys.length)))::ob) mu ok) /\
   Mem w0 (cx (w.setRow b (cur.toList.take (k*τ.sz)++cs++cur.toList.drop (k*τ.sz+cs.length)).toArray) ((id,.row e τ (xs.take k++ys++xs.drop (k+ys.length)))::ob) mu ok):=by
 have hcsl:cs.length=ys.length*τ.sz:=by rw [<- hcs.length,Zbn]
 have hcur:cur.size=cap*τ.sz:=hrow.2
 have hfit:k*τ.sz+cs.length<=cur.size:=by
   rw [hcsl,<- Nat.add_mul,hcur]
   exact Nat.mul_le_mul_right _ (by omega)
 have hheap:w.heap[b]?=some (.cells cur e (0,0)):=hrow.1
 have hblt:b<w.heap.size:=hm.lt (id:=id) hmu
 generalize hnew:(cur.toList.take (k*τ.sz)++cs++cur.toList.drop (k*τ.sz+cs.length)).toArray=cur'
 have hsz:cur'.size=cap*τ.sz:=by
   rw [<- hnew]
   simp only [List.size_toArray,List.length_append,List.length_take,List.length_drop,Array.length_toList]
   omega
 have ht:Turned w (w.setRow b cur') fun j=>j=b:=by
   refine ⟨rfl,rfl,rfl,by simp [World.setRow],fun j hj hne=>?_⟩
   simp only [World.setRow]
   rw [Array.getElem?_modify]
   simp [show ¬b=j from fun e=>hne e.symm]
 have hheap':(w.setRow b cur').heap[b]?=some (.cells cur' e (0,0)):=by
   simp only [World.setRow]
   rw [Array.getElem?_modify]
   simp [hheap]
 have hlen':(xs.take k++ys++xs.drop (k+ys.length)).length=xs.length:=by simp;omega
 have key:=Mem.write (o:=.row e τ (xs.take k++ys++xs.drop (k+ys.length))) hm hmu ht (fun _=>.inr (.inr (.inr (.inr (.inl ⟨e,τ,xs,_,hob,look_eq _ _ _,hlen',rfl,fun b' cap' cur2 hb' hr'=>by
   have hb':mu id=some b':=hb'
   rw [hmu] at hb'
   obtain rfl:=Option.some.inj hb'
   have e1:=hrow.1.symm.trans hr'.1
   simp only [Option.some.injEq,Obj.cells.injEq,and_true] at e1
   subst e1
   have hcc:cap=cap':=Nat.eq_of_mul_eq_mul_right τ.sz_pos (hrow.2.symm.trans hr'.2)
   subst hcc
   exact ⟨cur',hheap',hsz⟩⟩)))))
 refine ⟨key.1,key.2 ?_⟩
 unfold ObjOK
 rw [show (cx (w.setRow b cur') ((id,AV.row e τ (xs.take k++ys++xs.drop (k+ys.length)))::ob) mu ok).ob id=_ from look_eq _ _ _]
 refine .inr ⟨b,cap,cur',hmu,⟨hheap',hsz⟩,by omega,hcap,?_⟩
 rw [Zrk xs ys k hk]
 have e1:cur'.toList.take ((xs.take k++ys++xs.drop (k+ys.length)).length*τ.sz)=(cur.toList.take (xs.length*τ.sz)).take (k*τ.sz)++cs++(cur.toList.take (xs.length*τ.sz)).drop (k*τ.sz+ys.length*τ.sz):=by
   have h1:k*τ.sz+ys.length*τ.sz<=xs.length*τ.sz:=by rw [<- Nat.add_mul];exact Nat.mul_le_mul_right _ hk
   have h2:xs.length*τ.sz<=cap*τ.sz:=Nat.mul_le_mul_right _ hlen
   have hl1:(cur.toList.take (k*τ.sz)).length=k*τ.sz:=by simp;omega
   rw [hlen',<- hnew,List.take_take,Nat.min_eq_left (by omega)]
   rw [show (cur.toList.take (k*τ.sz)++cs++cur.toList.drop (k*τ.sz+cs.length)).toArray.toList=cur.toList.take (k*τ.sz)++cs++cur.toList.drop (k*τ.sz+cs.length) from rfl]
   rw [List.take_append,List.take_of_length_le (l:=cur.toList.take (k*τ.sz)++cs) (by simp only [List.length_append,hl1,hcsl];exact h1)]
   congr 1
   simp only [List.length_append,hl1,hcsl]
   rw [<- List.drop_take]
 rw [e1]
 have hmd:∀ d v,(cx w ob mu ok).DV d v->(cx (w.setRow b cur') ((id,AV.row e τ (xs.take k++ys++xs.drop (k+ys.length)))::ob) mu ok).DV d v:=key.1.dv
 have a1:=Cx.DVs.imp hmd (hds.take (k*τ.sz))
 have a2:=Cx.DVs.imp hmd hcs
 have a3:(cx (w.setRow b cur') ((id,AV.row e τ (xs.take k++ys++xs.drop (k+ys.length)))::ob) mu ok).DVs ((xs.map τ.enc).flatten.drop (k*τ.sz+ys.length*τ.sz)) ((cur.toList.take (xs.length*τ.sz)).drop (k*τ.sz+ys.length*τ.sz)):=by
   refine Cx.DVs.mk (by rw [List.length_drop,List.length_drop,hds.length]) fun i d v hd hv=>?_
   rw [List.getElem?_drop] at hd hv
   obtain ⟨v',h1,h2⟩:=hds.get _ d hd
   rw [h1] at hv
   obtain rfl:=Option.some.inj hv
   exact hmd _ _ h2
 exact (a1.append a2).append a3
end Go.Proofs.Mill
