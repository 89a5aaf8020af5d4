/- batch.All and batch.Priors: loops over batch.cells. -/
import Derived.Test.YtaopdopnecognaaGreatMillOkAb
import Derived.Test.YtaopdopnecognaaGreatMillFT2b
import Derived.Test.YtaopdopnecognaaGreatMillPrivFn
set_option linter.all false
set_option maxRecDepth 100000
noncomputable section
namespace Go.Proofs.Mill
open Go.RowKit
def vB:Env:=env1 [(90,s90)]
theorem gB:Zai vB:=Zal mix1 ent1 (Zab ok90 rfl Zah)
def bB:Code:=Zg7 Tryz.prog 189
def lB:Code:=ZoC (cBlk (Zax bB))
def yB:Code:=cBlk (ZaW (Zax (Zax lB)))
def rB:Code:=ZaW (Zax (Zax yB))
theorem ZxO {L:List Entry} {i:Nat} {lo hi x:Int} (hL:L.length<=4294967296) {R:Int->Bool×List AV×AV} {A':Bool×List AV×AV} :
   (bif decide ((i:Int)<(L.length:Int)) then (bif decide ((i:Int)<(L.length:Int)) then
     (match Zcf ((L.getD (i:Int).toNat (⟨0,⟨0,0⟩⟩:Entry)).op,x,lo,hi) with | some y=>some (R y.1) | none=>none) else none) else some A') =
   match L[i]? with
   | none=>some A'
   | some e => match apC lo hi e x with
     | some y=>some (R y)
     | none=>none:=by
 by_cases h:i<L.length
 . have hx:L[i]?=some (L[i]'h):=List.getElem?_eq_getElem h
   have hg:L.getD (i:Int).toNat (⟨0,⟨0,0⟩⟩:Entry)=L[i]'h:=by rw [Int.toNat_natCast,List.getD_eq_getElem?_getD,hx,Option.getD_some]
   have e1:decide ((i:Int)<(L.length:Int))=true:=decide_eq_true (by omega)
   rw [e1,hx]
   simp only [cond_true]
   rw [hg]
   unfold apC
   cases Zcf ((L[i]'h).op,x,lo,hi) <;> rfl
 . have hx:L[i]?=none:=List.getElem?_eq_none (by omega)
   have e1:decide ((i:Int)<(L.length:Int))=false:=decide_eq_false (by omega)
   rw [e1,hx]
   rfl
theorem ZBp {L:List Entry} {x0 lo hi:Int} {els:List (Int×Int)} (hL:fewB L.length=true) (hels:cellsOf (apC lo hi) L x0=some els) (c:Cx) (u1 u3 u4:Value) (pb:Nat)
   (hv:VL c [.cptr [.lst .entry L] 0,.cptr [.i lo] 0,.cptr [.i hi] 0] [u1,u3,u4]) (hc:∃ e,c.w.heap[pb]?=some (.cells #[.int .i64 x0] e (0,0))) (hn:¬c.okb pb) :
   ZmP Tryz.prog 189 #[u1,.pointer (some ⟨pb,0,none⟩),u3,u4] (els.map fun p=>#[.int .i64 p.1,.int .i64 p.2]) c.okb pb c.w:=by
 have hL':L.length<=4294967296:=Nat.le_of_ble_eq_true hL
 refine ZwO (V:=vB) gB (f:=189) (fn:=Tryz.f189) (nt:=32) (rounds:=20) (depth:=6) (id0:=0) (id4:=4) (ops0:=cOps (ZaW bB)) (ops4:=cOps (ZaW rB)) (R1:=ZaW lB) (K1:=ZaW (Zax lB)) (R2:=ZaW yB) (R3:=ZaW (Zax yB))
   (K2:=Zax rB) (R5:=Zax (Zax (Zax yB))) (R6:=Zax (Zax (Zax lB))) (ap:=apC lo hi) (L:=L) (x0:=x0) (lo:=lo) (hi:=hi) (cl:=Ztm ((cOps (ZaW rB)).toList.getD 3 default))
   (by kernel_rfl) (by kernel_rfl) (by kernel_rfl) (by omega) (by kernel_rfl) hels (fun yv x=>by kernel_rfl) (fun yv x i=>?_) (fun yv x y i hi=>?_) (by kernel_rfl) (by kernel_rfl) (by kernel_rfl) (by kernel_rfl) (by kernel_rfl) (by kernel_rfl)
   hv.1 hv.2.1 hv.2.2.1 hc hn
 . refine Eq.trans ?_ (ZxO (L:=L) (i:=i) (lo:=lo) (hi:=hi) (x:=x) hL' (A':=(false,[.ptr 1 0],.box [.i x]))
     (R:=fun y=>(true,[.cst yv,.i x,.i y,.i y,.ptr 1 0,.cst yv,.cptr [.i lo] 0,.cptr [.i hi] 0,.lst .entry L,.i L.length,.i (i:Int)],.box [.i x])))
   show _=_
   kernel_rfl
 . have hw:Zac .i64 ((i:Int)+1)=((i+1:Nat):Int):=ZkN (by omega)
   rw [<- hw]
   show _=_
   kernel_rfl
def parB (p:Int×Int):List AV:=[.i p.1,.i p.2]
def encB (p:Int×Int):Array Value:=#[.int .i64 p.1,.int .i64 p.2]
theorem lawB (c:Cx) (p:Int×Int):VL c (parB p) (encB p).toList:=⟨rfl,rfl,trivial⟩
theorem entB:Zd9 Tryz.prog 189:=gB.2.2.1 189 (by kernel_rfl)
def s150:Spec:=Zao (Zaa (Zap .entry) (Zaa (Zae .i64) (Zaa (Zae .i64) (Zad (Zae .i64))))) (Zar (Zae .i64)) ZeP
def c150:Code:=Zg7 Tryz.prog 150
def vals150:Vals:=Zad (Zav (Zau .i64))
def ZvZ (st:Int) (e:Int×Int):Option (Int⊕Empty):=some (.inl e.2)
theorem Zv8:∀ (els:List (Int×Int)) (x:Int),Zcq ZvZ els x=some (.inl (els.foldl (fun _ p=>p.2) x))
 | [],_=>rfl
 | e::els,x=>Zv8 els e.2
def r150:Code:=cBlk (Zax (ZaW (Zax c150)))
theorem ZDj:(Zce r150).2.1=#[16,17]:=by kernel_rfl
theorem ZAH:Zan Tryz.prog 150 s150:=by
 intro w0 ok avs args (z:List Entry×Int×Int×Int) (y:Int) hd hy hv
 have hd:=(Zaa (Zap .entry) (Zaa (Zae .i64) (Zaa (Zae .i64) (Zad (Zae .i64))))).law _ _ hd
 subst hd
 obtain ⟨L,x0,lo,hi⟩:=z
 have hy:Zg1 L x0 lo hi=some y:=hy
 unfold Zg1 at hy
 cases hL:fewB L.length with
 | false=>rw [hL] at hy;cases hy
 | true =>
 rw [hL] at hy
 simp only [cond_true] at hy
 split at hy
 case h_2=>cases hy
 rename_i els hels
 obtain rfl:=Option.some.inj hy
 have hv:VL (pcx w0 ok) [.lst .entry L,.i x0,.i lo,.i hi] args.toList:=hv
 refine (Zse (V:=vB) (rounds:=20) (depth:=6) (nt:=20) (gt:=15) (f:=189) (fn:=Tryz.f150) (A1:=ZaW c150) (A2:=ZaW (ZaW (Zax c150))) (B:=Zax (Zax c150)) (ps:=(Zce r150).2.1) (x:=(Zce r150).2.2.1) (y:=(Zce r150).2.2.2)
   (σ:=Int) (kds:=[5].zip vals150.kds) (enc:=vals150.enc) (dec:=vals150.dec) (step:=ZvZ) (par:=parB) (encE:=encB) (x0:=x0) (cs:=[.cptr [.lst .entry L] 0,.cptr [.i lo] 0,.cptr [.i hi] 0]) (els:=els) (st0:=x0) (stN:=els.foldl (fun _ (p:Int×Int)=>p.2) x0)
   (args:=[.lst .entry L,.i x0,.i lo,.i hi]) (rk:=(Zar (Zae .i64)).kds) (r:=.i (els.foldl (fun _ (p:Int×Int)=>p.2) x0))
   gB (by kernel_rfl) (by kernel_rfl) (by kernel_rfl) (by simp) (by omega) lawB (by rw [ZDj];simp) (fun e=>by kernel_rfl)
   vals150.law (fun st=>by kernel_rfl) (fun st e=>by kernel_rfl) (by kernel_rfl) entB
   (fun c u1 u3 u4 pb hvl hc hn=>ZBp hL hels c u1 u3 u4 pb hvl hc hn) (Zv8 els x0) (by kernel_rfl) hv).mono fun e w' he=>?_
 obtain ⟨u,h1,h2,h3⟩:=he
 exact ⟨u,h1,h2,h3⟩
def s152:Spec:=Zao (Zaa (Zap .entry) (Zaa (Zae .i64) (Zaa (Zae .i64) (Zad (Zae .i64))))) (Zar (Zap .int)) ZiC
def c152:Code:=Zg7 Tryz.prog 152
def vals152:Vals:=Zad (Zav (ZbA 3 .int))
def ZrO (st:List Int) (e:Int×Int):Option (List Int⊕Empty):=bif fewB (st.length+1) then some (.inl (st++[e.1])) else none
theorem Zv6:∀ (els:List (Int×Int)) (x:List Int),x.length+els.length<=4294967296->Zcq ZrO els x=some (.inl (x++els.map (·.1)))
 | [],x,_=>by simp [Zcq]
 | e :: els, x, h => by
   have hf:fewB (x.length+1)=true:=Nat.ble_eq_true_of_le (by simp at h;omega)
   simp only [Zcq,ZrO,hf,cond_true]
   rw [Zv6 els (x++[e.1]) (by simp at h ⊢;omega)]
   simp
def r152:Code:=cBlk (Zax (ZaW (Zax c152)))
theorem ZDI:(Zce r152).2.1=#[15,16]:=by kernel_rfl
theorem ZEi:Zan Tryz.prog 152 s152:=by
 intro w0 ok avs args (z:List Entry×Int×Int×Int) (y:List Int) hd hy hv
 have hd:=(Zaa (Zap .entry) (Zaa (Zae .i64) (Zaa (Zae .i64) (Zad (Zae .i64))))).law _ _ hd
 subst hd
 obtain ⟨L,x0,lo,hi⟩:=z
 have hy:Zfg L x0 lo hi=some y:=hy
 unfold Zfg at hy
 cases hL:fewB L.length with
 | false=>rw [hL] at hy;cases hy
 | true =>
 rw [hL] at hy
 simp only [cond_true] at hy
 split at hy
 case h_2=>cases hy
 rename_i els hels
 obtain rfl:=Option.some.inj hy
 have hlen:els.length<=4294967296:=by rw [ZiM hels];exact Nat.le_of_ble_eq_true hL
 have hv:VL (pcx w0 ok) [.lst .entry L,.i x0,.i lo,.i hi] args.toList:=hv
 refine (Zse (V:=vB) (rounds:=20) (depth:=6) (nt:=22) (gt:=14) (f:=189) (fn:=Tryz.f152) (A1:=ZaW c152) (A2:=ZaW (ZaW (Zax c152))) (B:=Zax (Zax c152)) (ps:=(Zce r152).2.1) (x:=(Zce r152).2.2.1) (y:=(Zce r152).2.2.2)
   (σ:=List Int) (kds:=[8].zip vals152.kds) (enc:=vals152.enc) (dec:=vals152.dec) (step:=ZrO) (par:=parB) (encE:=encB) (x0:=x0) (cs:=[.cptr [.lst .entry L] 0,.cptr [.i lo] 0,.cptr [.i hi] 0]) (els:=els) (st0:=([]:List Int)) (stN:=els.map (·.1))
   (args:=[.lst .entry L,.i x0,.i lo,.i hi]) (rk:=(Zar (Zap .int)).kds) (r:=.lst .int (els.map (·.1)))
   gB (by kernel_rfl) (by kernel_rfl) (by kernel_rfl) (by simp) (by omega) lawB (by rw [ZDI];simp) (fun e=>by kernel_rfl)
   vals152.law (fun st=>by kernel_rfl) (fun st e=>by kernel_rfl) (by kernel_rfl) entB
   (fun c u1 u3 u4 pb hvl hc hn=>ZBp hL hels c u1 u3 u4 pb hvl hc hn) (by have h:=Zv6 els [] (by simpa using hlen);rw [List.nil_append] at h;exact h) (by kernel_rfl) hv).mono fun e w' he=>?_
 obtain ⟨u,h1,h2,h3⟩:=he
 exact ⟨u,h1,h2,h3⟩
end Go.Proofs.Mill
