/- batch.All and batch.Priors: loops over batch.cells. -/
import Derived.Test.YtecgogmolkjhjaaGreatMillOkA
import Derived.Test.YtecgogmolkjhjaaGreatMillFT2
import Derived.Test.YtecgogmolkjhjaaGreatMillPrivFn
set_option linter.all false
set_option maxRecDepth 100000
noncomputable section
namespace Go.Proofs.Mill
open Go.RowKit
def vB:Env:=env1 [(168,s168)]
theorem gB:Zaj vB:=Zan mix1 ent1 (Zab ZC1 rfl Zag)
def bB:Code:=Znc Tryz.prog 225
def lB:Code:=ZyK (cBlk (ZaU bB))
def yB:Code:=cBlk (Zbw (ZaU (ZaU lB)))
def rB:Code:=Zbw (ZaU (ZaU yB))
theorem ZzY {L:List Entry} {i:Nat} {lo hi x:Int} (hL:L.length<=4294967296) {R:Int->Bool×List AV×AV} {A':Bool×List AV×AV} :
   (bif decide ((i:Int)<(L.length:Int)) then (bif decide ((i:Int)<(L.length:Int)) then
     (match ZeA ((L.getD (i:Int).toNat (⟨0,⟨0,0⟩⟩:Entry)).op,x,lo,hi) with | some y=>some (R y.1) | none=>none) else none) else some A') =
   match L[i]? with
   | none=>some A'
   | some e => match apC lo hi e x with
     | some y=>some (R y)
     | none=>none:=by
 by_cases h:i<L.length
 . have hx:L[i]?=some (L[i]'h):=List.getElem?_eq_getElem h
   have hg:L.getD (i:Int).toNat (⟨0,⟨0,0⟩⟩:Entry)=L[i]'h:=by rw [Int.toNat_natCast,List.getD_eq_getElem?_getD,hx,Option.getD_some]
   have e1:decide ((i:Int)<(L.length:Int))=true:=decide_eq_true (by omega)
   rw [e1,hx]
   simp only [cond_true]
   rw [hg]
   unfold apC
   cases ZeA ((L[i]'h).op,x,lo,hi) <;> rfl
 . have hx:L[i]?=none:=List.getElem?_eq_none (by omega)
   have e1:decide ((i:Int)<(L.length:Int))=false:=decide_eq_false (by omega)
   rw [e1,hx]
   rfl
theorem ZDi {L:List Entry} {x0 lo hi:Int} {els:List (Int×Int)} (hL:fewB L.length=true) (hels:cellsOf (apC lo hi) L x0=some els) (c:Cx) (u1 u3 u4:Value) (pb:Nat)
   (hv:VL c [.cptr [.lst .entry L] 0,.cptr [.i lo] 0,.cptr [.i hi] 0] [u1,u3,u4]) (hc:∃ e,c.w.heap[pb]?=some (.cells #[.int .i64 x0] e (0,0))) (hn:¬c.okb pb) :
   ZpI Tryz.prog 225 #[u1,.pointer (some ⟨pb,0,none⟩),u3,u4] (els.map fun p=>#[.int .i64 p.1,.int .i64 p.2]) c.okb pb c.w:=by
 have hL':L.length<=4294967296:=Nat.le_of_ble_eq_true hL
 refine ZzJ (V:=vB) gB (f:=225) (fn:=Tryz.f225) (nt:=32) (rounds:=20) (depth:=6) (id0:=0) (id4:=4) (ops0:=cOps (Zbw bB)) (ops4:=cOps (Zbw rB)) (R1:=Zbw lB) (K1:=Zbw (ZaU lB)) (R2:=Zbw yB) (R3:=Zbw (ZaU yB))
   (K2:=ZaU rB) (R5:=ZaU (ZaU (ZaU yB))) (R6:=ZaU (ZaU (ZaU lB))) (ap:=apC lo hi) (L:=L) (x0:=x0) (lo:=lo) (hi:=hi) (cl:=ZFK ((cOps (Zbw rB)).toList.getD 3 default))
   (by kernel_rfl) (by kernel_rfl) (by kernel_rfl) (by omega) (by kernel_rfl) hels (fun yv x=>by kernel_rfl) (fun yv x i=>?_) (fun yv x y i hi=>?_) (by kernel_rfl) (by kernel_rfl) (by kernel_rfl) (by kernel_rfl) (by kernel_rfl) (by kernel_rfl)
   hv.1 hv.2.1 hv.2.2.1 hc hn
 . refine Eq.trans ?_ (ZzY (L:=L) (i:=i) (lo:=lo) (hi:=hi) (x:=x) hL' (A':=(false,[.ptr 1 0],.box [.i x]))
     (R:=fun y=>(true,[.cst yv,.i x,.i y,.i y,.ptr 1 0,.cst yv,.cptr [.i lo] 0,.cptr [.i hi] 0,.lst .entry L,.i L.length,.i (i:Int)],.box [.i x])))
   show _=_
   kernel_rfl
 . have hw:Zaf .i64 ((i:Int)+1)=((i+1:Nat):Int):=ZCz (by omega)
   rw [<- hw]
   show _=_
   kernel_rfl
def parB (p:Int×Int):List AV:=[.i p.1,.i p.2]
def encB (p:Int×Int):Array Value:=#[.int .i64 p.1,.int .i64 p.2]
theorem lawB (c:Cx) (p:Int×Int):VL c (parB p) (encB p).toList:=⟨rfl,rfl,trivial⟩
theorem entB:Ze5 Tryz.prog 225:=gB.2.2.1 225 (by kernel_rfl)
def s143:Spec:=Zas (Zaa (Zax .entry) (Zaa (Zad .i64) (Zaa (Zad .i64) (Zac (Zad .i64))))) (Zav (Zad .i64)) Zfc
def c143:Code:=Znc Tryz.prog 143
def vals143:Vals:=Zac (Zak (Zao .i64))
def ZxS (st:Int) (e:Int×Int):Option (Int⊕Empty):=some (.inl e.2)
theorem Zyg:∀ (els:List (Int×Int)) (x:Int),Zi5 ZxS els x=some (.inl (els.foldl (fun _ p=>p.2) x))
 | [],_=>rfl
 | e::els,x=>Zyg els e.2
def r143:Code:=cBlk (ZaU (Zbw (ZaU c143)))
theorem ZGx:(Ziq r143).2.1=#[16,17]:=by kernel_rfl
theorem ZDu:Zar Tryz.prog 143 s143:=by
 intro w0 ok avs args (z:List Entry×Int×Int×Int) (y:Int) hd hy hv
 have hd:=(Zaa (Zax .entry) (Zaa (Zad .i64) (Zaa (Zad .i64) (Zac (Zad .i64))))).law _ _ hd
 subst hd
 obtain ⟨L,x0,lo,hi⟩:=z
 have hy:ZhB L x0 lo hi=some y:=hy
 unfold ZhB at hy
 cases hL:fewB L.length with
 | false=>rw [hL] at hy;cases hy
 | true =>
 rw [hL] at hy
 simp only [cond_true] at hy
 split at hy
 case h_2=>cases hy
 rename_i els hels
 obtain rfl:=Option.some.inj hy
 have hv:VL (pcx w0 ok) [.lst .entry L,.i x0,.i lo,.i hi] args.toList:=hv
 refine (ZuQ (V:=vB) (rounds:=20) (depth:=6) (nt:=20) (gt:=15) (f:=225) (fn:=Tryz.f143) (A1:=Zbw c143) (A2:=Zbw (Zbw (ZaU c143))) (B:=ZaU (ZaU c143)) (ps:=(Ziq r143).2.1) (x:=(Ziq r143).2.2.1) (y:=(Ziq r143).2.2.2)
   (σ:=Int) (kds:=[5].zip vals143.kds) (enc:=vals143.enc) (dec:=vals143.dec) (step:=ZxS) (par:=parB) (encE:=encB) (x0:=x0) (cs:=[.cptr [.lst .entry L] 0,.cptr [.i lo] 0,.cptr [.i hi] 0]) (els:=els) (st0:=x0) (stN:=els.foldl (fun _ (p:Int×Int)=>p.2) x0)
   (args:=[.lst .entry L,.i x0,.i lo,.i hi]) (rk:=(Zav (Zad .i64)).kds) (r:=.i (els.foldl (fun _ (p:Int×Int)=>p.2) x0))
   gB (by kernel_rfl) (by kernel_rfl) (by kernel_rfl) (by simp) (by omega) lawB (by rw [ZGx];simp) (fun e=>by kernel_rfl)
   vals143.law (fun st=>by kernel_rfl) (fun st e=>by kernel_rfl) (by kernel_rfl) entB
   (fun c u1 u3 u4 pb hvl hc hn=>ZDi hL hels c u1 u3 u4 pb hvl hc hn) (Zyg els x0) (by kernel_rfl) hv).mono fun e w' he=>?_
 obtain ⟨u,h1,h2,h3⟩:=he
 exact ⟨u,h1,h2,h3⟩
def s145:Spec:=Zas (Zaa (Zax .entry) (Zaa (Zad .i64) (Zaa (Zad .i64) (Zac (Zad .i64))))) (Zav (Zax .int)) Zke
def c145:Code:=Znc Tryz.prog 145
def vals145:Vals:=Zac (Zak (ZaL 3 .int))
def Zt7 (st:List Int) (e:Int×Int):Option (List Int⊕Empty):=bif fewB (st.length+1) then some (.inl (st++[e.1])) else none
theorem Zx4:∀ (els:List (Int×Int)) (x:List Int),x.length+els.length<=4294967296->Zi5 Zt7 els x=some (.inl (x++els.map (·.1)))
 | [],x,_=>by simp [Zi5]
 | e :: els, x, h => by
   have hf:fewB (x.length+1)=true:=Nat.ble_eq_true_of_le (by simp at h;omega)
   simp only [Zi5,Zt7,hf,cond_true]
   rw [Zx4 els (x++[e.1]) (by simp at h ⊢;omega)]
   simp
def r145:Code:=cBlk (ZaU (Zbw (ZaU c145)))
theorem ZGM:(Ziq r145).2.1=#[15,16]:=by kernel_rfl
theorem ZF6:Zar Tryz.prog 145 s145:=by
 intro w0 ok avs args (z:List Entry×Int×Int×Int) (y:List Int) hd hy hv
 have hd:=(Zaa (Zax .entry) (Zaa (Zad .i64) (Zaa (Zad .i64) (Zac (Zad .i64))))).law _ _ hd
 subst hd
 obtain ⟨L,x0,lo,hi⟩:=z
 have hy:ZfB L x0 lo hi=some y:=hy
 unfold ZfB at hy
 cases hL:fewB L.length with
 | false=>rw [hL] at hy;cases hy
 | true =>
 rw [hL] at hy
 simp only [cond_true] at hy
 split at hy
 case h_2=>cases hy
 rename_i els hels
 obtain rfl:=Option.some.inj hy
 have hlen:els.length<=4294967296:=by rw [ZjU hels];exact Nat.le_of_ble_eq_true hL
 have hv:VL (pcx w0 ok) [.lst .entry L,.i x0,.i lo,.i hi] args.toList:=hv
 refine (ZuQ (V:=vB) (rounds:=20) (depth:=6) (nt:=22) (gt:=14) (f:=225) (fn:=Tryz.f145) (A1:=Zbw c145) (A2:=Zbw (Zbw (ZaU c145))) (B:=ZaU (ZaU c145)) (ps:=(Ziq r145).2.1) (x:=(Ziq r145).2.2.1) (y:=(Ziq r145).2.2.2)
   (σ:=List Int) (kds:=[8].zip vals145.kds) (enc:=vals145.enc) (dec:=vals145.dec) (step:=Zt7) (par:=parB) (encE:=encB) (x0:=x0) (cs:=[.cptr [.lst .entry L] 0,.cptr [.i lo] 0,.cptr [.i hi] 0]) (els:=els) (st0:=([]:List Int)) (stN:=els.map (·.1))
   (args:=[.lst .entry L,.i x0,.i lo,.i hi]) (rk:=(Zav (Zax .int)).kds) (r:=.lst .int (els.map (·.1)))
   gB (by kernel_rfl) (by kernel_rfl) (by kernel_rfl) (by simp) (by omega) lawB (by rw [ZGM];simp) (fun e=>by kernel_rfl)
   vals145.law (fun st=>by kernel_rfl) (fun st e=>by kernel_rfl) (by kernel_rfl) entB
   (fun c u1 u3 u4 pb hvl hc hn=>ZDi hL hels c u1 u3 u4 pb hvl hc hn) (by have h:=Zx4 els [] (by simpa using hlen);rw [List.nil_append] at h;exact h) (by kernel_rfl) hv).mono fun e w' he=>?_
 obtain ⟨u,h1,h2,h3⟩:=he
 exact ⟨u,h1,h2,h3⟩
end Go.Proofs.Mill
