/- What the program's own iterators hand over. -/
import Derived.Test.YtaopdopnecognaaGreatMillAll8
import Derived.Test.YtaopdopnecognaaGreatMillOkIb
import Derived.Test.YtaopdopnecognaaGreatMillFIb
set_option linter.all false
set_option maxRecDepth 100000
noncomputable section
namespace Go.Proofs.Mill
def ZsJ:Env:=env1 [(89,s89)]
theorem gitReplay:Zai ZsJ:=Zal mix1 ent1 (Zab ok89 rfl Zah)
def Zsz:Code:=Zg7 Tryz.prog 108
def Zlo:Code:=ZoC (cBlk (Zax Zsz))
def Zlp:Code:=cBlk (ZaW (Zax (Zax Zlo)))
theorem Zw8:Zl8 Tryz.prog itReplay:=by
 intro q hq
 obtain ⟨L,k⟩:=q
 have hL:L.length<=4294967296:=Nat.le_of_ble_eq_true (show Nat.ble L.length 4294967296=true from hq)
 refine ⟨108,[.cptr [.lst .mark L] 0,.cptr [.fn 89 [.cptr [.int .i64 k] 0]] 0],rfl,gitReplay.2.2.1 108 (by kernel_rfl),fun c lb hv=>?_⟩
 refine Zov (V:=ZsJ) gitReplay (f:=108) (fn:=Tryz.f108) (nt:=22) (rounds:=20) (depth:=6) (id0:=0) (id3:=3) (ops0:=cOps (ZaW Zsz)) (ops3:=cOps (ZaW (Zax Zlp))) (R1:=ZaW Zlo) (K1:=ZaW (Zax Zlo))
   (R2:=ZaW Zlp) (K2:=Zax (Zax Zlp)) (R4:=Zax (Zax (Zax Zlo))) (enc:=itReplay.enc) (els:=L) (p:=fun x=>(fun k (x:Mark)=>x.item == k) k x) (argOf:=fun x=>.agg ((.mark:Ty).encA x))
   (q2:=.cptr [.fn 89 [.cptr [.int .i64 k] 0]] 0) (qL:=.lst .mark L) (cl:=Ztm ((cOps (ZaW (Zax Zlp))).toList.getD 6 default))
   (by kernel_rfl) (by kernel_rfl) (by kernel_rfl) (by omega) rfl (by kernel_rfl) rfl rfl (fun yv=>by kernel_rfl) (fun yv i=>?_) (fun yv i b hi=>?_) (by kernel_rfl) (by kernel_rfl) (by kernel_rfl) (by kernel_rfl) (by kernel_rfl) (by kernel_rfl) (by kernel_rfl)
   (fun c x u hu=>ZlG (cs:=(.mark:Ty).encA x) rfl hu) hv rfl
 . refine Eq.trans ?_ (ZpD (L:=L) (d:=(.mark:Ty).dflt) (i:=i) (p:=fun x=>(fun k (x:Mark)=>x.item == k) k x) (fn:=fun x=>s89.fn (x,k)) ?_ hL
     (A:=fun x=>(true,[.bool true,.cst yv,.cptr [.fn 89 [.cptr [.int .i64 k] 0]] 0,.lst .mark L,.i L.length,.i (i:Int),.cst yv,.agg ((.mark:Ty).encA x)]))
     (B:=fun _=>(false,[.cst yv,.cptr [.fn 89 [.cptr [.int .i64 k] 0]] 0,.lst .mark L,.i L.length,.i (Zac .i64 ((i:Int)+1))]))
     (A':=(false,[])) (B':=(false,[.cst yv,.cptr [.fn 89 [.cptr [.int .i64 k] 0]] 0,.lst .mark L,.i L.length,.i ((i+1:Nat):Int)])) (fun x hx=>?_) (fun x hx hw=>by rw [hw]))
   . show _=_;kernel_rfl
   . intro x
     first
     | rfl
     | exact ZrH (x.t == k) _
   . have hg:L.getD (i:Int).toNat (.mark:Ty).dflt=x:=by rw [Int.toNat_natCast,List.getD_eq_getElem?_getD,hx,Option.getD_some]
     simp only [hg]
 . have hw:Zac .i64 ((i:Int)+1)=((i+1:Nat):Int):=ZkN (by have hi':i<L.length:=hi;omega)
   rw [<- hw]
   cases b with
   | true=>rw [if_pos rfl];show _=_;kernel_rfl
   | false=>rw [if_neg (by simp)];show _=_;kernel_rfl
def Zza:Env:=env1 [(96,s96)]
theorem gitOwn:Zai Zza:=Zal mix1 ent1 (Zab ok96 rfl Zah)
def ZyD:Code:=Zg7 Tryz.prog 108
def Zq2:Code:=ZoC (cBlk (Zax ZyD))
def Zqm:Code:=cBlk (ZaW (Zax (Zax Zq2)))
theorem ZB0:Zl8 Tryz.prog itOwn:=by
 intro q hq
 obtain ⟨L,k⟩:=q
 have hL:L.length<=4294967296:=Nat.le_of_ble_eq_true (show Nat.ble L.length 4294967296=true from hq)
 refine ⟨108,[.cptr [.lst .mark L] 0,.cptr [.fn 96 [.cptr [.int .i64 k] 0]] 0],rfl,gitOwn.2.2.1 108 (by kernel_rfl),fun c lb hv=>?_⟩
 refine Zov (V:=Zza) gitOwn (f:=108) (fn:=Tryz.f108) (nt:=22) (rounds:=20) (depth:=6) (id0:=0) (id3:=3) (ops0:=cOps (ZaW ZyD)) (ops3:=cOps (ZaW (Zax Zqm))) (R1:=ZaW Zq2) (K1:=ZaW (Zax Zq2))
   (R2:=ZaW Zqm) (K2:=Zax (Zax Zqm)) (R4:=Zax (Zax (Zax Zq2))) (enc:=itOwn.enc) (els:=L) (p:=fun x=>(fun k (x:Mark)=>x.t == k) k x) (argOf:=fun x=>.agg ((.mark:Ty).encA x))
   (q2:=.cptr [.fn 96 [.cptr [.int .i64 k] 0]] 0) (qL:=.lst .mark L) (cl:=Ztm ((cOps (ZaW (Zax Zqm))).toList.getD 6 default))
   (by kernel_rfl) (by kernel_rfl) (by kernel_rfl) (by omega) rfl (by kernel_rfl) rfl rfl (fun yv=>by kernel_rfl) (fun yv i=>?_) (fun yv i b hi=>?_) (by kernel_rfl) (by kernel_rfl) (by kernel_rfl) (by kernel_rfl) (by kernel_rfl) (by kernel_rfl) (by kernel_rfl)
   (fun c x u hu=>ZlG (cs:=(.mark:Ty).encA x) rfl hu) hv rfl
 . refine Eq.trans ?_ (ZpD (L:=L) (d:=(.mark:Ty).dflt) (i:=i) (p:=fun x=>(fun k (x:Mark)=>x.t == k) k x) (fn:=fun x=>s96.fn (x,k)) ?_ hL
     (A:=fun x=>(true,[.bool true,.cst yv,.cptr [.fn 96 [.cptr [.int .i64 k] 0]] 0,.lst .mark L,.i L.length,.i (i:Int),.cst yv,.agg ((.mark:Ty).encA x)]))
     (B:=fun _=>(false,[.cst yv,.cptr [.fn 96 [.cptr [.int .i64 k] 0]] 0,.lst .mark L,.i L.length,.i (Zac .i64 ((i:Int)+1))]))
     (A':=(false,[])) (B':=(false,[.cst yv,.cptr [.fn 96 [.cptr [.int .i64 k] 0]] 0,.lst .mark L,.i L.length,.i ((i+1:Nat):Int)])) (fun x hx=>?_) (fun x hx hw=>by rw [hw]))
   . show _=_;kernel_rfl
   . intro x
     first
     | rfl
     | exact ZrH (x.t == k) _
   . have hg:L.getD (i:Int).toNat (.mark:Ty).dflt=x:=by rw [Int.toNat_natCast,List.getD_eq_getElem?_getD,hx,Option.getD_some]
     simp only [hg]
 . have hw:Zac .i64 ((i:Int)+1)=((i+1:Nat):Int):=ZkN (by have hi':i<L.length:=hi;omega)
   rw [<- hw]
   cases b with
   | true=>rw [if_pos rfl];show _=_;kernel_rfl
   | false=>rw [if_neg (by simp)];show _=_;kernel_rfl
def ZrV:Env:=env1 [(79,s79)]
theorem gitEvents:Zai ZrV:=Zal mix1 ent1 (Zab ok79 rfl Zah)
def Zsg:Code:=Zg7 Tryz.prog 102
def Zle:Code:=ZoC (cBlk (Zax Zsg))
def Zlv:Code:=cBlk (ZaW (Zax (Zax Zle)))
theorem ZqJ:Zl8 Tryz.prog itEvents:=by
 intro q hq
 obtain ⟨L,k⟩:=q
 have hL:L.length<=4294967296:=Nat.le_of_ble_eq_true (show Nat.ble L.length 4294967296=true from hq)
 refine ⟨102,[.cptr [.lst .event L] 0,.cptr [.fn 79 [.cptr [.int .i64 k] 0]] 0],rfl,gitEvents.2.2.1 102 (by kernel_rfl),fun c lb hv=>?_⟩
 refine Zov (V:=ZrV) gitEvents (f:=102) (fn:=Tryz.f102) (nt:=22) (rounds:=20) (depth:=6) (id0:=0) (id3:=3) (ops0:=cOps (ZaW Zsg)) (ops3:=cOps (ZaW (Zax Zlv))) (R1:=ZaW Zle) (K1:=ZaW (Zax Zle))
   (R2:=ZaW Zlv) (K2:=Zax (Zax Zlv)) (R4:=Zax (Zax (Zax Zle))) (enc:=itEvents.enc) (els:=L) (p:=fun x=>(fun k (x:Event)=>x.t == k && x.kind != 3) k x) (argOf:=fun x=>.agg ((.event:Ty).encA x))
   (q2:=.cptr [.fn 79 [.cptr [.int .i64 k] 0]] 0) (qL:=.lst .event L) (cl:=Ztm ((cOps (ZaW (Zax Zlv))).toList.getD 6 default))
   (by kernel_rfl) (by kernel_rfl) (by kernel_rfl) (by omega) rfl (by kernel_rfl) rfl rfl (fun yv=>by kernel_rfl) (fun yv i=>?_) (fun yv i b hi=>?_) (by kernel_rfl) (by kernel_rfl) (by kernel_rfl) (by kernel_rfl) (by kernel_rfl) (by kernel_rfl) (by kernel_rfl)
   (fun c x u hu=>ZlG (cs:=(.event:Ty).encA x) rfl hu) hv rfl
 . refine Eq.trans ?_ (ZpD (L:=L) (d:=(.event:Ty).dflt) (i:=i) (p:=fun x=>(fun k (x:Event)=>x.t == k && x.kind != 3) k x) (fn:=fun x=>s79.fn (x,k)) ?_ hL
     (A:=fun x=>(true,[.bool true,.cst yv,.cptr [.fn 79 [.cptr [.int .i64 k] 0]] 0,.lst .event L,.i L.length,.i (i:Int),.cst yv,.agg ((.event:Ty).encA x)]))
     (B:=fun _=>(false,[.cst yv,.cptr [.fn 79 [.cptr [.int .i64 k] 0]] 0,.lst .event L,.i L.length,.i (Zac .i64 ((i:Int)+1))]))
     (A':=(false,[])) (B':=(false,[.cst yv,.cptr [.fn 79 [.cptr [.int .i64 k] 0]] 0,.lst .event L,.i L.length,.i ((i+1:Nat):Int)])) (fun x hx=>?_) (fun x hx hw=>by rw [hw]))
   . show _=_;kernel_rfl
   . intro x
     first
     | rfl
     | exact ZrH (x.t == k) _
   . have hg:L.getD (i:Int).toNat (.event:Ty).dflt=x:=by rw [Int.toNat_natCast,List.getD_eq_getElem?_getD,hx,Option.getD_some]
     simp only [hg]
 . have hw:Zac .i64 ((i:Int)+1)=((i+1:Nat):Int):=ZkN (by have hi':i<L.length:=hi;omega)
   rw [<- hw]
   cases b with
   | true=>rw [if_pos rfl];show _=_;kernel_rfl
   | false=>rw [if_neg (by simp)];show _=_;kernel_rfl
end Go.Proofs.Mill
