/- What the program's own iterators hand over. -/
import Derived.Test.YtaopdopnecognaaGreatMillAll8
import Derived.Test.YtaopdopnecognaaGreatMillOkIb
import Derived.Test.YtaopdopnecognaaGreatMillFIb
set_option linter.all false
set_option maxRecDepth 100000
noncomputable section
namespace Go.Proofs.Mill
def Zse:Env:=env1 [(89,s89)]
theorem gitReplay:Zai Zse:=Zal mix1 ent1 (Zab ok89 rfl Zah)
def Zsj:Code:=ZgQ Tryz.prog 108
def Zle:Code:=ZoG (cBlk (Zaz Zsj))
def Zlr:Code:=cBlk (ZaX (Zaz (Zaz Zle)))
theorem Zw6:ZlP Tryz.prog itReplay:=by
 intro q hq
 obtain ⟨L,k⟩:=q
 have hL:L.length<=4294967296:=Nat.le_of_ble_eq_true (show Nat.ble L.length 4294967296=true from hq)
 refine ⟨108,[.cptr [.lst .mark L] 0,.cptr [.fn 89 [.cptr [.int .i64 k] 0]] 0],rfl,gitReplay.2.2.1 108 (by kernel_rfl),fun c lb hv=>?_⟩
 refine Zoi (V:=Zse) gitReplay (f:=108) (fn:=Tryz.f108) (nt:=22) (rounds:=20) (depth:=6) (id0:=0) (id3:=3) (ops0:=cOps (ZaX Zsj)) (ops3:=cOps (ZaX (Zaz Zlr))) (R1:=ZaX Zle) (K1:=ZaX (Zaz Zle))
   (R2:=ZaX Zlr) (K2:=Zaz (Zaz Zlr)) (R4:=Zaz (Zaz (Zaz Zle))) (enc:=itReplay.enc) (els:=L) (p:=fun x=>(fun k (x:Mark)=>x.item == k) k x) (argOf:=fun x=>.agg ((.mark:Ty).encA x))
   (q2:=.cptr [.fn 89 [.cptr [.int .i64 k] 0]] 0) (qL:=.lst .mark L) (cl:=Zs2 ((cOps (ZaX (Zaz Zlr))).toList.getD 6 default))
   (by kernel_rfl) (by kernel_rfl) (by kernel_rfl) (by omega) rfl (by kernel_rfl) rfl rfl (fun yv=>by kernel_rfl) (fun yv i=>?_) (fun yv i b hi=>?_) (by kernel_rfl) (by kernel_rfl) (by kernel_rfl) (by kernel_rfl) (by kernel_rfl) (by kernel_rfl) (by kernel_rfl)
   (fun c x u hu=>ZlH (cs:=(.mark:Ty).encA x) rfl hu) hv rfl
 . refine Eq.trans ?_ (ZpG (L:=L) (d:=(.mark:Ty).dflt) (i:=i) (p:=fun x=>(fun k (x:Mark)=>x.item == k) k x) (fn:=fun x=>s89.fn (x,k)) ?_ hL
     (A:=fun x=>(true,[.bool true,.cst yv,.cptr [.fn 89 [.cptr [.int .i64 k] 0]] 0,.lst .mark L,.i L.length,.i (i:Int),.cst yv,.agg ((.mark:Ty).encA x)]))
     (B:=fun _=>(false,[.cst yv,.cptr [.fn 89 [.cptr [.int .i64 k] 0]] 0,.lst .mark L,.i L.length,.i (Zad .i64 ((i:Int)+1))]))
     (A':=(false,[])) (B':=(false,[.cst yv,.cptr [.fn 89 [.cptr [.int .i64 k] 0]] 0,.lst .mark L,.i L.length,.i ((i+1:Nat):Int)])) (fun x hx=>?_) (fun x hx hw=>by rw [hw]))
   . show _=_;kernel_rfl
   . intro x
     first
     | rfl
     | exact Zrl (x.t == k) _
   . have hg:L.getD (i:Int).toNat (.mark:Ty).dflt=x:=by rw [Int.toNat_natCast,List.getD_eq_getElem?_getD,hx,Option.getD_some]
     simp only [hg]
 . have hw:Zad .i64 ((i:Int)+1)=((i+1:Nat):Int):=Zkm (by have hi':i<L.length:=hi;omega)
   rw [<- hw]
   cases b with
   | true=>rw [if_pos rfl];show _=_;kernel_rfl
   | false=>rw [if_neg (by simp)];show _=_;kernel_rfl
def ZxO:Env:=env1 [(96,s96)]
theorem gitOwn:Zai ZxO:=Zal mix1 ent1 (Zab ok96 rfl Zah)
def Zyv:Code:=ZgQ Tryz.prog 108
def Zp6:Code:=ZoG (cBlk (Zaz Zyv))
def Zqu:Code:=cBlk (ZaX (Zaz (Zaz Zp6)))
theorem ZB2:ZlP Tryz.prog itOwn:=by
 intro q hq
 obtain ⟨L,k⟩:=q
 have hL:L.length<=4294967296:=Nat.le_of_ble_eq_true (show Nat.ble L.length 4294967296=true from hq)
 refine ⟨108,[.cptr [.lst .mark L] 0,.cptr [.fn 96 [.cptr [.int .i64 k] 0]] 0],rfl,gitOwn.2.2.1 108 (by kernel_rfl),fun c lb hv=>?_⟩
 refine Zoi (V:=ZxO) gitOwn (f:=108) (fn:=Tryz.f108) (nt:=22) (rounds:=20) (depth:=6) (id0:=0) (id3:=3) (ops0:=cOps (ZaX Zyv)) (ops3:=cOps (ZaX (Zaz Zqu))) (R1:=ZaX Zp6) (K1:=ZaX (Zaz Zp6))
   (R2:=ZaX Zqu) (K2:=Zaz (Zaz Zqu)) (R4:=Zaz (Zaz (Zaz Zp6))) (enc:=itOwn.enc) (els:=L) (p:=fun x=>(fun k (x:Mark)=>x.t == k) k x) (argOf:=fun x=>.agg ((.mark:Ty).encA x))
   (q2:=.cptr [.fn 96 [.cptr [.int .i64 k] 0]] 0) (qL:=.lst .mark L) (cl:=Zs2 ((cOps (ZaX (Zaz Zqu))).toList.getD 6 default))
   (by kernel_rfl) (by kernel_rfl) (by kernel_rfl) (by omega) rfl (by kernel_rfl) rfl rfl (fun yv=>by kernel_rfl) (fun yv i=>?_) (fun yv i b hi=>?_) (by kernel_rfl) (by kernel_rfl) (by kernel_rfl) (by kernel_rfl) (by kernel_rfl) (by kernel_rfl) (by kernel_rfl)
   (fun c x u hu=>ZlH (cs:=(.mark:Ty).encA x) rfl hu) hv rfl
 . refine Eq.trans ?_ (ZpG (L:=L) (d:=(.mark:Ty).dflt) (i:=i) (p:=fun x=>(fun k (x:Mark)=>x.t == k) k x) (fn:=fun x=>s96.fn (x,k)) ?_ hL
     (A:=fun x=>(true,[.bool true,.cst yv,.cptr [.fn 96 [.cptr [.int .i64 k] 0]] 0,.lst .mark L,.i L.length,.i (i:Int),.cst yv,.agg ((.mark:Ty).encA x)]))
     (B:=fun _=>(false,[.cst yv,.cptr [.fn 96 [.cptr [.int .i64 k] 0]] 0,.lst .mark L,.i L.length,.i (Zad .i64 ((i:Int)+1))]))
     (A':=(false,[])) (B':=(false,[.cst yv,.cptr [.fn 96 [.cptr [.int .i64 k] 0]] 0,.lst .mark L,.i L.length,.i ((i+1:Nat):Int)])) (fun x hx=>?_) (fun x hx hw=>by rw [hw]))
   . show _=_;kernel_rfl
   . intro x
     first
     | rfl
     | exact Zrl (x.t == k) _
   . have hg:L.getD (i:Int).toNat (.mark:Ty).dflt=x:=by rw [Int.toNat_natCast,List.getD_eq_getElem?_getD,hx,Option.getD_some]
     simp only [hg]
 . have hw:Zad .i64 ((i:Int)+1)=((i+1:Nat):Int):=Zkm (by have hi':i<L.length:=hi;omega)
   rw [<- hw]
   cases b with
   | true=>rw [if_pos rfl];show _=_;kernel_rfl
   | false=>rw [if_neg (by simp)];show _=_;kernel_rfl
def Zsf:Env:=env1 [(79,s79)]
theorem gitEvents:Zai Zsf:=Zal mix1 ent1 (Zab ok79 rfl Zah)
def Zsx:Code:=ZgQ Tryz.prog 102
def Zlo:Code:=ZoG (cBlk (Zaz Zsx))
def Zlk:Code:=cBlk (ZaX (Zaz (Zaz Zlo)))
theorem Zp7:ZlP Tryz.prog itEvents:=by
 intro q hq
 obtain ⟨L,k⟩:=q
 have hL:L.length<=4294967296:=Nat.le_of_ble_eq_true (show Nat.ble L.length 4294967296=true from hq)
 refine ⟨102,[.cptr [.lst .event L] 0,.cptr [.fn 79 [.cptr [.int .i64 k] 0]] 0],rfl,gitEvents.2.2.1 102 (by kernel_rfl),fun c lb hv=>?_⟩
 refine Zoi (V:=Zsf) gitEvents (f:=102) (fn:=Tryz.f102) (nt:=22) (rounds:=20) (depth:=6) (id0:=0) (id3:=3) (ops0:=cOps (ZaX Zsx)) (ops3:=cOps (ZaX (Zaz Zlk))) (R1:=ZaX Zlo) (K1:=ZaX (Zaz Zlo))
   (R2:=ZaX Zlk) (K2:=Zaz (Zaz Zlk)) (R4:=Zaz (Zaz (Zaz Zlo))) (enc:=itEvents.enc) (els:=L) (p:=fun x=>(fun k (x:Event)=>x.t == k && x.kind != 3) k x) (argOf:=fun x=>.agg ((.event:Ty).encA x))
   (q2:=.cptr [.fn 79 [.cptr [.int .i64 k] 0]] 0) (qL:=.lst .event L) (cl:=Zs2 ((cOps (ZaX (Zaz Zlk))).toList.getD 6 default))
   (by kernel_rfl) (by kernel_rfl) (by kernel_rfl) (by omega) rfl (by kernel_rfl) rfl rfl (fun yv=>by kernel_rfl) (fun yv i=>?_) (fun yv i b hi=>?_) (by kernel_rfl) (by kernel_rfl) (by kernel_rfl) (by kernel_rfl) (by kernel_rfl) (by kernel_rfl) (by kernel_rfl)
   (fun c x u hu=>ZlH (cs:=(.event:Ty).encA x) rfl hu) hv rfl
 . refine Eq.trans ?_ (ZpG (L:=L) (d:=(.event:Ty).dflt) (i:=i) (p:=fun x=>(fun k (x:Event)=>x.t == k && x.kind != 3) k x) (fn:=fun x=>s79.fn (x,k)) ?_ hL
     (A:=fun x=>(true,[.bool true,.cst yv,.cptr [.fn 79 [.cptr [.int .i64 k] 0]] 0,.lst .event L,.i L.length,.i (i:Int),.cst yv,.agg ((.event:Ty).encA x)]))
     (B:=fun _=>(false,[.cst yv,.cptr [.fn 79 [.cptr [.int .i64 k] 0]] 0,.lst .event L,.i L.length,.i (Zad .i64 ((i:Int)+1))]))
     (A':=(false,[])) (B':=(false,[.cst yv,.cptr [.fn 79 [.cptr [.int .i64 k] 0]] 0,.lst .event L,.i L.length,.i ((i+1:Nat):Int)])) (fun x hx=>?_) (fun x hx hw=>by rw [hw]))
   . show _=_;kernel_rfl
   . intro x
     first
     | rfl
     | exact Zrl (x.t == k) _
   . have hg:L.getD (i:Int).toNat (.event:Ty).dflt=x:=by rw [Int.toNat_natCast,List.getD_eq_getElem?_getD,hx,Option.getD_some]
     simp only [hg]
 . have hw:Zad .i64 ((i:Int)+1)=((i+1:Nat):Int):=Zkm (by have hi':i<L.length:=hi;omega)
   rw [<- hw]
   cases b with
   | true=>rw [if_pos rfl];show _=_;kernel_rfl
   | false=>rw [if_neg (by simp)];show _=_;kernel_rfl
end Go.Proofs.Mill
