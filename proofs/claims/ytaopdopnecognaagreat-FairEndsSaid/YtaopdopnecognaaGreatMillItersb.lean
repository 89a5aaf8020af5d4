/- What the program's own iterators hand over. -/
import Derived.Test.YtaopdopnecognaaGreatMillAll8
import Derived.Test.YtaopdopnecognaaGreatMillOkIb
import Derived.Test.YtaopdopnecognaaGreatMillFIb
set_option linter.all false
set_option maxRecDepth 100000
noncomputable section
namespace Go.Proofs.Mill
def Zsj:Env:=env1 [(89,s89)]
theorem gitReplay:Zai Zsj:=Zam mix1 ent1 (Zab ok89 rfl Zah)
def Zsl:Code:=Zg0 Tryz.prog 108
def ZkW:Code:=Zom (cBlk (Zax Zsl))
def Zld:Code:=cBlk (ZaU (Zax (Zax ZkW)))
theorem Zv4:ZlR Tryz.prog itReplay:=by
 intro q hq
 obtain ⟨L,k⟩:=q
 have hL:L.length<=4294967296:=Nat.le_of_ble_eq_true (show Nat.ble L.length 4294967296=true from hq)
 refine ⟨108,[.cptr [.lst .mark L] 0,.cptr [.fn 89 [.cptr [.int .i64 k] 0]] 0],rfl,gitReplay.2.2.1 108 (by kernel_rfl),fun c lb hv=>?_⟩
 refine Znq (V:=Zsj) gitReplay (f:=108) (fn:=Tryz.f108) (nt:=22) (rounds:=20) (depth:=6) (id0:=0) (id3:=3) (ops0:=cOps (ZaU Zsl)) (ops3:=cOps (ZaU (Zax Zld))) (R1:=ZaU ZkW) (K1:=ZaU (Zax ZkW))
   (R2:=ZaU Zld) (K2:=Zax (Zax Zld)) (R4:=Zax (Zax (Zax ZkW))) (enc:=itReplay.enc) (els:=L) (p:=fun x=>(fun k (x:Mark)=>x.item == k) k x) (argOf:=fun x=>.agg ((.mark:Ty).encA x))
   (q2:=.cptr [.fn 89 [.cptr [.int .i64 k] 0]] 0) (qL:=.lst .mark L) (cl:=ZsO ((cOps (ZaU (Zax Zld))).toList.getD 6 default))
   (by kernel_rfl) (by kernel_rfl) (by kernel_rfl) (by omega) rfl (by kernel_rfl) rfl rfl (fun yv=>by kernel_rfl) (fun yv i=>?_) (fun yv i b hi=>?_) (by kernel_rfl) (by kernel_rfl) (by kernel_rfl) (by kernel_rfl) (by kernel_rfl) (by kernel_rfl) (by kernel_rfl)
   (fun c x u hu=>Zlq (cs:=(.mark:Ty).encA x) rfl hu) hv rfl
 . refine Eq.trans ?_ (ZpD (L:=L) (d:=(.mark:Ty).dflt) (i:=i) (p:=fun x=>(fun k (x:Mark)=>x.item == k) k x) (fn:=fun x=>s89.fn (x,k)) ?_ hL
     (A:=fun x=>(true,[.bool true,.cst yv,.cptr [.fn 89 [.cptr [.int .i64 k] 0]] 0,.lst .mark L,.i L.length,.i (i:Int),.cst yv,.agg ((.mark:Ty).encA x)]))
     (B:=fun _=>(false,[.cst yv,.cptr [.fn 89 [.cptr [.int .i64 k] 0]] 0,.lst .mark L,.i L.length,.i (Zad .i64 ((i:Int)+1))]))
     (A':=(false,[])) (B':=(false,[.cst yv,.cptr [.fn 89 [.cptr [.int .i64 k] 0]] 0,.lst .mark L,.i L.length,.i ((i+1:Nat):Int)])) (fun x hx=>?_) (fun x hx hw=>by rw [hw]))
   . show _=_;kernel_rfl
   . intro x
     first
     | rfl
     | exact Zq6 (x.t == k) _
   . have hg:L.getD (i:Int).toNat (.mark:Ty).dflt=x:=by rw [Int.toNat_natCast,List.getD_eq_getElem?_getD,hx,Option.getD_some]
     simp only [hg]
 . have hw:Zad .i64 ((i:Int)+1)=((i+1:Nat):Int):=ZkG (by have hi':i<L.length:=hi;omega)
   rw [<- hw]
   cases b with
   | true=>rw [if_pos rfl];show _=_;kernel_rfl
   | false=>rw [if_neg (by simp)];show _=_;kernel_rfl
def ZxY:Env:=env1 [(96,s96)]
theorem gitOwn:Zai ZxY:=Zam mix1 ent1 (Zab ok96 rfl Zah)
def Zxs:Code:=Zg0 Tryz.prog 108
def Zqj:Code:=Zom (cBlk (Zax Zxs))
def Zqw:Code:=cBlk (ZaU (Zax (Zax Zqj)))
theorem ZBi:ZlR Tryz.prog itOwn:=by
 intro q hq
 obtain ⟨L,k⟩:=q
 have hL:L.length<=4294967296:=Nat.le_of_ble_eq_true (show Nat.ble L.length 4294967296=true from hq)
 refine ⟨108,[.cptr [.lst .mark L] 0,.cptr [.fn 96 [.cptr [.int .i64 k] 0]] 0],rfl,gitOwn.2.2.1 108 (by kernel_rfl),fun c lb hv=>?_⟩
 refine Znq (V:=ZxY) gitOwn (f:=108) (fn:=Tryz.f108) (nt:=22) (rounds:=20) (depth:=6) (id0:=0) (id3:=3) (ops0:=cOps (ZaU Zxs)) (ops3:=cOps (ZaU (Zax Zqw))) (R1:=ZaU Zqj) (K1:=ZaU (Zax Zqj))
   (R2:=ZaU Zqw) (K2:=Zax (Zax Zqw)) (R4:=Zax (Zax (Zax Zqj))) (enc:=itOwn.enc) (els:=L) (p:=fun x=>(fun k (x:Mark)=>x.t == k) k x) (argOf:=fun x=>.agg ((.mark:Ty).encA x))
   (q2:=.cptr [.fn 96 [.cptr [.int .i64 k] 0]] 0) (qL:=.lst .mark L) (cl:=ZsO ((cOps (ZaU (Zax Zqw))).toList.getD 6 default))
   (by kernel_rfl) (by kernel_rfl) (by kernel_rfl) (by omega) rfl (by kernel_rfl) rfl rfl (fun yv=>by kernel_rfl) (fun yv i=>?_) (fun yv i b hi=>?_) (by kernel_rfl) (by kernel_rfl) (by kernel_rfl) (by kernel_rfl) (by kernel_rfl) (by kernel_rfl) (by kernel_rfl)
   (fun c x u hu=>Zlq (cs:=(.mark:Ty).encA x) rfl hu) hv rfl
 . refine Eq.trans ?_ (ZpD (L:=L) (d:=(.mark:Ty).dflt) (i:=i) (p:=fun x=>(fun k (x:Mark)=>x.t == k) k x) (fn:=fun x=>s96.fn (x,k)) ?_ hL
     (A:=fun x=>(true,[.bool true,.cst yv,.cptr [.fn 96 [.cptr [.int .i64 k] 0]] 0,.lst .mark L,.i L.length,.i (i:Int),.cst yv,.agg ((.mark:Ty).encA x)]))
     (B:=fun _=>(false,[.cst yv,.cptr [.fn 96 [.cptr [.int .i64 k] 0]] 0,.lst .mark L,.i L.length,.i (Zad .i64 ((i:Int)+1))]))
     (A':=(false,[])) (B':=(false,[.cst yv,.cptr [.fn 96 [.cptr [.int .i64 k] 0]] 0,.lst .mark L,.i L.length,.i ((i+1:Nat):Int)])) (fun x hx=>?_) (fun x hx hw=>by rw [hw]))
   . show _=_;kernel_rfl
   . intro x
     first
     | rfl
     | exact Zq6 (x.t == k) _
   . have hg:L.getD (i:Int).toNat (.mark:Ty).dflt=x:=by rw [Int.toNat_natCast,List.getD_eq_getElem?_getD,hx,Option.getD_some]
     simp only [hg]
 . have hw:Zad .i64 ((i:Int)+1)=((i+1:Nat):Int):=ZkG (by have hi':i<L.length:=hi;omega)
   rw [<- hw]
   cases b with
   | true=>rw [if_pos rfl];show _=_;kernel_rfl
   | false=>rw [if_neg (by simp)];show _=_;kernel_rfl
def ZrF:Env:=env1 [(79,s79)]
theorem gitEvents:Zai ZrF:=Zam mix1 ent1 (Zab ok79 rfl Zah)
def Zrz:Code:=Zg0 Tryz.prog 102
def Zla:Code:=Zom (cBlk (Zax Zrz))
def Zk3:Code:=cBlk (ZaU (Zax (Zax Zla)))
theorem ZwR:ZlR Tryz.prog itEvents:=by
 intro q hq
 obtain ⟨L,k⟩:=q
 have hL:L.length<=4294967296:=Nat.le_of_ble_eq_true (show Nat.ble L.length 4294967296=true from hq)
 refine ⟨102,[.cptr [.lst .event L] 0,.cptr [.fn 79 [.cptr [.int .i64 k] 0]] 0],rfl,gitEvents.2.2.1 102 (by kernel_rfl),fun c lb hv=>?_⟩
 refine Znq (V:=ZrF) gitEvents (f:=102) (fn:=Tryz.f102) (nt:=22) (rounds:=20) (depth:=6) (id0:=0) (id3:=3) (ops0:=cOps (ZaU Zrz)) (ops3:=cOps (ZaU (Zax Zk3))) (R1:=ZaU Zla) (K1:=ZaU (Zax Zla))
   (R2:=ZaU Zk3) (K2:=Zax (Zax Zk3)) (R4:=Zax (Zax (Zax Zla))) (enc:=itEvents.enc) (els:=L) (p:=fun x=>(fun k (x:Event)=>x.t == k && x.kind != 3) k x) (argOf:=fun x=>.agg ((.event:Ty).encA x))
   (q2:=.cptr [.fn 79 [.cptr [.int .i64 k] 0]] 0) (qL:=.lst .event L) (cl:=ZsO ((cOps (ZaU (Zax Zk3))).toList.getD 6 default))
   (by kernel_rfl) (by kernel_rfl) (by kernel_rfl) (by omega) rfl (by kernel_rfl) rfl rfl (fun yv=>by kernel_rfl) (fun yv i=>?_) (fun yv i b hi=>?_) (by kernel_rfl) (by kernel_rfl) (by kernel_rfl) (by kernel_rfl) (by kernel_rfl) (by kernel_rfl) (by kernel_rfl)
   (fun c x u hu=>Zlq (cs:=(.event:Ty).encA x) rfl hu) hv rfl
 . refine Eq.trans ?_ (ZpD (L:=L) (d:=(.event:Ty).dflt) (i:=i) (p:=fun x=>(fun k (x:Event)=>x.t == k && x.kind != 3) k x) (fn:=fun x=>s79.fn (x,k)) ?_ hL
     (A:=fun x=>(true,[.bool true,.cst yv,.cptr [.fn 79 [.cptr [.int .i64 k] 0]] 0,.lst .event L,.i L.length,.i (i:Int),.cst yv,.agg ((.event:Ty).encA x)]))
     (B:=fun _=>(false,[.cst yv,.cptr [.fn 79 [.cptr [.int .i64 k] 0]] 0,.lst .event L,.i L.length,.i (Zad .i64 ((i:Int)+1))]))
     (A':=(false,[])) (B':=(false,[.cst yv,.cptr [.fn 79 [.cptr [.int .i64 k] 0]] 0,.lst .event L,.i L.length,.i ((i+1:Nat):Int)])) (fun x hx=>?_) (fun x hx hw=>by rw [hw]))
   . show _=_;kernel_rfl
   . intro x
     first
     | rfl
     | exact Zq6 (x.t == k) _
   . have hg:L.getD (i:Int).toNat (.event:Ty).dflt=x:=by rw [Int.toNat_natCast,List.getD_eq_getElem?_getD,hx,Option.getD_some]
     simp only [hg]
 . have hw:Zad .i64 ((i:Int)+1)=((i+1:Nat):Int):=ZkG (by have hi':i<L.length:=hi;omega)
   rw [<- hw]
   cases b with
   | true=>rw [if_pos rfl];show _=_;kernel_rfl
   | false=>rw [if_neg (by simp)];show _=_;kernel_rfl
end Go.Proofs.Mill
