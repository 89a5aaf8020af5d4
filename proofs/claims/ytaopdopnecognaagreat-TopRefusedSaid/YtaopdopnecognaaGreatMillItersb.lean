/- What the program's own iterators hand over. -/
import Derived.Test.YtaopdopnecognaaGreatMillAll8
import Derived.Test.YtaopdopnecognaaGreatMillOkIb
import Derived.Test.YtaopdopnecognaaGreatMillFIb
set_option linter.all false
set_option maxRecDepth 100000
noncomputable section
namespace Go.Proofs.Mill
def Zsq:Env:=env1 [(89,s89)]
theorem gitReplay:Zai Zsq:=Zal mix1 ent1 (Zab ok89 rfl Zah)
def ZrH:Code:=Zg3 Tryz.prog 108
def Zk0:Code:=Zox (cBlk (Zax ZrH))
def Zk3:Code:=cBlk (ZaW (Zax (Zax Zk0)))
theorem Zxg:ZlL Tryz.prog itReplay:=by
 intro q hq
 obtain ⟨L,k⟩:=q
 have hL:L.length<=4294967296:=Nat.le_of_ble_eq_true (show Nat.ble L.length 4294967296=true from hq)
 refine ⟨108,[.cptr [.lst .mark L] 0,.cptr [.fn 89 [.cptr [.int .i64 k] 0]] 0],rfl,gitReplay.2.2.1 108 (by kernel_rfl),fun c lb hv=>?_⟩
 refine Zn6 (V:=Zsq) gitReplay (f:=108) (fn:=Tryz.f108) (nt:=22) (rounds:=20) (depth:=6) (id0:=0) (id3:=3) (ops0:=cOps (ZaW ZrH)) (ops3:=cOps (ZaW (Zax Zk3))) (R1:=ZaW Zk0) (K1:=ZaW (Zax Zk0))
   (R2:=ZaW Zk3) (K2:=Zax (Zax Zk3)) (R4:=Zax (Zax (Zax Zk0))) (enc:=itReplay.enc) (els:=L) (p:=fun x=>(fun k (x:Mark)=>x.item == k) k x) (argOf:=fun x=>.agg ((.mark:Ty).encA x))
   (q2:=.cptr [.fn 89 [.cptr [.int .i64 k] 0]] 0) (qL:=.lst .mark L) (cl:=ZsY ((cOps (ZaW (Zax Zk3))).toList.getD 6 default))
   (by kernel_rfl) (by kernel_rfl) (by kernel_rfl) (by omega) rfl (by kernel_rfl) rfl rfl (fun yv=>by kernel_rfl) (fun yv i=>?_) (fun yv i b hi=>?_) (by kernel_rfl) (by kernel_rfl) (by kernel_rfl) (by kernel_rfl) (by kernel_rfl) (by kernel_rfl) (by kernel_rfl)
   (fun c x u hu=>Zlo (cs:=(.mark:Ty).encA x) rfl hu) hv rfl
 . refine Eq.trans ?_ (ZpO (L:=L) (d:=(.mark:Ty).dflt) (i:=i) (p:=fun x=>(fun k (x:Mark)=>x.item == k) k x) (fn:=fun x=>s89.fn (x,k)) ?_ hL
     (A:=fun x=>(true,[.bool true,.cst yv,.cptr [.fn 89 [.cptr [.int .i64 k] 0]] 0,.lst .mark L,.i L.length,.i (i:Int),.cst yv,.agg ((.mark:Ty).encA x)]))
     (B:=fun _=>(false,[.cst yv,.cptr [.fn 89 [.cptr [.int .i64 k] 0]] 0,.lst .mark L,.i L.length,.i (Zad .i64 ((i:Int)+1))]))
     (A':=(false,[])) (B':=(false,[.cst yv,.cptr [.fn 89 [.cptr [.int .i64 k] 0]] 0,.lst .mark L,.i L.length,.i ((i+1:Nat):Int)])) (fun x hx=>?_) (fun x hx hw=>by rw [hw]))
   . show _=_;kernel_rfl
   . intro x
     first
     | rfl
     | exact Zq7 (x.t == k) _
   . have hg:L.getD (i:Int).toNat (.mark:Ty).dflt=x:=by rw [Int.toNat_natCast,List.getD_eq_getElem?_getD,hx,Option.getD_some]
     simp only [hg]
 . have hw:Zad .i64 ((i:Int)+1)=((i+1:Nat):Int):=Zkg (by have hi':i<L.length:=hi;omega)
   rw [<- hw]
   cases b with
   | true=>rw [if_pos rfl];show _=_;kernel_rfl
   | false=>rw [if_neg (by simp)];show _=_;kernel_rfl
def Zyi:Env:=env1 [(96,s96)]
theorem gitOwn:Zai Zyi:=Zal mix1 ent1 (Zab ok96 rfl Zah)
def Zxy:Code:=Zg3 Tryz.prog 108
def Zq3:Code:=Zox (cBlk (Zax Zxy))
def Zp1:Code:=cBlk (ZaW (Zax (Zax Zq3)))
theorem ZBp:ZlL Tryz.prog itOwn:=by
 intro q hq
 obtain ⟨L,k⟩:=q
 have hL:L.length<=4294967296:=Nat.le_of_ble_eq_true (show Nat.ble L.length 4294967296=true from hq)
 refine ⟨108,[.cptr [.lst .mark L] 0,.cptr [.fn 96 [.cptr [.int .i64 k] 0]] 0],rfl,gitOwn.2.2.1 108 (by kernel_rfl),fun c lb hv=>?_⟩
 refine Zn6 (V:=Zyi) gitOwn (f:=108) (fn:=Tryz.f108) (nt:=22) (rounds:=20) (depth:=6) (id0:=0) (id3:=3) (ops0:=cOps (ZaW Zxy)) (ops3:=cOps (ZaW (Zax Zp1))) (R1:=ZaW Zq3) (K1:=ZaW (Zax Zq3))
   (R2:=ZaW Zp1) (K2:=Zax (Zax Zp1)) (R4:=Zax (Zax (Zax Zq3))) (enc:=itOwn.enc) (els:=L) (p:=fun x=>(fun k (x:Mark)=>x.t == k) k x) (argOf:=fun x=>.agg ((.mark:Ty).encA x))
   (q2:=.cptr [.fn 96 [.cptr [.int .i64 k] 0]] 0) (qL:=.lst .mark L) (cl:=ZsY ((cOps (ZaW (Zax Zp1))).toList.getD 6 default))
   (by kernel_rfl) (by kernel_rfl) (by kernel_rfl) (by omega) rfl (by kernel_rfl) rfl rfl (fun yv=>by kernel_rfl) (fun yv i=>?_) (fun yv i b hi=>?_) (by kernel_rfl) (by kernel_rfl) (by kernel_rfl) (by kernel_rfl) (by kernel_rfl) (by kernel_rfl) (by kernel_rfl)
   (fun c x u hu=>Zlo (cs:=(.mark:Ty).encA x) rfl hu) hv rfl
 . refine Eq.trans ?_ (ZpO (L:=L) (d:=(.mark:Ty).dflt) (i:=i) (p:=fun x=>(fun k (x:Mark)=>x.t == k) k x) (fn:=fun x=>s96.fn (x,k)) ?_ hL
     (A:=fun x=>(true,[.bool true,.cst yv,.cptr [.fn 96 [.cptr [.int .i64 k] 0]] 0,.lst .mark L,.i L.length,.i (i:Int),.cst yv,.agg ((.mark:Ty).encA x)]))
     (B:=fun _=>(false,[.cst yv,.cptr [.fn 96 [.cptr [.int .i64 k] 0]] 0,.lst .mark L,.i L.length,.i (Zad .i64 ((i:Int)+1))]))
     (A':=(false,[])) (B':=(false,[.cst yv,.cptr [.fn 96 [.cptr [.int .i64 k] 0]] 0,.lst .mark L,.i L.length,.i ((i+1:Nat):Int)])) (fun x hx=>?_) (fun x hx hw=>by rw [hw]))
   . show _=_;kernel_rfl
   . intro x
     first
     | rfl
     | exact Zq7 (x.t == k) _
   . have hg:L.getD (i:Int).toNat (.mark:Ty).dflt=x:=by rw [Int.toNat_natCast,List.getD_eq_getElem?_getD,hx,Option.getD_some]
     simp only [hg]
 . have hw:Zad .i64 ((i:Int)+1)=((i+1:Nat):Int):=Zkg (by have hi':i<L.length:=hi;omega)
   rw [<- hw]
   cases b with
   | true=>rw [if_pos rfl];show _=_;kernel_rfl
   | false=>rw [if_neg (by simp)];show _=_;kernel_rfl
def Zso:Env:=env1 [(79,s79)]
theorem gitEvents:Zai Zso:=Zal mix1 ent1 (Zab ok79 rfl Zah)
def ZrQ:Code:=Zg3 Tryz.prog 102
def ZkX:Code:=Zox (cBlk (Zax ZrQ))
def Zk2:Code:=cBlk (ZaW (Zax (Zax ZkX)))
theorem Zqs:ZlL Tryz.prog itEvents:=by
 intro q hq
 obtain ⟨L,k⟩:=q
 have hL:L.length<=4294967296:=Nat.le_of_ble_eq_true (show Nat.ble L.length 4294967296=true from hq)
 refine ⟨102,[.cptr [.lst .event L] 0,.cptr [.fn 79 [.cptr [.int .i64 k] 0]] 0],rfl,gitEvents.2.2.1 102 (by kernel_rfl),fun c lb hv=>?_⟩
 refine Zn6 (V:=Zso) gitEvents (f:=102) (fn:=Tryz.f102) (nt:=22) (rounds:=20) (depth:=6) (id0:=0) (id3:=3) (ops0:=cOps (ZaW ZrQ)) (ops3:=cOps (ZaW (Zax Zk2))) (R1:=ZaW ZkX) (K1:=ZaW (Zax ZkX))
   (R2:=ZaW Zk2) (K2:=Zax (Zax Zk2)) (R4:=Zax (Zax (Zax ZkX))) (enc:=itEvents.enc) (els:=L) (p:=fun x=>(fun k (x:Event)=>x.t == k && x.kind != 3) k x) (argOf:=fun x=>.agg ((.event:Ty).encA x))
   (q2:=.cptr [.fn 79 [.cptr [.int .i64 k] 0]] 0) (qL:=.lst .event L) (cl:=ZsY ((cOps (ZaW (Zax Zk2))).toList.getD 6 default))
   (by kernel_rfl) (by kernel_rfl) (by kernel_rfl) (by omega) rfl (by kernel_rfl) rfl rfl (fun yv=>by kernel_rfl) (fun yv i=>?_) (fun yv i b hi=>?_) (by kernel_rfl) (by kernel_rfl) (by kernel_rfl) (by kernel_rfl) (by kernel_rfl) (by kernel_rfl) (by kernel_rfl)
   (fun c x u hu=>Zlo (cs:=(.event:Ty).encA x) rfl hu) hv rfl
 . refine Eq.trans ?_ (ZpO (L:=L) (d:=(.event:Ty).dflt) (i:=i) (p:=fun x=>(fun k (x:Event)=>x.t == k && x.kind != 3) k x) (fn:=fun x=>s79.fn (x,k)) ?_ hL
     (A:=fun x=>(true,[.bool true,.cst yv,.cptr [.fn 79 [.cptr [.int .i64 k] 0]] 0,.lst .event L,.i L.length,.i (i:Int),.cst yv,.agg ((.event:Ty).encA x)]))
     (B:=fun _=>(false,[.cst yv,.cptr [.fn 79 [.cptr [.int .i64 k] 0]] 0,.lst .event L,.i L.length,.i (Zad .i64 ((i:Int)+1))]))
     (A':=(false,[])) (B':=(false,[.cst yv,.cptr [.fn 79 [.cptr [.int .i64 k] 0]] 0,.lst .event L,.i L.length,.i ((i+1:Nat):Int)])) (fun x hx=>?_) (fun x hx hw=>by rw [hw]))
   . show _=_;kernel_rfl
   . intro x
     first
     | rfl
     | exact Zq7 (x.t == k) _
   . have hg:L.getD (i:Int).toNat (.event:Ty).dflt=x:=by rw [Int.toNat_natCast,List.getD_eq_getElem?_getD,hx,Option.getD_some]
     simp only [hg]
 . have hw:Zad .i64 ((i:Int)+1)=((i+1:Nat):Int):=Zkg (by have hi':i<L.length:=hi;omega)
   rw [<- hw]
   cases b with
   | true=>rw [if_pos rfl];show _=_;kernel_rfl
   | false=>rw [if_neg (by simp)];show _=_;kernel_rfl
end Go.Proofs.Mill
