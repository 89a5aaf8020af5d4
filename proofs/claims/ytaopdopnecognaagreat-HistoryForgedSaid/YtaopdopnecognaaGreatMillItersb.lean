/- What the program's own iterators hand over. -/
import Derived.Test.YtaopdopnecognaaGreatMillAll8
import Derived.Test.YtaopdopnecognaaGreatMillOkIb
import Derived.Test.YtaopdopnecognaaGreatMillFIb
namespace Go.Proofs.Mill
set_option linter.all false
noncomputable def ZqI:Env:=env1 [(89,s89)]
theorem gitReplay:Zai ZqI:=Zal mix1 ent1 (Zab ok89 rfl Zah)
noncomputable def ZqZ:Code:=Zgs Tryz.prog 108
noncomputable def Zkv:Code:=ZnS (cBlk (Zaw ZqZ))
noncomputable def Zkt:Code:=cBlk (ZaT (Zaw (Zaw Zkv)))
set_option maxRecDepth 100000 in
theorem Zvt:Zla Tryz.prog itReplay:=by
  intro q hq
  obtain ⟨L,k⟩:=q
  have hL:L.length≤4294967296:=Nat.le_of_ble_eq_true (show Nat.ble L.length 4294967296=true from hq)
  refine ⟨108,[.cptr [.lst .mark L] 0,.cptr [.fn 89 [.cptr [.int .i64 k] 0]] 0],rfl,gitReplay.2.2.1 108 (by kernel_rfl),fun c lb hv=>?_⟩
  refine ZmZ (V:=ZqI) gitReplay (f:=108) (fn:=Tryz.f108) (nt:=22) (rounds:=20) (depth:=6) (id0:=0) (id3:=3) (ops0:=cOps (ZaT ZqZ)) (ops3:=cOps (ZaT (Zaw Zkt))) (R1:=ZaT Zkv) (K1:=ZaT (Zaw Zkv))
    (R2:=ZaT Zkt) (K2:=Zaw (Zaw Zkt)) (R4:=Zaw (Zaw (Zaw Zkv))) (enc:=itReplay.enc) (els:=L) (p:=fun x=>(fun k (x:Mark)=>x.item == k) k x) (argOf:=fun x=>.agg ((.mark:Ty).encA x))
    (q2:=.cptr [.fn 89 [.cptr [.int .i64 k] 0]] 0) (qL:=.lst .mark L) (cl:=ZrR ((cOps (ZaT (Zaw Zkt))).toList.getD 6 default))
    (by kernel_rfl) (by kernel_rfl) (by kernel_rfl) (by omega) rfl (by kernel_rfl) rfl rfl (fun yv=>by kernel_rfl) (fun yv i=>?_) (fun yv i b hi=>?_) (by kernel_rfl) (by kernel_rfl) (by kernel_rfl) (by kernel_rfl) (by kernel_rfl) (by kernel_rfl) (by kernel_rfl)
    (fun c x u hu=>ZkT (cs:=(.mark:Ty).encA x) rfl hu) hv rfl
  · refine Eq.trans ?_ (ZoP (L:=L) (d:=(.mark:Ty).dflt) (i:=i) (p:=fun x=>(fun k (x:Mark)=>x.item == k) k x) (fn:=fun x=>s89.fn (x,k)) ?_ hL
      (A:=fun x=>(true,[.bool true,.cst yv,.cptr [.fn 89 [.cptr [.int .i64 k] 0]] 0,.lst .mark L,.i L.length,.i (i:Int),.cst yv,.agg ((.mark:Ty).encA x)]))
      (B:=fun _=>(false,[.cst yv,.cptr [.fn 89 [.cptr [.int .i64 k] 0]] 0,.lst .mark L,.i L.length,.i (Zae .i64 ((i:Int)+1))]))
      (A':=(false,[])) (B':=(false,[.cst yv,.cptr [.fn 89 [.cptr [.int .i64 k] 0]] 0,.lst .mark L,.i L.length,.i ((i+1:Nat):Int)])) (fun x hx=>?_) (fun x hx hw=>by rw [hw]))
    · show _=_;kernel_rfl
    · intro x
      first
      | rfl
      | exact Zp7 (x.t == k) _
    · have hg:L.getD (i:Int).toNat (.mark:Ty).dflt=x:=by rw [Int.toNat_natCast,List.getD_eq_getElem?_getD,hx,Option.getD_some]
      simp only [hg]
  · have hw:Zae .i64 ((i:Int)+1)=((i+1:Nat):Int):=Zj9 (by have hi':i<L.length:=hi;omega)
    rw [← hw]
    cases b with
    | true=>rw [if_pos rfl];show _=_;kernel_rfl
    | false=>rw [if_neg (by simp)];show _=_;kernel_rfl
noncomputable def Zww:Env:=env1 [(96,s96)]
theorem gitOwn:Zai Zww:=Zal mix1 ent1 (Zab ok96 rfl Zah)
noncomputable def ZwD:Code:=Zgs Tryz.prog 108
noncomputable def ZpF:Code:=ZnS (cBlk (Zaw ZwD))
noncomputable def Zo5:Code:=cBlk (ZaT (Zaw (Zaw ZpF)))
set_option maxRecDepth 100000 in
theorem ZAk:Zla Tryz.prog itOwn:=by
  intro q hq
  obtain ⟨L,k⟩:=q
  have hL:L.length≤4294967296:=Nat.le_of_ble_eq_true (show Nat.ble L.length 4294967296=true from hq)
  refine ⟨108,[.cptr [.lst .mark L] 0,.cptr [.fn 96 [.cptr [.int .i64 k] 0]] 0],rfl,gitOwn.2.2.1 108 (by kernel_rfl),fun c lb hv=>?_⟩
  refine ZmZ (V:=Zww) gitOwn (f:=108) (fn:=Tryz.f108) (nt:=22) (rounds:=20) (depth:=6) (id0:=0) (id3:=3) (ops0:=cOps (ZaT ZwD)) (ops3:=cOps (ZaT (Zaw Zo5))) (R1:=ZaT ZpF) (K1:=ZaT (Zaw ZpF))
    (R2:=ZaT Zo5) (K2:=Zaw (Zaw Zo5)) (R4:=Zaw (Zaw (Zaw ZpF))) (enc:=itOwn.enc) (els:=L) (p:=fun x=>(fun k (x:Mark)=>x.t == k) k x) (argOf:=fun x=>.agg ((.mark:Ty).encA x))
    (q2:=.cptr [.fn 96 [.cptr [.int .i64 k] 0]] 0) (qL:=.lst .mark L) (cl:=ZrR ((cOps (ZaT (Zaw Zo5))).toList.getD 6 default))
    (by kernel_rfl) (by kernel_rfl) (by kernel_rfl) (by omega) rfl (by kernel_rfl) rfl rfl (fun yv=>by kernel_rfl) (fun yv i=>?_) (fun yv i b hi=>?_) (by kernel_rfl) (by kernel_rfl) (by kernel_rfl) (by kernel_rfl) (by kernel_rfl) (by kernel_rfl) (by kernel_rfl)
    (fun c x u hu=>ZkT (cs:=(.mark:Ty).encA x) rfl hu) hv rfl
  · refine Eq.trans ?_ (ZoP (L:=L) (d:=(.mark:Ty).dflt) (i:=i) (p:=fun x=>(fun k (x:Mark)=>x.t == k) k x) (fn:=fun x=>s96.fn (x,k)) ?_ hL
      (A:=fun x=>(true,[.bool true,.cst yv,.cptr [.fn 96 [.cptr [.int .i64 k] 0]] 0,.lst .mark L,.i L.length,.i (i:Int),.cst yv,.agg ((.mark:Ty).encA x)]))
      (B:=fun _=>(false,[.cst yv,.cptr [.fn 96 [.cptr [.int .i64 k] 0]] 0,.lst .mark L,.i L.length,.i (Zae .i64 ((i:Int)+1))]))
      (A':=(false,[])) (B':=(false,[.cst yv,.cptr [.fn 96 [.cptr [.int .i64 k] 0]] 0,.lst .mark L,.i L.length,.i ((i+1:Nat):Int)])) (fun x hx=>?_) (fun x hx hw=>by rw [hw]))
    · show _=_;kernel_rfl
    · intro x
      first
      | rfl
      | exact Zp7 (x.t == k) _
    · have hg:L.getD (i:Int).toNat (.mark:Ty).dflt=x:=by rw [Int.toNat_natCast,List.getD_eq_getElem?_getD,hx,Option.getD_some]
      simp only [hg]
  · have hw:Zae .i64 ((i:Int)+1)=((i+1:Nat):Int):=Zj9 (by have hi':i<L.length:=hi;omega)
    rw [← hw]
    cases b with
    | true=>rw [if_pos rfl];show _=_;kernel_rfl
    | false=>rw [if_neg (by simp)];show _=_;kernel_rfl
noncomputable def ZqV:Env:=env1 [(79,s79)]
theorem gitEvents:Zai ZqV:=Zal mix1 ent1 (Zab ok79 rfl Zah)
noncomputable def Zq7:Code:=Zgs Tryz.prog 102
noncomputable def Zku:Code:=ZnS (cBlk (Zaw Zq7))
noncomputable def Zkx:Code:=cBlk (ZaT (Zaw (Zaw Zku)))
set_option maxRecDepth 100000 in
theorem ZpG:Zla Tryz.prog itEvents:=by
  intro q hq
  obtain ⟨L,k⟩:=q
  have hL:L.length≤4294967296:=Nat.le_of_ble_eq_true (show Nat.ble L.length 4294967296=true from hq)
  refine ⟨102,[.cptr [.lst .event L] 0,.cptr [.fn 79 [.cptr [.int .i64 k] 0]] 0],rfl,gitEvents.2.2.1 102 (by kernel_rfl),fun c lb hv=>?_⟩
  refine ZmZ (V:=ZqV) gitEvents (f:=102) (fn:=Tryz.f102) (nt:=22) (rounds:=20) (depth:=6) (id0:=0) (id3:=3) (ops0:=cOps (ZaT Zq7)) (ops3:=cOps (ZaT (Zaw Zkx))) (R1:=ZaT Zku) (K1:=ZaT (Zaw Zku))
    (R2:=ZaT Zkx) (K2:=Zaw (Zaw Zkx)) (R4:=Zaw (Zaw (Zaw Zku))) (enc:=itEvents.enc) (els:=L) (p:=fun x=>(fun k (x:Event)=>x.t == k && x.kind != 3) k x) (argOf:=fun x=>.agg ((.event:Ty).encA x))
    (q2:=.cptr [.fn 79 [.cptr [.int .i64 k] 0]] 0) (qL:=.lst .event L) (cl:=ZrR ((cOps (ZaT (Zaw Zkx))).toList.getD 6 default))
    (by kernel_rfl) (by kernel_rfl) (by kernel_rfl) (by omega) rfl (by kernel_rfl) rfl rfl (fun yv=>by kernel_rfl) (fun yv i=>?_) (fun yv i b hi=>?_) (by kernel_rfl) (by kernel_rfl) (by kernel_rfl) (by kernel_rfl) (by kernel_rfl) (by kernel_rfl) (by kernel_rfl)
    (fun c x u hu=>ZkT (cs:=(.event:Ty).encA x) rfl hu) hv rfl
  · refine Eq.trans ?_ (ZoP (L:=L) (d:=(.event:Ty).dflt) (i:=i) (p:=fun x=>(fun k (x:Event)=>x.t == k && x.kind != 3) k x) (fn:=fun x=>s79.fn (x,k)) ?_ hL
      (A:=fun x=>(true,[.bool true,.cst yv,.cptr [.fn 79 [.cptr [.int .i64 k] 0]] 0,.lst .event L,.i L.length,.i (i:Int),.cst yv,.agg ((.event:Ty).encA x)]))
      (B:=fun _=>(false,[.cst yv,.cptr [.fn 79 [.cptr [.int .i64 k] 0]] 0,.lst .event L,.i L.length,.i (Zae .i64 ((i:Int)+1))]))
      (A':=(false,[])) (B':=(false,[.cst yv,.cptr [.fn 79 [.cptr [.int .i64 k] 0]] 0,.lst .event L,.i L.length,.i ((i+1:Nat):Int)])) (fun x hx=>?_) (fun x hx hw=>by rw [hw]))
    · show _=_;kernel_rfl
    · intro x
      first
      | rfl
      | exact Zp7 (x.t == k) _
    · have hg:L.getD (i:Int).toNat (.event:Ty).dflt=x:=by rw [Int.toNat_natCast,List.getD_eq_getElem?_getD,hx,Option.getD_some]
      simp only [hg]
  · have hw:Zae .i64 ((i:Int)+1)=((i+1:Nat):Int):=Zj9 (by have hi':i<L.length:=hi;omega)
    rw [← hw]
    cases b with
    | true=>rw [if_pos rfl];show _=_;kernel_rfl
    | false=>rw [if_neg (by simp)];show _=_;kernel_rfl
end Go.Proofs.Mill
