/- What the program's own iterators hand over. -/
import Derived.Test.YtaopdopnecognaaGreatMillAll8
import Derived.Test.YtaopdopnecognaaGreatMillOkIb
import Derived.Test.YtaopdopnecognaaGreatMillFIb
namespace Go.Proofs.Mill
set_option linter.all false
noncomputable def Zrb:Env:=env1 [(89,s89)]
theorem gitReplay:Zai Zrb:=Zam mix1 ent1 (Zab ok89 rfl Zah)
noncomputable def ZqT:Code:=Zgn Tryz.prog 108
noncomputable def ZkN:Code:=ZnB (cBlk (Zax ZqT))
noncomputable def ZkF:Code:=cBlk (ZaR (Zax (Zax ZkN)))
set_option maxRecDepth 100000 in
theorem Zvo:Zlg Tryz.prog itReplay:=by
  intro q hq
  obtain ⟨L,k⟩:=q
  have hL:L.length≤4294967296:=Nat.le_of_ble_eq_true (show Nat.ble L.length 4294967296=true from hq)
  refine ⟨108,[.cptr [.lst .mark L] 0,.cptr [.fn 89 [.cptr [.int .i64 k] 0]] 0],rfl,gitReplay.2.2.1 108 (by kernel_rfl),fun c lb hv=>?_⟩
  refine Zng (V:=Zrb) gitReplay (f:=108) (fn:=Tryz.f108) (nt:=22) (rounds:=20) (depth:=6) (id0:=0) (id3:=3) (ops0:=cOps (ZaR ZqT)) (ops3:=cOps (ZaR (Zax ZkF))) (R1:=ZaR ZkN) (K1:=ZaR (Zax ZkN))
    (R2:=ZaR ZkF) (K2:=Zax (Zax ZkF)) (R4:=Zax (Zax (Zax ZkN))) (enc:=itReplay.enc) (els:=L) (p:=fun x=>(fun k (x:Mark)=>x.item == k) k x) (argOf:=fun x=>.agg ((.mark:Ty).encA x))
    (q2:=.cptr [.fn 89 [.cptr [.int .i64 k] 0]] 0) (qL:=.lst .mark L) (cl:=ZrZ ((cOps (ZaR (Zax ZkF))).toList.getD 6 default))
    (by kernel_rfl) (by kernel_rfl) (by kernel_rfl) (by omega) rfl (by kernel_rfl) rfl rfl (fun yv=>by kernel_rfl) (fun yv i=>?_) (fun yv i b hi=>?_) (by kernel_rfl) (by kernel_rfl) (by kernel_rfl) (by kernel_rfl) (by kernel_rfl) (by kernel_rfl) (by kernel_rfl)
    (fun c x u hu=>ZkR (cs:=(.mark:Ty).encA x) rfl hu) hv rfl
  · refine Eq.trans ?_ (Zot (L:=L) (d:=(.mark:Ty).dflt) (i:=i) (p:=fun x=>(fun k (x:Mark)=>x.item == k) k x) (fn:=fun x=>s89.fn (x,k)) ?_ hL
      (A:=fun x=>(true,[.bool true,.cst yv,.cptr [.fn 89 [.cptr [.int .i64 k] 0]] 0,.lst .mark L,.i L.length,.i (i:Int),.cst yv,.agg ((.mark:Ty).encA x)]))
      (B:=fun _=>(false,[.cst yv,.cptr [.fn 89 [.cptr [.int .i64 k] 0]] 0,.lst .mark L,.i L.length,.i (Zad .i64 ((i:Int)+1))]))
      (A':=(false,[])) (B':=(false,[.cst yv,.cptr [.fn 89 [.cptr [.int .i64 k] 0]] 0,.lst .mark L,.i L.length,.i ((i+1:Nat):Int)])) (fun x hx=>?_) (fun x hx hw=>by rw [hw]))
    · show _=_;kernel_rfl
    · intro x
      first
      | rfl
      | exact Zqo (x.t == k) _
    · have hg:L.getD (i:Int).toNat (.mark:Ty).dflt=x:=by rw [Int.toNat_natCast,List.getD_eq_getElem?_getD,hx,Option.getD_some]
      simp only [hg]
  · have hw:Zad .i64 ((i:Int)+1)=((i+1:Nat):Int):=ZjY (by have hi':i<L.length:=hi;omega)
    rw [← hw]
    cases b with
    | true=>rw [if_pos rfl];show _=_;kernel_rfl
    | false=>rw [if_neg (by simp)];show _=_;kernel_rfl
noncomputable def Zxt:Env:=env1 [(96,s96)]
theorem gitOwn:Zai Zxt:=Zam mix1 ent1 (Zab ok96 rfl Zah)
noncomputable def Zxq:Code:=Zgn Tryz.prog 108
noncomputable def ZpP:Code:=ZnB (cBlk (Zax Zxq))
noncomputable def Zp0:Code:=cBlk (ZaR (Zax (Zax ZpP)))
set_option maxRecDepth 100000 in
theorem ZAe:Zlg Tryz.prog itOwn:=by
  intro q hq
  obtain ⟨L,k⟩:=q
  have hL:L.length≤4294967296:=Nat.le_of_ble_eq_true (show Nat.ble L.length 4294967296=true from hq)
  refine ⟨108,[.cptr [.lst .mark L] 0,.cptr [.fn 96 [.cptr [.int .i64 k] 0]] 0],rfl,gitOwn.2.2.1 108 (by kernel_rfl),fun c lb hv=>?_⟩
  refine Zng (V:=Zxt) gitOwn (f:=108) (fn:=Tryz.f108) (nt:=22) (rounds:=20) (depth:=6) (id0:=0) (id3:=3) (ops0:=cOps (ZaR Zxq)) (ops3:=cOps (ZaR (Zax Zp0))) (R1:=ZaR ZpP) (K1:=ZaR (Zax ZpP))
    (R2:=ZaR Zp0) (K2:=Zax (Zax Zp0)) (R4:=Zax (Zax (Zax ZpP))) (enc:=itOwn.enc) (els:=L) (p:=fun x=>(fun k (x:Mark)=>x.t == k) k x) (argOf:=fun x=>.agg ((.mark:Ty).encA x))
    (q2:=.cptr [.fn 96 [.cptr [.int .i64 k] 0]] 0) (qL:=.lst .mark L) (cl:=ZrZ ((cOps (ZaR (Zax Zp0))).toList.getD 6 default))
    (by kernel_rfl) (by kernel_rfl) (by kernel_rfl) (by omega) rfl (by kernel_rfl) rfl rfl (fun yv=>by kernel_rfl) (fun yv i=>?_) (fun yv i b hi=>?_) (by kernel_rfl) (by kernel_rfl) (by kernel_rfl) (by kernel_rfl) (by kernel_rfl) (by kernel_rfl) (by kernel_rfl)
    (fun c x u hu=>ZkR (cs:=(.mark:Ty).encA x) rfl hu) hv rfl
  · refine Eq.trans ?_ (Zot (L:=L) (d:=(.mark:Ty).dflt) (i:=i) (p:=fun x=>(fun k (x:Mark)=>x.t == k) k x) (fn:=fun x=>s96.fn (x,k)) ?_ hL
      (A:=fun x=>(true,[.bool true,.cst yv,.cptr [.fn 96 [.cptr [.int .i64 k] 0]] 0,.lst .mark L,.i L.length,.i (i:Int),.cst yv,.agg ((.mark:Ty).encA x)]))
      (B:=fun _=>(false,[.cst yv,.cptr [.fn 96 [.cptr [.int .i64 k] 0]] 0,.lst .mark L,.i L.length,.i (Zad .i64 ((i:Int)+1))]))
      (A':=(false,[])) (B':=(false,[.cst yv,.cptr [.fn 96 [.cptr [.int .i64 k] 0]] 0,.lst .mark L,.i L.length,.i ((i+1:Nat):Int)])) (fun x hx=>?_) (fun x hx hw=>by rw [hw]))
    · show _=_;kernel_rfl
    · intro x
      first
      | rfl
      | exact Zqo (x.t == k) _
    · have hg:L.getD (i:Int).toNat (.mark:Ty).dflt=x:=by rw [Int.toNat_natCast,List.getD_eq_getElem?_getD,hx,Option.getD_some]
      simp only [hg]
  · have hw:Zad .i64 ((i:Int)+1)=((i+1:Nat):Int):=ZjY (by have hi':i<L.length:=hi;omega)
    rw [← hw]
    cases b with
    | true=>rw [if_pos rfl];show _=_;kernel_rfl
    | false=>rw [if_neg (by simp)];show _=_;kernel_rfl
noncomputable def ZqK:Env:=env1 [(79,s79)]
theorem gitEvents:Zai ZqK:=Zam mix1 ent1 (Zab ok79 rfl Zah)
noncomputable def Zrq:Code:=Zgn Tryz.prog 102
noncomputable def ZkE:Code:=ZnB (cBlk (Zax Zrq))
noncomputable def ZkD:Code:=cBlk (ZaR (Zax (Zax ZkE)))
set_option maxRecDepth 100000 in
theorem Zpz:Zlg Tryz.prog itEvents:=by
  intro q hq
  obtain ⟨L,k⟩:=q
  have hL:L.length≤4294967296:=Nat.le_of_ble_eq_true (show Nat.ble L.length 4294967296=true from hq)
  refine ⟨102,[.cptr [.lst .event L] 0,.cptr [.fn 79 [.cptr [.int .i64 k] 0]] 0],rfl,gitEvents.2.2.1 102 (by kernel_rfl),fun c lb hv=>?_⟩
  refine Zng (V:=ZqK) gitEvents (f:=102) (fn:=Tryz.f102) (nt:=22) (rounds:=20) (depth:=6) (id0:=0) (id3:=3) (ops0:=cOps (ZaR Zrq)) (ops3:=cOps (ZaR (Zax ZkD))) (R1:=ZaR ZkE) (K1:=ZaR (Zax ZkE))
    (R2:=ZaR ZkD) (K2:=Zax (Zax ZkD)) (R4:=Zax (Zax (Zax ZkE))) (enc:=itEvents.enc) (els:=L) (p:=fun x=>(fun k (x:Event)=>x.t == k && x.kind != 3) k x) (argOf:=fun x=>.agg ((.event:Ty).encA x))
    (q2:=.cptr [.fn 79 [.cptr [.int .i64 k] 0]] 0) (qL:=.lst .event L) (cl:=ZrZ ((cOps (ZaR (Zax ZkD))).toList.getD 6 default))
    (by kernel_rfl) (by kernel_rfl) (by kernel_rfl) (by omega) rfl (by kernel_rfl) rfl rfl (fun yv=>by kernel_rfl) (fun yv i=>?_) (fun yv i b hi=>?_) (by kernel_rfl) (by kernel_rfl) (by kernel_rfl) (by kernel_rfl) (by kernel_rfl) (by kernel_rfl) (by kernel_rfl)
    (fun c x u hu=>ZkR (cs:=(.event:Ty).encA x) rfl hu) hv rfl
  · refine Eq.trans ?_ (Zot (L:=L) (d:=(.event:Ty).dflt) (i:=i) (p:=fun x=>(fun k (x:Event)=>x.t == k && x.kind != 3) k x) (fn:=fun x=>s79.fn (x,k)) ?_ hL
      (A:=fun x=>(true,[.bool true,.cst yv,.cptr [.fn 79 [.cptr [.int .i64 k] 0]] 0,.lst .event L,.i L.length,.i (i:Int),.cst yv,.agg ((.event:Ty).encA x)]))
      (B:=fun _=>(false,[.cst yv,.cptr [.fn 79 [.cptr [.int .i64 k] 0]] 0,.lst .event L,.i L.length,.i (Zad .i64 ((i:Int)+1))]))
      (A':=(false,[])) (B':=(false,[.cst yv,.cptr [.fn 79 [.cptr [.int .i64 k] 0]] 0,.lst .event L,.i L.length,.i ((i+1:Nat):Int)])) (fun x hx=>?_) (fun x hx hw=>by rw [hw]))
    · show _=_;kernel_rfl
    · intro x
      first
      | rfl
      | exact Zqo (x.t == k) _
    · have hg:L.getD (i:Int).toNat (.event:Ty).dflt=x:=by rw [Int.toNat_natCast,List.getD_eq_getElem?_getD,hx,Option.getD_some]
      simp only [hg]
  · have hw:Zad .i64 ((i:Int)+1)=((i+1:Nat):Int):=ZjY (by have hi':i<L.length:=hi;omega)
    rw [← hw]
    cases b with
    | true=>rw [if_pos rfl];show _=_;kernel_rfl
    | false=>rw [if_neg (by simp)];show _=_;kernel_rfl
end Go.Proofs.Mill
