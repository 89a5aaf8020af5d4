/- What the program's own iterators hand over. -/
import Derived.Test.YtaopdopnecognaaGreatMillAll8
import Derived.Test.YtaopdopnecognaaGreatMillOkIb
import Derived.Test.YtaopdopnecognaaGreatMillFIb
namespace Go.Proofs.Mill
set_option linter.all false
noncomputable def ZqS:Env:=env1 [(89,s89)]
theorem gitReplay:Zai ZqS:=Zam mix1 ent1 (Zab ok89 rfl Zah)
noncomputable def ZqU:Code:=Zgt Tryz.prog 108
noncomputable def Zks:Code:=Znz (cBlk (Zaw ZqU))
noncomputable def Zku:Code:=cBlk (ZaR (Zaw (Zaw Zks)))
set_option maxRecDepth 100000 in
theorem ZvR:Zll Tryz.prog itReplay:=by
  intro q hq
  obtain ⟨L,k⟩:=q
  have hL:L.length≤4294967296:=Nat.le_of_ble_eq_true (show Nat.ble L.length 4294967296=true from hq)
  refine ⟨108,[.cptr [.lst .mark L] 0,.cptr [.fn 89 [.cptr [.int .i64 k] 0]] 0],rfl,gitReplay.2.2.1 108 (by kernel_rfl),fun c lb hv=>?_⟩
  refine Znk (V:=ZqS) gitReplay (f:=108) (fn:=Tryz.f108) (nt:=22) (rounds:=20) (depth:=6) (id0:=0) (id3:=3) (ops0:=cOps (ZaR ZqU)) (ops3:=cOps (ZaR (Zaw Zku))) (R1:=ZaR Zks) (K1:=ZaR (Zaw Zks))
    (R2:=ZaR Zku) (K2:=Zaw (Zaw Zku)) (R4:=Zaw (Zaw (Zaw Zks))) (enc:=itReplay.enc) (els:=L) (p:=fun x=>(fun k (x:Mark)=>x.item == k) k x) (argOf:=fun x=>.agg ((.mark:Ty).encA x))
    (q2:=.cptr [.fn 89 [.cptr [.int .i64 k] 0]] 0) (qL:=.lst .mark L) (cl:=ZrJ ((cOps (ZaR (Zaw Zku))).toList.getD 6 default))
    (by kernel_rfl) (by kernel_rfl) (by kernel_rfl) (by omega) rfl (by kernel_rfl) rfl rfl (fun yv=>by kernel_rfl) (fun yv i=>?_) (fun yv i b hi=>?_) (by kernel_rfl) (by kernel_rfl) (by kernel_rfl) (by kernel_rfl) (by kernel_rfl) (by kernel_rfl) (by kernel_rfl)
    (fun c x u hu=>ZkN (cs:=(.mark:Ty).encA x) rfl hu) hv rfl
  · refine Eq.trans ?_ (Zot (L:=L) (d:=(.mark:Ty).dflt) (i:=i) (p:=fun x=>(fun k (x:Mark)=>x.item == k) k x) (fn:=fun x=>s89.fn (x,k)) ?_ hL
      (A:=fun x=>(true,[.bool true,.cst yv,.cptr [.fn 89 [.cptr [.int .i64 k] 0]] 0,.lst .mark L,.i L.length,.i (i:Int),.cst yv,.agg ((.mark:Ty).encA x)]))
      (B:=fun _=>(false,[.cst yv,.cptr [.fn 89 [.cptr [.int .i64 k] 0]] 0,.lst .mark L,.i L.length,.i (Zad .i64 ((i:Int)+1))]))
      (A':=(false,[])) (B':=(false,[.cst yv,.cptr [.fn 89 [.cptr [.int .i64 k] 0]] 0,.lst .mark L,.i L.length,.i ((i+1:Nat):Int)])) (fun x hx=>?_) (fun x hx hw=>by rw [hw]))
    · show _=_;kernel_rfl
    · intro x
      first
      | rfl
      | exact Zp8 (x.t == k) _
    · have hg:L.getD (i:Int).toNat (.mark:Ty).dflt=x:=by rw [Int.toNat_natCast,List.getD_eq_getElem?_getD,hx,Option.getD_some]
      simp only [hg]
  · have hw:Zad .i64 ((i:Int)+1)=((i+1:Nat):Int):=ZjD (by have hi':i<L.length:=hi;omega)
    rw [← hw]
    cases b with
    | true=>rw [if_pos rfl];show _=_;kernel_rfl
    | false=>rw [if_neg (by simp)];show _=_;kernel_rfl
noncomputable def Zv6:Env:=env1 [(96,s96)]
theorem gitOwn:Zai Zv6:=Zam mix1 ent1 (Zab ok96 rfl Zah)
noncomputable def Zwt:Code:=Zgt Tryz.prog 108
noncomputable def Zo5:Code:=Znz (cBlk (Zaw Zwt))
noncomputable def Zps:Code:=cBlk (ZaR (Zaw (Zaw Zo5)))
set_option maxRecDepth 100000 in
theorem Zzy:Zll Tryz.prog itOwn:=by
  intro q hq
  obtain ⟨L,k⟩:=q
  have hL:L.length≤4294967296:=Nat.le_of_ble_eq_true (show Nat.ble L.length 4294967296=true from hq)
  refine ⟨108,[.cptr [.lst .mark L] 0,.cptr [.fn 96 [.cptr [.int .i64 k] 0]] 0],rfl,gitOwn.2.2.1 108 (by kernel_rfl),fun c lb hv=>?_⟩
  refine Znk (V:=Zv6) gitOwn (f:=108) (fn:=Tryz.f108) (nt:=22) (rounds:=20) (depth:=6) (id0:=0) (id3:=3) (ops0:=cOps (ZaR Zwt)) (ops3:=cOps (ZaR (Zaw Zps))) (R1:=ZaR Zo5) (K1:=ZaR (Zaw Zo5))
    (R2:=ZaR Zps) (K2:=Zaw (Zaw Zps)) (R4:=Zaw (Zaw (Zaw Zo5))) (enc:=itOwn.enc) (els:=L) (p:=fun x=>(fun k (x:Mark)=>x.t == k) k x) (argOf:=fun x=>.agg ((.mark:Ty).encA x))
    (q2:=.cptr [.fn 96 [.cptr [.int .i64 k] 0]] 0) (qL:=.lst .mark L) (cl:=ZrJ ((cOps (ZaR (Zaw Zps))).toList.getD 6 default))
    (by kernel_rfl) (by kernel_rfl) (by kernel_rfl) (by omega) rfl (by kernel_rfl) rfl rfl (fun yv=>by kernel_rfl) (fun yv i=>?_) (fun yv i b hi=>?_) (by kernel_rfl) (by kernel_rfl) (by kernel_rfl) (by kernel_rfl) (by kernel_rfl) (by kernel_rfl) (by kernel_rfl)
    (fun c x u hu=>ZkN (cs:=(.mark:Ty).encA x) rfl hu) hv rfl
  · refine Eq.trans ?_ (Zot (L:=L) (d:=(.mark:Ty).dflt) (i:=i) (p:=fun x=>(fun k (x:Mark)=>x.t == k) k x) (fn:=fun x=>s96.fn (x,k)) ?_ hL
      (A:=fun x=>(true,[.bool true,.cst yv,.cptr [.fn 96 [.cptr [.int .i64 k] 0]] 0,.lst .mark L,.i L.length,.i (i:Int),.cst yv,.agg ((.mark:Ty).encA x)]))
      (B:=fun _=>(false,[.cst yv,.cptr [.fn 96 [.cptr [.int .i64 k] 0]] 0,.lst .mark L,.i L.length,.i (Zad .i64 ((i:Int)+1))]))
      (A':=(false,[])) (B':=(false,[.cst yv,.cptr [.fn 96 [.cptr [.int .i64 k] 0]] 0,.lst .mark L,.i L.length,.i ((i+1:Nat):Int)])) (fun x hx=>?_) (fun x hx hw=>by rw [hw]))
    · show _=_;kernel_rfl
    · intro x
      first
      | rfl
      | exact Zp8 (x.t == k) _
    · have hg:L.getD (i:Int).toNat (.mark:Ty).dflt=x:=by rw [Int.toNat_natCast,List.getD_eq_getElem?_getD,hx,Option.getD_some]
      simp only [hg]
  · have hw:Zad .i64 ((i:Int)+1)=((i+1:Nat):Int):=ZjD (by have hi':i<L.length:=hi;omega)
    rw [← hw]
    cases b with
    | true=>rw [if_pos rfl];show _=_;kernel_rfl
    | false=>rw [if_neg (by simp)];show _=_;kernel_rfl
noncomputable def Zqx:Env:=env1 [(79,s79)]
theorem gitEvents:Zai Zqx:=Zam mix1 ent1 (Zab ok79 rfl Zah)
noncomputable def Zq4:Code:=Zgt Tryz.prog 102
noncomputable def Zko:Code:=Znz (cBlk (Zaw Zq4))
noncomputable def Zkt:Code:=cBlk (ZaR (Zaw (Zaw Zko)))
set_option maxRecDepth 100000 in
theorem Zpl:Zll Tryz.prog itEvents:=by
  intro q hq
  obtain ⟨L,k⟩:=q
  have hL:L.length≤4294967296:=Nat.le_of_ble_eq_true (show Nat.ble L.length 4294967296=true from hq)
  refine ⟨102,[.cptr [.lst .event L] 0,.cptr [.fn 79 [.cptr [.int .i64 k] 0]] 0],rfl,gitEvents.2.2.1 102 (by kernel_rfl),fun c lb hv=>?_⟩
  refine Znk (V:=Zqx) gitEvents (f:=102) (fn:=Tryz.f102) (nt:=22) (rounds:=20) (depth:=6) (id0:=0) (id3:=3) (ops0:=cOps (ZaR Zq4)) (ops3:=cOps (ZaR (Zaw Zkt))) (R1:=ZaR Zko) (K1:=ZaR (Zaw Zko))
    (R2:=ZaR Zkt) (K2:=Zaw (Zaw Zkt)) (R4:=Zaw (Zaw (Zaw Zko))) (enc:=itEvents.enc) (els:=L) (p:=fun x=>(fun k (x:Event)=>x.t == k && x.kind != 3) k x) (argOf:=fun x=>.agg ((.event:Ty).encA x))
    (q2:=.cptr [.fn 79 [.cptr [.int .i64 k] 0]] 0) (qL:=.lst .event L) (cl:=ZrJ ((cOps (ZaR (Zaw Zkt))).toList.getD 6 default))
    (by kernel_rfl) (by kernel_rfl) (by kernel_rfl) (by omega) rfl (by kernel_rfl) rfl rfl (fun yv=>by kernel_rfl) (fun yv i=>?_) (fun yv i b hi=>?_) (by kernel_rfl) (by kernel_rfl) (by kernel_rfl) (by kernel_rfl) (by kernel_rfl) (by kernel_rfl) (by kernel_rfl)
    (fun c x u hu=>ZkN (cs:=(.event:Ty).encA x) rfl hu) hv rfl
  · refine Eq.trans ?_ (Zot (L:=L) (d:=(.event:Ty).dflt) (i:=i) (p:=fun x=>(fun k (x:Event)=>x.t == k && x.kind != 3) k x) (fn:=fun x=>s79.fn (x,k)) ?_ hL
      (A:=fun x=>(true,[.bool true,.cst yv,.cptr [.fn 79 [.cptr [.int .i64 k] 0]] 0,.lst .event L,.i L.length,.i (i:Int),.cst yv,.agg ((.event:Ty).encA x)]))
      (B:=fun _=>(false,[.cst yv,.cptr [.fn 79 [.cptr [.int .i64 k] 0]] 0,.lst .event L,.i L.length,.i (Zad .i64 ((i:Int)+1))]))
      (A':=(false,[])) (B':=(false,[.cst yv,.cptr [.fn 79 [.cptr [.int .i64 k] 0]] 0,.lst .event L,.i L.length,.i ((i+1:Nat):Int)])) (fun x hx=>?_) (fun x hx hw=>by rw [hw]))
    · show _=_;kernel_rfl
    · intro x
      first
      | rfl
      | exact Zp8 (x.t == k) _
    · have hg:L.getD (i:Int).toNat (.event:Ty).dflt=x:=by rw [Int.toNat_natCast,List.getD_eq_getElem?_getD,hx,Option.getD_some]
      simp only [hg]
  · have hw:Zad .i64 ((i:Int)+1)=((i+1:Nat):Int):=ZjD (by have hi':i<L.length:=hi;omega)
    rw [← hw]
    cases b with
    | true=>rw [if_pos rfl];show _=_;kernel_rfl
    | false=>rw [if_neg (by simp)];show _=_;kernel_rfl
end Go.Proofs.Mill
