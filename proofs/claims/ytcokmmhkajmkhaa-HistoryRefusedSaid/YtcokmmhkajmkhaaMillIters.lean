/- What the program's own iterators hand over. -/
import Derived.Test.YtcokmmhkajmkhaaMillAll4
import Derived.Test.YtcokmmhkajmkhaaMillOkI
import Derived.Test.YtcokmmhkajmkhaaMillFI
namespace Go.Proofs.Mill
set_option linter.all false

/-! itReplay -/
noncomputable def vitReplay : Env := env1 [(83, s83)]
theorem gitReplay : GoodEnv vitReplay := goodEnv mix1 ent1 (goods_cons ok83 rfl goods_nil)
noncomputable def bitReplay : Code := fnBody Try.prog 155
noncomputable def litReplay : Code := cLoop (cBlk (cSeqR bitReplay))
noncomputable def yitReplay : Code := cBlk (cSeqL (cSeqR (cSeqR litReplay)))
set_option maxRecDepth 100000 in
theorem okitReplay : IterOK Try.prog itReplay := by
  intro q hq
  obtain ⟨L, k⟩ := q
  have hL : L.length ≤ 4294967296 := Nat.le_of_ble_eq_true (show Nat.ble L.length 4294967296 = true from hq)
  refine ⟨155, [.cptr [.lst .mark L] 0, .cptr [.fn 83 [.cptr [.int .i64 k] 0]] 0], rfl, gitReplay.2.2.1 155 (by kernel_rfl), fun c lb hv => ?_⟩
  refine only_iter (V := vitReplay) gitReplay (f := 155) (fn := Try.f155) (nt := 22) (rounds := 20) (depth := 6) (id0 := 0) (id3 := 3) (ops0 := cOps (cSeqL bitReplay)) (ops3 := cOps (cSeqL (cSeqR yitReplay))) (R1 := cSeqL litReplay) (K1 := cSeqL (cSeqR litReplay))
    (R2 := cSeqL yitReplay) (K2 := cSeqR (cSeqR yitReplay)) (R4 := cSeqR (cSeqR (cSeqR litReplay))) (enc := itReplay.enc) (els := L) (p := fun x => (fun k (x : Mark) => x.item == k) k x) (argOf := fun x => .agg ((.mark : Ty).encA x))
    (q2 := .cptr [.fn 83 [.cptr [.int .i64 k] 0]] 0) (qL := .lst .mark L) (cl := cCall ((cOps (cSeqL (cSeqR yitReplay))).toList.getD 6 default))
    (by kernel_rfl) (by kernel_rfl) (by kernel_rfl) (by omega) rfl (by kernel_rfl) rfl rfl (fun yv => by kernel_rfl) (fun yv i => ?_) (fun yv i b hi => ?_) (by kernel_rfl) (by kernel_rfl) (by kernel_rfl) (by kernel_rfl) (by kernel_rfl) (by kernel_rfl) (by kernel_rfl)
    (fun c x u hu => encAgg_uniq (cs := (.mark : Ty).encA x) rfl hu) hv rfl
  · refine Eq.trans ?_ (only_pre (L := L) (d := (.mark : Ty).dflt) (i := i) (p := fun x => (fun k (x : Mark) => x.item == k) k x) (fn := fun x => s83.fn (x, k)) ?_ hL
      (A := fun x => (true, [.bool true, .cst yv, .cptr [.fn 83 [.cptr [.int .i64 k] 0]] 0, .lst .mark L, .i L.length, .i (i : Int), .cst yv, .agg ((.mark : Ty).encA x)]))
      (B := fun _ => (false, [.cst yv, .cptr [.fn 83 [.cptr [.int .i64 k] 0]] 0, .lst .mark L, .i L.length, .i (wrapA .i64 ((i : Int) + 1))]))
      (A' := (false, [])) (B' := (false, [.cst yv, .cptr [.fn 83 [.cptr [.int .i64 k] 0]] 0, .lst .mark L, .i L.length, .i ((i + 1 : Nat) : Int)])) (fun x hx => ?_) (fun x hx hw => by rw [hw]))
    · show _ = _; kernel_rfl
    · intro x
      first
      | rfl
      | exact bif_and (x.t == k) _
    · have hg : L.getD (i : Int).toNat (.mark : Ty).dflt = x := by rw [Int.toNat_natCast, List.getD_eq_getElem?_getD, hx, Option.getD_some]
      simp only [hg]
  · have hw : wrapA .i64 ((i : Int) + 1) = ((i + 1 : Nat) : Int) := wrap_nat (by have hi' : i < L.length := hi; omega)
    rw [← hw]
    cases b with
    | true => rw [if_pos rfl]; show _ = _; kernel_rfl
    | false => rw [if_neg (by simp)]; show _ = _; kernel_rfl


/-! itOwn -/
noncomputable def vitOwn : Env := env1 [(89, s89)]
theorem gitOwn : GoodEnv vitOwn := goodEnv mix1 ent1 (goods_cons ok89 rfl goods_nil)
noncomputable def bitOwn : Code := fnBody Try.prog 155
noncomputable def litOwn : Code := cLoop (cBlk (cSeqR bitOwn))
noncomputable def yitOwn : Code := cBlk (cSeqL (cSeqR (cSeqR litOwn)))
set_option maxRecDepth 100000 in
theorem okitOwn : IterOK Try.prog itOwn := by
  intro q hq
  obtain ⟨L, k⟩ := q
  have hL : L.length ≤ 4294967296 := Nat.le_of_ble_eq_true (show Nat.ble L.length 4294967296 = true from hq)
  refine ⟨155, [.cptr [.lst .mark L] 0, .cptr [.fn 89 [.cptr [.int .i64 k] 0]] 0], rfl, gitOwn.2.2.1 155 (by kernel_rfl), fun c lb hv => ?_⟩
  refine only_iter (V := vitOwn) gitOwn (f := 155) (fn := Try.f155) (nt := 22) (rounds := 20) (depth := 6) (id0 := 0) (id3 := 3) (ops0 := cOps (cSeqL bitOwn)) (ops3 := cOps (cSeqL (cSeqR yitOwn))) (R1 := cSeqL litOwn) (K1 := cSeqL (cSeqR litOwn))
    (R2 := cSeqL yitOwn) (K2 := cSeqR (cSeqR yitOwn)) (R4 := cSeqR (cSeqR (cSeqR litOwn))) (enc := itOwn.enc) (els := L) (p := fun x => (fun k (x : Mark) => x.t == k) k x) (argOf := fun x => .agg ((.mark : Ty).encA x))
    (q2 := .cptr [.fn 89 [.cptr [.int .i64 k] 0]] 0) (qL := .lst .mark L) (cl := cCall ((cOps (cSeqL (cSeqR yitOwn))).toList.getD 6 default))
    (by kernel_rfl) (by kernel_rfl) (by kernel_rfl) (by omega) rfl (by kernel_rfl) rfl rfl (fun yv => by kernel_rfl) (fun yv i => ?_) (fun yv i b hi => ?_) (by kernel_rfl) (by kernel_rfl) (by kernel_rfl) (by kernel_rfl) (by kernel_rfl) (by kernel_rfl) (by kernel_rfl)
    (fun c x u hu => encAgg_uniq (cs := (.mark : Ty).encA x) rfl hu) hv rfl
  · refine Eq.trans ?_ (only_pre (L := L) (d := (.mark : Ty).dflt) (i := i) (p := fun x => (fun k (x : Mark) => x.t == k) k x) (fn := fun x => s89.fn (x, k)) ?_ hL
      (A := fun x => (true, [.bool true, .cst yv, .cptr [.fn 89 [.cptr [.int .i64 k] 0]] 0, .lst .mark L, .i L.length, .i (i : Int), .cst yv, .agg ((.mark : Ty).encA x)]))
      (B := fun _ => (false, [.cst yv, .cptr [.fn 89 [.cptr [.int .i64 k] 0]] 0, .lst .mark L, .i L.length, .i (wrapA .i64 ((i : Int) + 1))]))
      (A' := (false, [])) (B' := (false, [.cst yv, .cptr [.fn 89 [.cptr [.int .i64 k] 0]] 0, .lst .mark L, .i L.length, .i ((i + 1 : Nat) : Int)])) (fun x hx => ?_) (fun x hx hw => by rw [hw]))
    · show _ = _; kernel_rfl
    · intro x
      first
      | rfl
      | exact bif_and (x.t == k) _
    · have hg : L.getD (i : Int).toNat (.mark : Ty).dflt = x := by rw [Int.toNat_natCast, List.getD_eq_getElem?_getD, hx, Option.getD_some]
      simp only [hg]
  · have hw : wrapA .i64 ((i : Int) + 1) = ((i + 1 : Nat) : Int) := wrap_nat (by have hi' : i < L.length := hi; omega)
    rw [← hw]
    cases b with
    | true => rw [if_pos rfl]; show _ = _; kernel_rfl
    | false => rw [if_neg (by simp)]; show _ = _; kernel_rfl


/-! itEvents -/
noncomputable def vitEvents : Env := env1 [(159, s159)]
theorem gitEvents : GoodEnv vitEvents := goodEnv mix1 ent1 (goods_cons ok159 rfl goods_nil)
noncomputable def bitEvents : Code := fnBody Try.prog 194
noncomputable def litEvents : Code := cLoop (cBlk (cSeqR bitEvents))
noncomputable def yitEvents : Code := cBlk (cSeqL (cSeqR (cSeqR litEvents)))
set_option maxRecDepth 100000 in
theorem okitEvents : IterOK Try.prog itEvents := by
  intro q hq
  obtain ⟨L, k⟩ := q
  have hL : L.length ≤ 4294967296 := Nat.le_of_ble_eq_true (show Nat.ble L.length 4294967296 = true from hq)
  refine ⟨194, [.cptr [.lst .event L] 0, .cptr [.fn 159 [.cptr [.int .i64 k] 0]] 0], rfl, gitEvents.2.2.1 194 (by kernel_rfl), fun c lb hv => ?_⟩
  refine only_iter (V := vitEvents) gitEvents (f := 194) (fn := Try.f194) (nt := 22) (rounds := 20) (depth := 6) (id0 := 0) (id3 := 3) (ops0 := cOps (cSeqL bitEvents)) (ops3 := cOps (cSeqL (cSeqR yitEvents))) (R1 := cSeqL litEvents) (K1 := cSeqL (cSeqR litEvents))
    (R2 := cSeqL yitEvents) (K2 := cSeqR (cSeqR yitEvents)) (R4 := cSeqR (cSeqR (cSeqR litEvents))) (enc := itEvents.enc) (els := L) (p := fun x => (fun k (x : Event) => x.t == k && x.kind != 3) k x) (argOf := fun x => .agg ((.event : Ty).encA x))
    (q2 := .cptr [.fn 159 [.cptr [.int .i64 k] 0]] 0) (qL := .lst .event L) (cl := cCall ((cOps (cSeqL (cSeqR yitEvents))).toList.getD 6 default))
    (by kernel_rfl) (by kernel_rfl) (by kernel_rfl) (by omega) rfl (by kernel_rfl) rfl rfl (fun yv => by kernel_rfl) (fun yv i => ?_) (fun yv i b hi => ?_) (by kernel_rfl) (by kernel_rfl) (by kernel_rfl) (by kernel_rfl) (by kernel_rfl) (by kernel_rfl) (by kernel_rfl)
    (fun c x u hu => encAgg_uniq (cs := (.event : Ty).encA x) rfl hu) hv rfl
  · refine Eq.trans ?_ (only_pre (L := L) (d := (.event : Ty).dflt) (i := i) (p := fun x => (fun k (x : Event) => x.t == k && x.kind != 3) k x) (fn := fun x => s159.fn (x, k)) ?_ hL
      (A := fun x => (true, [.bool true, .cst yv, .cptr [.fn 159 [.cptr [.int .i64 k] 0]] 0, .lst .event L, .i L.length, .i (i : Int), .cst yv, .agg ((.event : Ty).encA x)]))
      (B := fun _ => (false, [.cst yv, .cptr [.fn 159 [.cptr [.int .i64 k] 0]] 0, .lst .event L, .i L.length, .i (wrapA .i64 ((i : Int) + 1))]))
      (A' := (false, [])) (B' := (false, [.cst yv, .cptr [.fn 159 [.cptr [.int .i64 k] 0]] 0, .lst .event L, .i L.length, .i ((i + 1 : Nat) : Int)])) (fun x hx => ?_) (fun x hx hw => by rw [hw]))
    · show _ = _; kernel_rfl
    · intro x
      first
      | rfl
      | exact bif_and (x.t == k) _
    · have hg : L.getD (i : Int).toNat (.event : Ty).dflt = x := by rw [Int.toNat_natCast, List.getD_eq_getElem?_getD, hx, Option.getD_some]
      simp only [hg]
  · have hw : wrapA .i64 ((i : Int) + 1) = ((i + 1 : Nat) : Int) := wrap_nat (by have hi' : i < L.length := hi; omega)
    rw [← hw]
    cases b with
    | true => rw [if_pos rfl]; show _ = _; kernel_rfl
    | false => rw [if_neg (by simp)]; show _ = _; kernel_rfl


end Go.Proofs.Mill
