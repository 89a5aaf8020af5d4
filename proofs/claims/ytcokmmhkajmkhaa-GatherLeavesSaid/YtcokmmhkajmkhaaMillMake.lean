/- Operations that make memory, or values of several cells. -/
import Derived.Test.YtcokmmhkajmkhaaMillStore2
import Derived.Laws.MakeOwn
import Derived.Laws.OwnMore
set_option linter.all false
namespace Go.Proofs.Mill
open Go.RowKit

theorem VL_ofValue (c : Cx) (z : Value) : VL c (ofValue z).cells z.cells.toList := by
  by_cases h : ∃ cs, z = .agg cs
  · obtain ⟨cs, rfl⟩ := h
    exact VL_ofCells c _
  · have h1 : z.cells = #[z] := by cases z <;> first | rfl | exact (h ⟨_, rfl⟩).elim
    have h2 : (ofValue z).cells = [ofValue z] := by
      unfold ofValue
      split <;> first | exact (h ⟨_, rfl⟩).elim | rfl
    rw [h1, h2]
    exact ⟨V_ofValue c z, trivial⟩

theorem zeroCells_ok {V : Env} {t : TypeId} {cs : List AV} (h : zeroCells? V t = some cs) :
    ∃ i z, V.P.info? t = some i ∧ i.zero = some z ∧ cs = (ofValue z).cells := by
  unfold zeroCells? at h
  cases hi : V.P.info? t with
  | none => simp [hi] at h
  | some i =>
    cases hz : i.zero with
    | none => simp [hi, hz] at h
    | some z => exact ⟨i, z, rfl, hz, by simpa [hi, hz] using h.symm⟩

theorem turned_alloc {w : World} {o : Obj} {may : Nat → Prop} : Turned w (w.alloc o) may :=
  ⟨rfl, rfl, rfl, by simp, fun k hk _ => Below.heap_alloc w o k hk⟩

/-- A new variable. -/
theorem post_box {w0 w : World} {ok : Nat → Prop} {ob : List (Nat × AV)} {mu : Nat → Option Nat} {id : Nat} {cs : List AV} {cur : Array Value} {e : TypeId}
    (hm : Mem w0 (cx w ob mu ok)) (hid : look ob id = .undef) (hv : VL (cx w ob mu ok) cs cur.toList) :
    Post w0 ok w ob mu (.ptr id 0) [(id, .box cs)] (.pointer (some ⟨w.heap.size, 0, none⟩)) (w.alloc (.cells cur e (0, 0))) := by
  have ha := hm.alloc (w' := w.alloc (.cells cur e (0, 0))) (o := .box cs) (blk := some w.heap.size) hid turned_alloc (fun b hb => by cases hb; simp)
  have hl : (cx (w.alloc (.cells cur e (0, 0))) ((id, .box cs) :: ob) (upd mu id (some w.heap.size)) ok).ob id = .box cs := look_eq _ _ _
  refine ⟨upd mu id (some w.heap.size), ha.2 ?_, ha.1, ?_⟩
  · unfold ObjOK
    rw [hl]
    exact ⟨w.heap.size, cur, e, upd_eq _ _ _, heap_alloc_new _ _, ha.1.vl _ _ hv⟩
  · show PtrV _ id 0 _
    unfold PtrV
    rw [show (cx (w.alloc (.cells cur e (0, 0))) (appOb [(id, .box cs)] ob) (upd mu id (some w.heap.size)) ok).ob id = .box cs from look_eq _ _ _]
    exact ⟨w.heap.size, upd_eq _ _ _, rfl⟩

/-- A new row. -/
theorem post_row {w0 w : World} {ok : Nat → Prop} {ob : List (Nat × AV)} {mu : Nat → Option Nat} {id : Nat} {τ : Ty} {xs : List τ.den} {cur : Array Value} {e : TypeId}
    (hm : Mem w0 (cx w ob mu ok)) (hid : look ob id = .undef) (hsz : cur.size = xs.length * τ.sz) (hmax : xs.length ≤ maxLen)
    (hv : (cx w ob mu ok).DVs (xs.map τ.enc).flatten cur.toList) :
    Post w0 ok w ob mu (.own id) [(id, .row e τ xs)] (.slice (some ⟨w.heap.size, 0, none⟩) xs.length xs.length) (w.alloc (.cells cur e (0, 0))) := by
  have ha := hm.alloc (w' := w.alloc (.cells cur e (0, 0))) (o := .row e τ xs) (blk := some w.heap.size) hid turned_alloc (fun b hb => by cases hb; simp)
  have hr : RowAt (cx (w.alloc (.cells cur e (0, 0))) ((id, .row e τ xs) :: ob) (upd mu id (some w.heap.size)) ok) e τ w.heap.size xs.length cur := ⟨heap_alloc_new _ _, hsz⟩
  refine ⟨upd mu id (some w.heap.size), ha.2 ?_, ha.1, ?_⟩
  · unfold ObjOK
    rw [show (cx (w.alloc (.cells cur e (0, 0))) ((id, .row e τ xs) :: ob) (upd mu id (some w.heap.size)) ok).ob id = .row e τ xs from look_eq _ _ _]
    refine .inr ⟨w.heap.size, xs.length, cur, upd_eq _ _ _, hr, Nat.le_refl _, hmax, ?_⟩
    rw [List.take_of_length_le (by rw [Array.length_toList]; omega)]
    exact Cx.DVs.imp ha.1.dv hv
  · show OwnV _ id _
    unfold OwnV
    rw [show (cx (w.alloc (.cells cur e (0, 0))) (appOb [(id, .row e τ xs)] ob) (upd mu id (some w.heap.size)) ok).ob id = .row e τ xs from look_eq _ _ _]
    exact .inr ⟨w.heap.size, xs.length, cur, upd_eq _ _ _, hr, Nat.le_refl _, rfl⟩

theorem fold_set : ∀ (vs : List Value) (off k : Nat) (cs : Array Value), off + k + vs.length ≤ cs.size →
    ((vs.zipIdx k).foldl (fun (cs : Array Value) (p : Value × Nat) => cs.setIfInBounds (off + p.2) p.1) cs).toList = cs.toList.take (off + k) ++ vs ++ cs.toList.drop (off + k + vs.length)
  | [], off, k, cs, _ => by simp
  | v :: vs, off, k, cs, h => by
    simp only [List.zipIdx_cons, List.foldl_cons]
    rw [fold_set vs off (k + 1) _ (by simp at h ⊢; omega)]
    have e := list_seg_step cs.toList (off + k) v vs (by simp at h ⊢; omega)
    simpa [Array.toList_setIfInBounds, Nat.add_assoc] using e

theorem fill_ok {c : Cx} {place : Nat → Option (Nat × Nat)} : ∀ {parts : List (Nat × AV)} {cells cs' : List AV} {carr : Array Value} {vs : List (Nat × Value)},
    fillA place cells parts = some cs' → VL c cells carr.toList → parts.map (·.1) = vs.map (·.1) → VL c (parts.map (·.2)) (vs.map (·.2)) →
    ∃ carr', Instr.fill place carr vs = some carr' ∧ VL c cs' carr'.toList
  | [], cells, cs', carr, vs, h, hc, hi, _ => by
    cases vs with
    | cons => simp at hi
    | nil =>
      simp only [fillA, Option.some.injEq] at h
      subst h
      exact ⟨carr, rfl, hc⟩
  | (i, v) :: parts, cells, cs', carr, vs, h, hc, hi, hv => by
    cases vs with
    | nil => simp at hi
    | cons q vs =>
      obtain ⟨j, u⟩ := q
      simp only [List.map_cons, List.cons.injEq] at hi
      obtain ⟨rfl, hi⟩ := hi
      obtain ⟨hv1, hv2⟩ := hv
      simp only [fillA] at h
      simp only [Instr.fill]
      cases hp : place i with
      | none => rw [hp] at h; simp at h
      | some q =>
        obtain ⟨off, n⟩ := q
        rw [hp] at h
        simp only at h ⊢
        cases hg : (Nat.beq v.cells.length n && Nat.ble (off + n) cells.length && v.cells.all AV.one) with
        | false => rw [hg] at h; simp at h
        | true =>
          rw [hg] at h
          simp only [cond_true] at h
          simp only [Bool.and_eq_true] at hg
          obtain ⟨⟨h1, h2⟩, h3⟩ := hg
          have h1 := Nat.eq_of_beq_eq_true h1
          have h2 := Nat.le_of_ble_eq_true h2
          have hvc := V_cells hv1 h3
          have hl := hvc.length
          have hcl := hc.length
          simp only [Array.length_toList] at hl hcl
          rw [if_neg (by simp; omega)]
          refine fill_ok h ?_ hi hv2
          have hf := fold_set u.cells.toList off 0 carr (by simp; omega)
          rw [← Array.foldl_toList, Array.toList_zipIdx]
          simp only [Nat.add_zero] at hf
          rw [hf]
          exact VL_splice hc hvc

theorem build_ok {V : Env} {c : Cx} {t : TypeId} {z cs' : List AV} {parts : List (Nat × AV)} {vs : List (Nat × Value)}
    (hz : zeroCells? V t = some z) (h : buildA V t z parts = some cs') (hi : parts.map (·.1) = vs.map (·.1)) (hv : VL c (parts.map (·.2)) (vs.map (·.2))) (w : World) :
    ∃ carr : Array Value, (Instr.build t vs.toArray).run V.P w = .ok (.agg carr) w ∧ VL c cs' carr.toList := by
  obtain ⟨it, zv, hit, hzv, rfl⟩ := zeroCells_ok hz
  have hz0 := VL_ofValue c zv
  unfold buildA at h
  split at h
  · rename_i fs hu
    split at h
    · rename_i places hp
      obtain ⟨carr, hf, hcv⟩ := fill_ok h hz0 hi hv
      refine ⟨carr, run_build w t _ carr ?_, hcv⟩
      simpa [Program.built, hit, hu, hzv, hp] using hf
    · cases h
  · rename_i n e hu
    split at h
    · rename_i ie hie
      obtain ⟨carr, hf, hcv⟩ := fill_ok h hz0 hi hv
      refine ⟨carr, run_build w t _ carr ?_, hcv⟩
      simpa [Program.built, hit, hu, hzv, hie] using hf
    · cases h
  · cases h

end Go.Proofs.Mill
