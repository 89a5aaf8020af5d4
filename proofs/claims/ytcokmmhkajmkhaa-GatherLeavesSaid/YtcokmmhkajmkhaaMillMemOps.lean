/- Loads and stores. -/
import Derived.Test.YtcokmmhkajmkhaaMillOps
set_option linter.all false
namespace Go.Proofs.Mill
open Go.RowKit

/-- What an operation leaves. -/
def Post (w0 : World) (ok : Nat → Prop) (w : World) (ob : List (Nat × AV)) (mu : Nat → Option Nat) (v : AV) (ws : Wr) (u : Value) (w' : World) : Prop :=
  ∃ mu', Mem w0 (cx w' (appOb ws ob) mu' ok) ∧ Mono (cx w ob mu ok) (cx w' (appOb ws ob) mu' ok) ∧ V (cx w' (appOb ws ob) mu' ok) v u

theorem Post.pure {w0 : World} {ok : Nat → Prop} {w : World} {ob : List (Nat × AV)} {mu : Nat → Option Nat} {v : AV} {u : Value}
    (h : Mem w0 (cx w ob mu ok)) (hv : V (cx w ob mu ok) v u) : Post w0 ok w ob mu v [] u w := ⟨mu, h, Mono.refl _, hv⟩

theorem add_none (b o j : Nat) : (⟨b, o, none⟩ : Addr).add j = ⟨b, o + j, none⟩ := by unfold Addr.add; split <;> simp_all

/-- Cells that stand at a place. -/
def CellsAt (c : Cx) (b o : Nat) (cs : List AV) : Prop := ∃ vs, VL c cs vs ∧ ∀ j v, vs[j]? = some v → c.w.cell? ⟨b, o + j, none⟩ = some v

theorem CellsAt.drop {c : Cx} {b o : Nat} {cs : List AV} (h : CellsAt c b o cs) (n : Nat) : CellsAt c b (o + n) (cs.drop n) := by
  obtain ⟨vs, h1, h2⟩ := h
  refine ⟨vs.drop n, h1.drop n, fun j v hj => ?_⟩
  rw [List.getElem?_drop] at hj
  rw [Nat.add_assoc]
  exact h2 _ _ hj

theorem CellsAt.take {c : Cx} {b o : Nat} {cs : List AV} (h : CellsAt c b o cs) (n : Nat) : CellsAt c b o (cs.take n) := by
  obtain ⟨vs, h1, h2⟩ := h
  refine ⟨vs.take n, h1.take n, fun j v hj => ?_⟩
  rw [List.getElem?_take] at hj
  split at hj
  · exact h2 _ _ hj
  · simp at hj

theorem info_size {V : Env} {t : TypeId} {n : Nat} (h : sizeOf? V t = some n) : (∃ d, V.P.underlying t = some d) ∧ ∃ i, V.P.info? t = some i ∧ i.size = n := by
  unfold sizeOf? at h
  cases hu : V.P.underlying t with
  | none => simp [hu] at h
  | some d =>
    refine ⟨⟨d, rfl⟩, ?_⟩
    cases hi : V.P.info? t with
    | none => simp [hu, hi] at h
    | some i => exact ⟨i, rfl, by simpa [hu, hi] using h⟩

/-- An aggregate or none: as the model asks it. -/
theorem run_isAgg {V : Env} {t : TypeId} {d : TypeDesc} (hd : V.P.underlying t = some d) (w : World) : (isAgg t).run V.P w = .ok (isAgg? V t) w := by
  unfold isAgg
  rw [Sem.run_bind, run_underlying hd w]
  unfold isAgg?
  rw [hd]
  cases d <;> rfl

theorem run_loadVar_cut {V : Env} {c : Cx} {b o : Nat} {cs : List AV} {t : TypeId} {off : Nat} {av : AV} (h : CellsAt c b o cs) (hc : cut V t cs off = some av) :
    ∃ u, (loadVar t ⟨b, o + off, none⟩).run V.P c.w = .ok u c.w ∧ Mill.V c av u := by
  unfold cut at hc
  cases hs : sizeOf? V t with
  | none => rw [hs] at hc; simp at hc
  | some n =>
    rw [hs] at hc
    simp only at hc
    obtain ⟨⟨d, hd⟩, i, hi, rfl⟩ := info_size hs
    cases ha : isAgg? V t with
    | true =>
      rw [ha] at hc
      simp only [cond_true] at hc
      cases hb : Nat.ble (off + i.size) cs.length with
      | false => rw [hb] at hc; simp at hc
      | true =>
        rw [hb] at hc
        simp only [cond_true, Option.some.injEq] at hc
        subst hc
        have hle := Nat.le_of_ble_eq_true hb
        obtain ⟨vs, h1, h2⟩ := (h.drop off).take i.size
        have hl : vs.length = i.size := by
          have := h1.length
          rw [List.length_take, List.length_drop] at this
          omega
        have hrun := run_loadCells_list (P := V.P) c.w ⟨b, o + off, none⟩ vs (fun j v hj => by rw [add_none]; exact h2 j v hj)
        refine ⟨.agg vs.toArray, ?_, ⟨vs.toArray, rfl, by simpa using h1⟩⟩
        rw [hl] at hrun
        simp [loadVar, run_isAgg hd, ha, sizeOf, typeInfo, hi, hrun]
    | false =>
      rw [ha] at hc
      simp only [cond_false] at hc
      obtain ⟨vs, h1, h2⟩ := h
      obtain ⟨u, hu, hv⟩ := h1.get off av hc
      refine ⟨u, ?_, hv⟩
      have := h2 off u hu
      simp [loadVar, run_isAgg hd, ha, this]

/-- An element's cells, out of plain data. -/
theorem V_of_DV {c : Cx} : ∀ (τ : Ty) (x : τ.den) {vs : List Value}, c.DVs (τ.enc x) vs → VL c (τ.encA x) vs := by
  have hi : ∀ {k : IntKind} {n : Int} {v : Value}, c.DV (.int k n) v → V c (.int k n) v := by intro k n v h; cases h; rfl
  have hb : ∀ {n : Bool} {v : Value}, c.DV (.bool n) v → V c (.bool n) v := by intro n v h; cases h; rfl
  have hst : ∀ {n : ByteArray} {v : Value}, c.DV (.str n) v → V c (.str n) v := by intro n v h; cases h; rfl
  have key : ∀ {ds : List D} {as : List AV} {vs : List Value}, c.DVs ds vs → as.length = ds.length → (∀ (i : Nat) (d : D) (v : Value), ds[i]? = some d → c.DV d v → ∀ x, as[i]? = some x → V c x v) → VL c as vs := by
    intro ds
    induction ds with
    | nil => intro as vs h hl _; cases vs with
      | nil => cases as with
        | nil => trivial
        | cons => simp at hl
      | cons => exact h.elim
    | cons d ds ih => intro as vs h hl k; cases vs with
      | nil => exact h.elim
      | cons v vs => cases as with
        | nil => simp at hl
        | cons x as => exact ⟨k 0 d v rfl h.1 x rfl, ih h.2 (by simpa using hl) fun i d' v' hd hv x hx => k (i + 1) d' v' (by simpa using hd) hv x (by simpa using hx)⟩
  intro τ x vs h
  refine key h (by cases τ <;> rfl) ?_
  intro i d v hd hv y hy
  cases τ <;> simp only [Ty.enc, Ty.encA, encInt, encU8, encStr, encEntry, encKid, encMark, encEvent, encThread, encSEntry, encWant, encClient, encReply] at hd hy <;>
    (rcases i with _ | _ | _ | _ | _ | _ | _ | _ | _ | _ | _ | _ | _ | _ | _ | _ | _ | i <;> simp at hd hy <;> subst hd <;> subst hy <;> first | exact hi hv | exact hb hv | exact hst hv | exact hv)

theorem flatten_seg (τ : Ty) : ∀ (xs : List τ.den) (i j : Nat) (x : τ.den), xs[i]? = some x → j < τ.sz → (xs.map τ.enc).flatten[i * τ.sz + j]? = (τ.enc x)[j]?
  | [], i, _, _, h, _ => by simp at h
  | y :: ys, 0, j, x, h, hj => by
    simp only [List.getElem?_cons_zero, Option.some.injEq] at h
    subst h
    simp only [List.map_cons, List.flatten_cons, Nat.zero_mul, Nat.zero_add]
    rw [List.getElem?_append_left (by rw [τ.enc_length]; exact hj)]
  | y :: ys, i + 1, j, x, h, hj => by
    simp only [List.getElem?_cons_succ] at h
    simp only [List.map_cons, List.flatten_cons]
    rw [List.getElem?_append_right (by rw [τ.enc_length, Nat.add_mul]; omega), τ.enc_length]
    rw [show (i + 1) * τ.sz + j - τ.sz = i * τ.sz + j by rw [Nat.add_mul]; omega]
    exact flatten_seg τ ys i j x h hj

theorem getD_of_lt {α : Type} (xs : List α) (d : α) (i : Nat) (h : i < xs.length) : xs[i]? = some (xs.getD i d) := by
  simp [List.getD, h]

theorem elemCells {c : Cx} {τ : Ty} {xs : List τ.den} {b o i : Nat} (hi : i < xs.length)
    (h : ∀ (j : Nat) (d : D), (xs.map τ.enc).flatten[j]? = some d → ∃ v, c.w.cell? ⟨b, o + j, none⟩ = some v ∧ c.DV d v) :
    CellsAt c b (o + i * τ.sz) (τ.encA (xs.getD i τ.dflt)) := by
  have hx := getD_of_lt xs τ.dflt i hi
  have hlen := τ.enc_length (xs.getD i τ.dflt)
  have hseg : ∀ j d, (τ.enc (xs.getD i τ.dflt))[j]? = some d → ∃ v, c.w.cell? ⟨b, o + i * τ.sz + j, none⟩ = some v ∧ c.DV d v := by
    intro j d hj
    have hjl : j < τ.sz := by
      rcases Nat.lt_or_ge j τ.sz with h' | h'
      · exact h'
      · rw [List.getElem?_eq_none (by omega)] at hj; cases hj
    have := h (i * τ.sz + j) d (by rw [flatten_seg τ xs i j _ hx hjl]; exact hj)
    rw [Nat.add_assoc]
    exact this
  refine ⟨(List.range τ.sz).map fun j => (c.w.cell? ⟨b, o + i * τ.sz + j, none⟩).getD undef, ?_, ?_⟩
  · refine V_of_DV τ _ (Cx.DVs.mk (by rw [List.length_map, List.length_range, hlen]) fun j d v hd hv => ?_)
    obtain ⟨u, hu, hd'⟩ := hseg j d hd
    have hjl : j < τ.sz := by
      rcases Nat.lt_or_ge j τ.sz with h' | h'
      · exact h'
      · rw [List.getElem?_eq_none (by omega)] at hd; cases hd
    simp [hjl, hu] at hv
    subst hv
    exact hd'
  · intro j v hj
    have hjl : j < τ.sz := by
      rcases Nat.lt_or_ge j τ.sz with h' | h'
      · exact h'
      · rw [List.getElem?_eq_none (by simp; omega)] at hj; cases hj
    obtain ⟨d, hd⟩ : ∃ d, (τ.enc (xs.getD i τ.dflt))[j]? = some d := ⟨_, List.getElem?_eq_getElem (by omega)⟩
    obtain ⟨u, hu, _⟩ := hseg j d hd
    simp [hjl, hu] at hj
    subst hj
    exact hu

theorem boxCells {c : Cx} {b : Nat} {cs : List AV} {cur : Array Value} {e : TypeId} (hh : c.w.heap[b]? = some (.cells cur e (0, 0))) (hv : VL c cs cur.toList) :
    CellsAt c b 0 cs := ⟨cur.toList, hv, fun j v hj => by simp only [World.cell?, hh, Nat.zero_add]; simpa using hj⟩

theorem rowCells {c : Cx} {e : TypeId} {τ : Ty} {b cap : Nat} {cur : Array Value} {xs : List τ.den} (hr : RowAt c e τ b cap cur)
    (hd : c.DVs (xs.map τ.enc).flatten (cur.toList.take (xs.length * τ.sz))) (j : Nat) (d : D) (hj : (xs.map τ.enc).flatten[j]? = some d) :
    ∃ v, c.w.cell? ⟨b, 0 + j, none⟩ = some v ∧ c.DV d v := by
  obtain ⟨v, hv, hdv⟩ := hd.get j d hj
  refine ⟨v, ?_, hdv⟩
  rw [List.getElem?_take] at hv
  split at hv
  · simp only [World.cell?, hr.1, Nat.zero_add]; simpa using hv
  · simp at hv

theorem LptrV.cells {c : Cx} {τ : Ty} {xs : List τ.den} {i off : Nat} {v : Value} (h : LptrV c τ xs i off v) :
    ∃ b o, v = .pointer (some ⟨b, o + i * τ.sz + off, none⟩) ∧ CellsAt c b (o + i * τ.sz) (τ.encA (xs.getD i τ.dflt)) := by
  obtain ⟨hi, b, o, u, rfl, _, hc, hd⟩ := h
  exact ⟨b, o, rfl, elemCells hi fun j d hj => ⟨u j, hc j d hj, hd j d hj⟩⟩

/-- A load. -/
theorem rdAt_ok {V : Env} {α : Type} {k : AV → Rd α} {r : α} {t : TypeId} {p : AV} {pv : Value} {σ : St} {w0 w : World} {mu : Nat → Option Nat} {ok : Nat → Prop}
    (h : (rdAt V t p k).val σ = some r) (hm : Mem w0 (cx w σ.ob mu ok)) (hp : Mill.V (cx w σ.ob mu ok) p pv) :
    ∃ v u, (k v).val σ = some r ∧ (Instr.loadAt t pv).run V.P w = .ok u w ∧ Mill.V (cx w σ.ob mu ok) v u := by
  have key : ∀ {b o off : Nat} {cs : List AV}, CellsAt (cx w σ.ob mu ok) b o cs → pv = .pointer (some ⟨b, o + off, none⟩) →
      (ofOpt (cut V t cs off) fun v => giveCut v k).val σ = some r →
      ∃ v u, (k v).val σ = some r ∧ (Instr.loadAt t pv).run V.P w = .ok u w ∧ Mill.V (cx w σ.ob mu ok) v u := by
    intro b o off cs hc hpv hk
    obtain ⟨v, hv, hk⟩ := val_ofOpt hk
    obtain ⟨u, hu, hvu⟩ := run_loadVar_cut hc hv
    refine ⟨v, u, val_giveCut hk, ?_, hvu⟩
    subst hpv
    simpa [Instr.loadAt, Instr.sureAddr] using hu
  cases p with
  | ptr id off =>
    simp only [rdAt, Rd.val] at h
    change PtrV _ id off pv at hp
    unfold PtrV at hp
    have ho := hm.obj id
    unfold ObjOK at ho
    change (match σ.get (.m id) with | .box cs => _ | _ => _ : Rd α).val σ = some r at h
    rw [show (cx w σ.ob mu ok).ob id = σ.get (.m id) from rfl] at hp ho
    cases hob : σ.get (.m id) <;> rw [hob] at h hp ho <;> try (simp [Rd.val] at h; done)
    case box cs =>
      obtain ⟨b, hb, rfl⟩ := hp
      obtain ⟨b', cur, e, hb', hh, hv⟩ := ho
      rw [hb] at hb'; cases hb'
      exact key (boxCells hh hv) (by rw [Nat.zero_add]) h
  | eptr id i off =>
    simp only [rdAt, Rd.val] at h
    change EptrV _ id i off pv at hp
    unfold EptrV at hp
    have ho := hm.obj id
    unfold ObjOK at ho
    change (match σ.get (.m id) with | .row _ τ xs => _ | .frz τ xs => _ | _ => _ : Rd α).val σ = some r at h
    rw [show (cx w σ.ob mu ok).ob id = σ.get (.m id) from rfl] at hp ho
    cases hob : σ.get (.m id) <;> rw [hob] at h hp ho <;> try (simp [Rd.val] at h; done)
    case row e τ xs =>
      obtain ⟨b, hb, rfl, hi⟩ := hp
      rcases ho with ⟨hn, _⟩ | ⟨b', cap, cur, hb', hr, hl, hcm, hd⟩
      · rw [hb] at hn; cases hn
      · rw [hb] at hb'; cases hb'
        exact key (elemCells hi (rowCells hr hd)) (by rw [Nat.zero_add]) h
    case frz τ xs =>
      obtain ⟨b, o, rfl, hc⟩ := LptrV.cells hp
      exact key hc rfl h
  | lptr τ xs i off =>
    obtain ⟨b, o, rfl, hc⟩ := LptrV.cells hp
    exact key hc rfl h
  | _ => simp [rdAt, Rd.val] at h

end Go.Proofs.Mill
