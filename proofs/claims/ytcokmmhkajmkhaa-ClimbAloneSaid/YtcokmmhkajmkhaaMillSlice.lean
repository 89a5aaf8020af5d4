/- Slice expressions; all operations together. -/
import Derived.Test.YtcokmmhkajmkhaaMillCall
namespace Go.Proofs.Mill
variable {ds : List Deferred}
open Go.RowKit

section
variable {V : Env} {w0 w : World} {ok : Nat → Prop} {nt fid : Nat} {σ : St} {a : Act} {mu : Nat → Option Nat} {o : Oper} {v : AV} {ws : Wr}

theorem val_opdo {α : Type} {x : Option Operand} {k : Option AV → Rd α} {σ : St} {r : α} (h : (opdo x k).val σ = some r) : (k (x.map (valOf σ))).val σ = some r := by
  cases x with
  | none => exact h
  | some x => exact val_opd h


theorem run_bound {P : Program} {w : World} {v : Value} {x : AV} {y : Nat} {code : BoundsCode} {c : Cx} (hv : Mill.V c x v) (h0 : 0 ≤ bnd 0 (some x)) (h1 : bnd 0 (some x) ≤ y) :
    (Instr.sliceBound v y code).run P w = .ok (bnd 0 (some x)).toNat w := by
  cases x <;> simp only [bnd] at h0 h1 ⊢ <;> try omega
  simp only [Mill.V] at hv
  subst hv
  simp [Instr.sliceBound, asIntOf, h0, h1]

/-- The bounds of a slice expression. -/
theorem run_bounds {P : Program} (hr : R w0 ok nt ds σ a w mu) (lo hi : Option Operand) (isSlice : Bool) (len cap : Nat) (hc : len ≤ cap)
    (h0 : 0 ≤ bnd 0 (lo.map (valOf σ))) (h1 : bnd 0 (lo.map (valOf σ)) ≤ bnd len (hi.map (valOf σ))) (h2 : bnd len (hi.map (valOf σ)) ≤ (len : Int)) :
    (Instr.sliceBounds isSlice len cap (lo.map a.eval) (hi.map a.eval) none).run P w = .ok ((bnd 0 (lo.map (valOf σ))).toNat, (bnd len (hi.map (valOf σ))).toNat, cap) w := by
  have hb : ∀ (x : AV) (d : Int), bnd d (some x) = bnd 0 (some x) := fun x d => by cases x <;> rfl
  cases lo with
  | none =>
    cases hi with
    | none => simp [Instr.sliceBounds, bnd]
    | some hi =>
      simp only [Option.map_some, Option.map_none] at h0 h1 h2 ⊢
      rw [hb] at h1 h2 ⊢
      have hz : bnd 0 (none : Option AV) = 0 := rfl
      rw [hz] at h1 ⊢
      have e1 := fun code => run_bound (P := P) (w := w) (code := code) (y := cap) (V_operand hr hi) h1 (by omega)
      cases isSlice <;> simp [Instr.sliceBounds, e1]
  | some lo =>
    cases hi with
    | none =>
      simp only [Option.map_some, Option.map_none] at h0 h1 h2 ⊢
      have e1 := fun code => run_bound (P := P) (w := w) (code := code) (y := len) (V_operand hr lo) h0 (by simpa [bnd] using h1)
      cases isSlice <;> simp [Instr.sliceBounds, e1, bnd]
    | some hi =>
      simp only [Option.map_some] at h0 h1 h2 ⊢
      rw [hb _ (len : Int)] at h1 h2 ⊢
      have e1 := fun code => run_bound (P := P) (w := w) (code := code) (y := cap) (V_operand hr hi) (by omega) (by omega)
      have e2 := fun code => run_bound (P := P) (w := w) (code := code) (y := (bnd 0 (some (valOf σ hi))).toNat) (V_operand hr lo) h0 (by omega)
      cases isSlice <;> simp [Instr.sliceBounds, e1, e2]

theorem flatten_take_get : ∀ (rows : List (List D)) (n : Nat) (j : Nat) (d : D), (rows.take n).flatten[j]? = some d → rows.flatten[j]? = some d
  | rows, n, j, d, h => by
    have e : rows.flatten = (rows.take n).flatten ++ (rows.drop n).flatten := by rw [← List.flatten_append, List.take_append_drop]
    rw [e, List.getElem?_append_left (List.getElem?_eq_some_iff.1 h).1]
    exact h

theorem flatten_len {sz : Nat} : ∀ (rows : List (List D)), (∀ r ∈ rows, r.length = sz) → rows.flatten.length = rows.length * sz
  | [], _ => by simp
  | r :: rs, h => by
    rw [List.flatten_cons, List.length_append, h r (by simp), flatten_len rs (fun r hr => h r (by simp [hr])), List.length_cons, Nat.succ_mul, Nat.add_comm]

theorem flatten_drop_get {sz : Nat} (rows : List (List D)) (hs : ∀ r ∈ rows, r.length = sz) (l : Nat) (hl : l ≤ rows.length) (j : Nat) (d : D) (h : (rows.drop l).flatten[j]? = some d) :
    rows.flatten[l * sz + j]? = some d := by
  have e : rows.flatten = (rows.take l).flatten ++ (rows.drop l).flatten := by rw [← List.flatten_append, List.take_append_drop]
  have hlen : (rows.take l).flatten.length = l * sz := by
    rw [flatten_len (sz := sz) _ (fun r hr => hs r (List.mem_of_mem_take hr)), List.length_take, Nat.min_eq_left hl]
  rw [e, List.getElem?_append_right (by omega), hlen, Nat.add_sub_cancel_left]
  exact h

/-- A slice of plain data, cut. -/
theorem DV_sub {c : Cx} {τ : Ty} {xs : List τ.den} {v : Value} (h : c.DV (.lst τ.sz (xs.map τ.enc)) v) (l r : Nat) (hlr : l ≤ r) (hr : r ≤ xs.length) :
    ∃ A cap, v = .slice A xs.length cap ∧ xs.length ≤ cap ∧ c.DV (.lst τ.sz (((xs.take r).drop l).map τ.enc)) (.slice (if cap = l then A else A.map (·.add (l * τ.sz))) (r - l) (cap - l)) := by
  generalize hd : D.lst τ.sz (xs.map τ.enc) = d at h
  cases h with
  | nil sz A k hA =>
    injection hd with h1 h2
    have : xs = [] := by simpa using h2
    subst this
    simp only [List.length_nil, Nat.le_zero_eq] at hr
    subst hr
    obtain rfl : l = 0 := by omega
    exact ⟨A, k, rfl, by simp, by simpa using (show c.DV _ _ from DV.nil _ _ _ (fun h0 => by
      by_cases hk : k = 0
      · omega
      · rw [if_neg hk] at h0
        cases A with
        | none => exact absurd (hA rfl) hk
        | some a => simp at h0))⟩
  | lst sz rows b off k u hc hsz hcell hdv hb =>
    injection hd with h1 h2
    subst h1 h2
    have hn : xs.length ≤ k := by simpa using hc
    refine ⟨some ⟨b, off, none⟩, k, by simp, hn, ?_⟩
    by_cases hlr' : l = r
    · subst hlr'
      have : (xs.take l).drop l = [] := by simp
      rw [this, Nat.sub_self]
      exact DV.nil _ _ _ (fun h0 => by split at h0 <;> cases h0)
    · have hk : ¬ k = l := by omega
      rw [if_neg hk]
      have hlen : (((xs.take r).drop l).map τ.enc).length = r - l := by simp [Nat.min_eq_left hr]
      have hget : ∀ j d, (((xs.take r).drop l).map τ.enc).flatten[j]? = some d → (xs.map τ.enc).flatten[l * τ.sz + j]? = some d := by
        intro j d hj
        rw [List.map_drop, List.map_take] at hj
        refine flatten_take_get _ r _ _ ?_
        exact flatten_drop_get (sz := τ.sz) _ (fun r hr => hsz r (List.mem_of_mem_take hr)) l (by simp; omega) j d hj
      have key := DV.lst (w := c.w) (ok := c.okb) τ.sz (((xs.take r).drop l).map τ.enc) b (off + l * τ.sz) (k - l) (fun j => u (l * τ.sz + j))
        (by rw [hlen]; omega) (fun r' hr' => hsz r' (by
          obtain ⟨x, hx, rfl⟩ := List.mem_map.1 hr'
          exact List.mem_map_of_mem (List.mem_of_mem_take (List.mem_of_mem_drop hx))))
        (fun j d hj => by
          have := hcell _ d (hget j d hj)
          rw [Nat.add_assoc]
          exact this)
        (fun j d hj => hdv _ d (hget j d hj)) hb
      rw [hlen] at key
      have ha : Option.map (fun x : Addr => x.add (l * τ.sz)) (some ⟨b, off, none⟩) = some ⟨b, off + l * τ.sz, none⟩ := by simp [add_none]
      rw [ha]
      exact key
  | _ => cases hd

theorem does_slice {t : TypeId} {x : Operand} {lo hi : Option Operand} (ho : o.op = .slice t x lo hi none) (h : (evVal V fid o).val σ = some (v, ws)) (hr : R w0 ok nt ds σ a w mu) :
    Does V.P w0 ok o a w σ.ob mu v ws := by
  simp only [evVal, ho] at h
  have h := val_opd (val_opdo (val_opdo h))
  have hx := V_operand hr x
  generalize e1 : valOf σ x = X at h hx
  have rest : ∀ {X : AV}, Mill.V (cx w σ.ob mu ok) X (a.eval x) → (dataCell X fun v ws => match v with
    | .lst τ xs => bif sliceSz V t τ.sz then
        .ask (decide (0 ≤ bnd 0 (lo.map (valOf σ)))) (.ask (decide (bnd 0 (lo.map (valOf σ)) ≤ bnd xs.length (hi.map (valOf σ)))) (.ask (decide (bnd xs.length (hi.map (valOf σ)) ≤ (xs.length : Int)))
          (.ret (.lst τ ((xs.take (bnd xs.length (hi.map (valOf σ))).toNat).drop (bnd 0 (lo.map (valOf σ))).toNat), ws)) .fail) .fail) .fail
      else .fail
    | _ => .fail : Rd (AV × Wr)).val σ = some (v, ws) → Does V.P w0 ok o a w σ.ob mu v ws := by
    intro X hx h
    obtain ⟨y, ws1, h, hfz, hone, hto⟩ := dataCell_ok h
    cases y with
    | lst τ xs =>
      simp only at h
      obtain ⟨hs, h⟩ := val_bif h
      obtain ⟨h0, h⟩ := val_ask h
      obtain ⟨h1, h⟩ := val_ask h
      obtain ⟨h2, h⟩ := val_ask h
      have h0 := of_decide_eq_true h0
      have h1 := of_decide_eq_true h1
      have h2 := of_decide_eq_true h2
      have h3 := val_ret h
      injection h3 with h3 h4
      subst h3 h4
      obtain ⟨mu1, hm1, hmono1, hws, hothers⟩ := freezeAll hfz hr.mem
      have hv : (cx w (appOb ws1 σ.ob) mu1 ok).DV _ _ := hto _ _ _ rfl hmono1 hws hx
      obtain ⟨A, cap, hxe, hcap, hsub⟩ := DV_sub hv (bnd 0 (lo.map (valOf σ))).toNat (bnd xs.length (hi.map (valOf σ))).toNat (by omega) (by omega)
      obtain ⟨e, i, hu, hi', hsz⟩ := sliceSz_ok hs
      have hb := run_bounds (P := V.P) hr lo hi true xs.length cap hcap h0 h1 h2
      refine .mk (w' := w) ?_ ⟨mu1, hm1, hmono1, hsub⟩
      have hsl : (Instr.slice t (.slice A xs.length cap) (lo.map a.eval) (hi.map a.eval) none).run V.P w = .ok (.slice (if cap = (bnd 0 (lo.map (valOf σ))).toNat then A else A.map (·.add ((bnd 0 (lo.map (valOf σ))).toNat * τ.sz))) ((bnd xs.length (hi.map (valOf σ))).toNat - (bnd 0 (lo.map (valOf σ))).toNat) (cap - (bnd 0 (lo.map (valOf σ))).toNat)) w := by
        simp [Instr.slice, run_underlying hu, hb, sizeOf, typeInfo, hi', hsz]
      simp only [execOp, ho, Sem.run_bind, hxe, Option.map_none, Instr.sliceAt, run_underlying hu, hsl, Result.andThen_ok]
      rfl
    | _ => simp [Rd.val] at h
  cases X with
  | str s =>
    simp only [sliceA] at h
    split at h
    case h_2 => simp [Rd.val] at h
    rename_i hu
    obtain ⟨h0, h⟩ := val_ask h
    obtain ⟨h1, h⟩ := val_ask h
    obtain ⟨h2, h⟩ := val_ask h
    have h0 := of_decide_eq_true h0
    have h1 := of_decide_eq_true h1
    have h2 := of_decide_eq_true h2
    have h3 := val_ret h
    injection h3 with h3 h4
    subst h3 h4
    simp only [Mill.V] at hx
    have hb := run_bounds (P := V.P) hr lo hi false s.size s.size (Nat.le_refl _) h0 h1 h2
    refine .mk (u := .string (s.extract (bnd 0 (lo.map (valOf σ))).toNat (bnd s.size (hi.map (valOf σ))).toNat)) (w' := w) ?_ (Post.pure hr.mem (V_str _ _))
    simp only [execOp, ho, Sem.run_bind, hx, Instr.sliceAt, Instr.slice, run_underlying hu, Result.andThen_ok, Option.map_none]
    simp [hb]
  | _ => exact rest hx h

end
end Go.Proofs.Mill
