/- Slice expressions; all operations together. -/
import Derived.Test.YtcokmmhkajmkhaaMillCall
set_option linter.all false
namespace Go.Proofs.Mill
variable {ds : List Deferred}
open Go.RowKit

section
variable {V : Env} {w0 w : World} {ok : Nat → Prop} {nt fid : Nat} {σ : St} {a : Act} {mu : Nat → Option Nat} {o : Oper} {v : AV} {ws : Wr}

theorem val_opdo {α : Type} {x : Option Operand} {k : Option AV → Rd α} {σ : St} {r : α} (h : (opdo x k).val σ = some r) : (k (x.map (valOf σ))).val σ = some r := by
  cases x with
  | none => exact h
  | some x => exact val_opd h


theorem run_bound {P : Program} {w : World} {v : Value} {x : AV} {y : Nat} {code : BoundsCode} {c : Cx} (hv : Mill.V c x v) (h0 : 0 ≤ bnd 0 (some x)) (h1 : bnd 0 (some x) ≤ y) :
    (Instr.sliceBound v y code).run P w = .ok (bnd 0 (some x)).toNat w := by
  cases x <;> simp only [bnd] at h0 h1 ⊢ <;> try omega
  simp only [Mill.V] at hv
  subst hv
  simp [Instr.sliceBound, asIntOf, h0, h1]

/-- The bounds of a slice expression. -/
theorem run_bounds {P : Program} (hr : R w0 ok nt ds σ a w mu) (lo hi : Option Operand) (isSlice : Bool) (len cap : Nat) (hc : len ≤ cap)
    (h0 : 0 ≤ bnd 0 (lo.map (valOf σ))) (h1 : bnd 0 (lo.map (valOf σ)) ≤ bnd len (hi.map (valOf σ))) (h2 : bnd len (hi.map (valOf σ)) ≤ (len : Int)) :
    (Instr.sliceBounds isSlice len cap (lo.map a.eval) (hi.map a.eval) none).run P w = .ok ((bnd 0 (lo.map (valOf σ))).toNat, (bnd len (hi.map (valOf σ))).toNat, cap) w := by
  have hb : ∀ (x : AV) (d : Int), bnd d (some x) = bnd 0 (some x) := fun x d => by cases x <;> rfl
  cases lo with
  | none =>
    cases hi with
    | none => simp [Instr.sliceBounds, bnd]
    | some hi =>
      simp only [Option.map_some, Option.map_none] at h0 h1 h2 ⊢
      rw [hb] at h1 h2 ⊢
      have hz : bnd 0 (none : Option AV) = 0 := rfl
      rw [hz] at h1 ⊢
      have e1 := fun code => run_bound (P := P) (w := w) (code := code) (y := cap) (V_operand hr hi) h1 (by omega)
      cases isSlice <;> simp [Instr.sliceBounds, e1]
  | some lo =>
    cases hi with
    | none =>
      simp only [Option.map_some, Option.map_none] at h0 h1 h2 ⊢
      have e1 := fun code => run_bound (P := P) (w := w) (code := code) (y := len) (V_operand hr lo) h0 (by simpa [bnd] using h1)
      cases isSlice <;> simp [Instr.sliceBounds, e1, bnd]
    | some hi =>
      simp only [Option.map_some] at h0 h1 h2 ⊢
      rw [hb _ (len : Int)] at h1 h2 ⊢
      have e1 := fun code => run_bound (P := P) (w := w) (code := code) (y := cap) (V_operand hr hi) (by omega) (by omega)
      have e2 := fun code => run_bound (P := P) (w := w) (code := code) (y := (bnd 0 (some (valOf σ hi))).toNat) (V_operand hr lo) h0 (by omega)
      cases isSlice <;> simp [Instr.sliceBounds, e1, e2]

theorem flatten_take_get : ∀ (rows : List (List D)) (n : Nat) (j : Nat) (d : D), (rows.take n).flatten[j]? = some d → rows.flatten[j]? = some d
  | rows, n, j, d, h => by
    have e : rows.flatten = (rows.take n).flatten ++ (rows.drop n).flatten := by rw [← List.flatten_append, List.take_append_drop]
    rw [e, List.getElem?_append_left (List.getElem?_eq_some_iff.1 h).1]
    exact h

theorem flatten_len {sz : Nat} : ∀ (rows : List (List D)), (∀ r ∈ rows, r.length = sz) → rows.flatten.length = rows.length * sz
  | [], _ => by simp
  | r :: rs, h => by
    rw [List.flatten_cons, List.length_append, h r (by simp), flatten_len rs (fun r hr => h r (by simp [hr])), List.length_cons, Nat.succ_mul, Nat.add_comm]

theorem flatten_drop_get {sz : Nat} (rows : List (List D)) (hs : ∀ r ∈ rows, r.length = sz) (l : Nat) (hl : l ≤ rows.length) (j : Nat) (d : D) (h : (rows.drop l).flatten[j]? = some d) :
    rows.flatten[l * sz + j]? = some d := by
  have e : rows.flatten = (rows.take l).flatten ++ (rows.drop l).flatten := by rw [← List.flatten_append, List.take_append_drop]
  have hlen : (rows.take l).flatten.length = l * sz := by
    rw [flatten_len (sz := sz) _ (fun r hr => hs r (List.mem_of_mem_take hr)), List.length_take, Nat.min_eq_left hl]
  rw [e, List.getElem?_append_right (by omega), hlen, Nat.add_sub_cancel_left]
  exact h

/-- A slice of plain data, cut. -/
theorem DV_sub {c : Cx} {τ : Ty} {xs : List τ.den} {v : Value} (h : c.DV (.lst τ.sz (xs.map τ.enc)) v) (l r : Nat) (hlr : l ≤ r) (hr : r ≤ xs.length) :
    ∃ A cap, v = .slice A xs.length cap ∧ xs.length ≤ cap ∧ c.DV (.lst τ.sz (((xs.take r).drop l).map τ.enc)) (.slice (if cap = l then A else A.map (·.add (l * τ.sz))) (r - l) (cap - l)) := by
  generalize hd : D.lst τ.sz (xs.map τ.enc) = d at h
  cases h with
  | nil sz A k hA =>
    injection hd with h1 h2
    have : xs = [] := by simpa using h2
    subst this
    simp only [List.length_nil, Nat.le_zero_eq] at hr
    subst hr
    obtain rfl : l = 0 := by omega
    exact ⟨A, k, rfl, by simp, by simpa using (show c.DV _ _ from DV.nil _ _ _ (fun h0 => by
      by_cases hk : k = 0
      · omega
      · rw [if_neg hk] at h0
        cases A with
        | none => exact absurd (hA rfl) hk
        | some a => simp at h0))⟩
  | lst sz rows b off k u hc hsz hcell hdv hb =>
    injection hd with h1 h2
    subst h1 h2
    have hn : xs.length ≤ k := by simpa using hc
    refine ⟨some ⟨b, off, none⟩, k, by simp, hn, ?_⟩
    by_cases hlr' : l = r
    · subst hlr'
      have : (xs.take l).drop l = [] := by simp
      rw [this, Nat.sub_self]
      exact DV.nil _ _ _ (fun h0 => by split at h0 <;> cases h0)
    · have hk : ¬ k = l := by omega
      rw [if_neg hk]
      have hlen : (((xs.take r).drop l).map τ.enc).length = r - l := by simp [Nat.min_eq_left hr]
      have hget : ∀ j d, (((xs.take r).drop l).map τ.enc).flatten[j]? = some d → (xs.map τ.enc).flatten[l * τ.sz + j]? = some d := by
        intro j d hj
        rw [List.map_drop, List.map_take] at hj
        refine flatten_take_get _ r _ _ ?_
        exact flatten_drop_get (sz := τ.sz) _ (fun r hr => hsz r (List.mem_of_mem_take hr)) l (by simp; omega) j d hj
      have key := DV.lst (w := c.w) (ok := c.okb) τ.sz (((xs.take r).drop l).map τ.enc) b (off + l * τ.sz) (k - l) (fun j => u (l * τ.sz + j))
        (by rw [hlen]; omega) (fun r' hr' => hsz r' (by
          obtain ⟨x, hx, rfl⟩ := List.mem_map.1 hr'
          exact List.mem_map_of_mem (List.mem_of_mem_take (List.mem_of_mem_drop hx))))
        (fun j d hj => by
          have := hcell _ d (hget j d hj)
          rw [Nat.add_assoc]
          exact this)
        (fun j d hj => hdv _ d (hget j d hj)) hb
      rw [hlen] at key
      have ha : Option.map (fun x : Addr => x.add (l * τ.sz)) (some ⟨b, off, none⟩) = some ⟨b, off + l * τ.sz, none⟩ := by simp [add_none]
      rw [ha]
      exact key
  | _ => cases hd

theorem sliceMv_ok {nid : Nat} {t : TypeId} {x : Operand} {lo hi : Option Operand} {X : AV} (ho : o.op = .slice t x lo hi none)
    (h : (sliceMv V nid t X (lo.map (valOf σ)) (hi.map (valOf σ))).val σ = some (v, ws)) (hr : R w0 ok nt ds σ a w mu) (hx : Mill.V (cx w σ.ob mu ok) X (a.eval x)) :
    Does V.P w0 ok o a w σ.ob mu v ws := by
  obtain ⟨rfl, k0, n, hhi, h⟩ : lo = none ∧ ∃ k n, hi.map (valOf σ) = some (.int k n) ∧ (sliceTo V nid t X n).val σ = some (v, ws) := by
    unfold sliceMv at h
    split at h
    · rename_i k n h1 h2
      exact ⟨by cases lo <;> simp_all, _, _, h2, h⟩
    · simp [Rd.val] at h
  have hbn : ∀ d : Int, bnd d (hi.map (valOf σ)) = n := fun d => by rw [hhi]; rfl
  cases X with
  | emp =>
    simp only [sliceTo] at h
    split at h
    case h_2 => simp [Rd.val] at h
    rename_i e he
    split at h
    case h_2 => simp [Rd.val] at h
    rename_i n hs
    obtain ⟨_, i, hi', _⟩ := info_size hs
    obtain ⟨h0, h⟩ := val_ask h
    have h0 := of_decide_eq_true h0
    have h3 := val_ret h
    injection h3 with h3 h4
    subst h3 h4
    simp only [Mill.V] at hx
    have hu := elemOf_ok he
    have hb := run_bounds (P := V.P) hr none hi true 0 0 (Nat.le_refl _) (by simp [bnd]) (by simp only [Option.map_none]; show bnd 0 none ≤ _; rw [hbn, h0]; exact Int.le_refl _) (by rw [hbn, h0]; exact Int.le_refl _)
    rw [hbn, h0] at hb
    refine .mk (u := .slice none 0 0) (w' := w) ?_ (Post.pure hr.mem rfl)
    have hsl : (Instr.slice t (.slice none 0 0) ((none : Option Operand).map a.eval) (hi.map a.eval) none).run V.P w = .ok (.slice none 0 0) w := by
      simp [Instr.slice, run_underlying hu, sizeOf, typeInfo, hi'] at hb ⊢
      simp [hb, bnd]
    simp only [execOp, ho, Sem.run_bind, hx, Option.map_none, Instr.sliceAt, run_underlying hu, Result.andThen_ok] at hsl ⊢
    simp only [hsl, Result.andThen_ok]
    rfl
  | own id =>
    simp only [sliceTo, Rd.val] at h
    change (match σ.get (.m id) with | .row _ τ xs => _ | _ => _ : Rd (AV × Wr)).val σ = some (v, ws) at h
    cases hob : σ.get (.m id) with
    | row e τ xs =>
      rw [hob] at h
      obtain ⟨hs, h⟩ := val_bif h
      obtain ⟨hid, h⟩ := val_rd_undef h
      obtain ⟨h1, h⟩ := val_ask h
      obtain ⟨h2, h⟩ := val_ask h
      have h1 := of_decide_eq_true h1
      have h2 := of_decide_eq_true h2
      have h3 := val_ret h
      injection h3 with h3 h4
      subst h3 h4
      obtain ⟨e', i, hu, hi', hsz⟩ := sliceSz_ok hs
      have hrow : look σ.ob id = .row e τ xs := hob
      obtain ⟨k, rfl⟩ : ∃ k : Nat, n = k := ⟨n.toNat, by omega⟩
      have hk := hbn (xs.length : Int)
      have hkl : k ≤ xs.length := by omega
      rw [Int.toNat_natCast]
      have hrun : ∀ {A : Option Addr} {cap : Nat}, xs.length ≤ cap → a.eval x = .slice A xs.length cap → (execOp a.eval o).run V.P w = .ok (.value (.slice (if cap = 0 then A else A.map (·.add 0)) k cap)) w := by
        intro A cap hcap hxe
        have hb := run_bounds (P := V.P) hr none hi true xs.length cap hcap (by simp [bnd]) (by rw [hk]; simpa [bnd] using h1) (by rw [hk]; exact h2)
        rw [hk] at hb
        simp only [Option.map_none, bnd, Int.toNat_zero, Int.toNat_natCast] at hb
        have hsl : (Instr.slice t (.slice A xs.length cap) none (hi.map a.eval) none).run V.P w = .ok (.slice (if cap = 0 then A else A.map (·.add 0)) k cap) w := by
          simp [Instr.slice, run_underlying hu, hb, sizeOf, typeInfo, hi']
        simp only [execOp, ho, Sem.run_bind, hxe, Option.map_none, Instr.sliceAt, run_underlying hu, hsl, Result.andThen_ok]
        rfl
      have hxo : OwnV (cx w σ.ob mu ok) id (a.eval x) := hx
      have hlenk : (xs.take k).length = k := by rw [List.length_take]; omega
      have hpass : ∀ (o : AV), ∃ mu', mu' nid = mu id ∧ Mono (cx w σ.ob mu ok) (cx w ((nid, o) :: appOb [(id, .dead)] σ.ob) mu' ok) ∧
          (ObjOK (cx w ((nid, o) :: appOb [(id, .dead)] σ.ob) mu' ok) nid → Mem w0 (cx w ((nid, o) :: appOb [(id, .dead)] σ.ob) mu' ok)) := by
        intro o
        have := hr.mem.pass (w' := w) (o := o) (blk := mu id) hid (by rw [hrow]; simp) (Turned.refl _ _) (fun b hb => ⟨.inl hb, hr.mem.lt hb⟩)
        exact ⟨_, upd_eq _ _ _, this.1, this.2⟩
      obtain ⟨mu', hm1, hm2, hm3⟩ := hpass (.row e τ (xs.take k))
      have hl : (cx w ((nid, .row e τ (xs.take k)) :: appOb [(id, .dead)] σ.ob) mu' ok).ob nid = .row e τ (xs.take k) := look_eq _ _ _
      have ho' := hr.mem.obj id
      unfold OwnV at hxo
      unfold ObjOK at ho'
      rw [show (cx w σ.ob mu ok).ob id = .row e τ xs from hrow] at hxo ho'
      rcases hxo with ⟨hmu, rfl, B, hxe⟩ | ⟨b0, cap0, cur0, hmu, hr0, hl0, hxe⟩
      · have hk0 : k = 0 := by simpa using hkl
        subst hk0
        have := hrun (A := B) (cap := 0) (by simp) hxe
        rw [if_pos rfl] at this
        refine .mk this ⟨mu', hm3 ?_, hm2, ?_⟩
        · unfold ObjOK
          rw [hl]
          exact .inl ⟨hm1.trans hmu, rfl⟩
        · show OwnV (cx w ((nid, .row e τ _) :: appOb [(id, .dead)] σ.ob) mu' ok) nid _
          unfold OwnV
          rw [hl]
          exact .inl ⟨hm1.trans hmu, rfl, B, rfl⟩
      · rcases ho' with ⟨hn, _⟩ | ⟨b', cap', cur', hmu', hr', hl', hcm', hd'⟩
        · rw [hmu] at hn; cases hn
        rw [hmu] at hmu'; obtain rfl := Option.some.inj hmu'
        have e1 := hr0.1.symm.trans hr'.1
        simp only [Option.some.injEq, Obj.cells.injEq, and_true] at e1
        subst e1
        have hcap : cap0 = cap' := Nat.eq_of_mul_eq_mul_right τ.sz_pos (hr0.2.symm.trans hr'.2)
        subst hcap
        have := hrun (A := some ⟨b0, 0, none⟩) (cap := cap0) hl0 hxe
        have haddr : (if cap0 = 0 then (some ⟨b0, 0, none⟩ : Option Addr) else Option.map (fun x : Addr => x.add 0) (some ⟨b0, 0, none⟩)) = some ⟨b0, 0, none⟩ := by
          split
          · rfl
          · simp [add_none]
        rw [haddr] at this
        refine .mk this ⟨mu', hm3 ?_, hm2, ?_⟩
        · unfold ObjOK
          rw [hl]
          refine .inr ⟨b0, cap0, cur0, hm1.trans hmu, hr0, by rw [hlenk]; omega, hcm', ?_⟩
          rw [hlenk]
          have hsplit : (xs.map τ.enc).flatten = ((xs.take k).map τ.enc).flatten ++ ((xs.drop k).map τ.enc).flatten := by
            rw [← List.flatten_append, ← List.map_append, List.take_append_drop]
          rw [hsplit] at hd'
          obtain ⟨us, ws', hus, hd1, hd2⟩ := Cx.DVs.split hd'
          have hlu : us.length = k * τ.sz := by
            have := hd1.length
            rw [flatten_length, hlenk] at this
            exact this.symm
          have htk : cur0.toList.take (k * τ.sz) = us := by
            have : (cur0.toList.take (xs.length * τ.sz)).take (k * τ.sz) = us := by rw [hus, ← hlu, List.take_left']; rfl
            rw [List.take_take] at this
            rw [← this]
            congr 1
            have := Nat.mul_le_mul_right τ.sz hkl
            omega
          rw [htk]
          exact Cx.DVs.imp hm2.dv hd1
        · show OwnV (cx w ((nid, .row e τ _) :: appOb [(id, .dead)] σ.ob) mu' ok) nid _
          unfold OwnV
          rw [hl]
          exact .inr ⟨b0, cap0, cur0, hm1.trans hmu, hr0, by rw [hlenk]; omega, by rw [hlenk]⟩
    | _ => rw [hob] at h; simp [Rd.val] at h
  | _ => simp [sliceTo, Rd.val] at h

theorem does_slice {t : TypeId} {x : Operand} {lo hi : Option Operand} (ho : o.op = .slice t x lo hi none) (h : (evVal V fid o).val σ = some (v, ws)) (hr : R w0 ok nt ds σ a w mu) :
    Does V.P w0 ok o a w σ.ob mu v ws := by
  simp only [evVal, ho] at h
  have h := val_opd (val_opdo (val_opdo h))
  have hx := V_operand hr x
  generalize e1 : valOf σ x = X at h hx
  cases hmv : V.mv fid with
  | true => rw [hmv] at h; exact sliceMv_ok ho h hr hx
  | false =>
  rw [hmv] at h
  simp only [cond_false] at h
  have rest : ∀ {X : AV}, Mill.V (cx w σ.ob mu ok) X (a.eval x) → (dataCell X fun v ws => match v with
    | .lst τ xs => bif sliceSz V t τ.sz then
        .ask (decide (0 ≤ bnd 0 (lo.map (valOf σ)))) (.ask (decide (bnd 0 (lo.map (valOf σ)) ≤ bnd xs.length (hi.map (valOf σ)))) (.ask (decide (bnd xs.length (hi.map (valOf σ)) ≤ (xs.length : Int)))
          (.ret (.lst τ ((xs.take (bnd xs.length (hi.map (valOf σ))).toNat).drop (bnd 0 (lo.map (valOf σ))).toNat), ws)) .fail) .fail) .fail
      else .fail
    | _ => .fail : Rd (AV × Wr)).val σ = some (v, ws) → Does V.P w0 ok o a w σ.ob mu v ws := by
    intro X hx h
    obtain ⟨y, ws1, h, hfz, hone, hto⟩ := dataCell_ok h
    cases y with
    | lst τ xs =>
      simp only at h
      obtain ⟨hs, h⟩ := val_bif h
      obtain ⟨h0, h⟩ := val_ask h
      obtain ⟨h1, h⟩ := val_ask h
      obtain ⟨h2, h⟩ := val_ask h
      have h0 := of_decide_eq_true h0
      have h1 := of_decide_eq_true h1
      have h2 := of_decide_eq_true h2
      have h3 := val_ret h
      injection h3 with h3 h4
      subst h3 h4
      obtain ⟨mu1, hm1, hmono1, hws, hothers⟩ := freezeAll hfz hr.mem
      have hv : (cx w (appOb ws1 σ.ob) mu1 ok).DV _ _ := hto _ _ _ rfl hmono1 hws hx
      obtain ⟨A, cap, hxe, hcap, hsub⟩ := DV_sub hv (bnd 0 (lo.map (valOf σ))).toNat (bnd xs.length (hi.map (valOf σ))).toNat (by omega) (by omega)
      obtain ⟨e, i, hu, hi', hsz⟩ := sliceSz_ok hs
      have hb := run_bounds (P := V.P) hr lo hi true xs.length cap hcap h0 h1 h2
      refine .mk (w' := w) ?_ ⟨mu1, hm1, hmono1, hsub⟩
      have hsl : (Instr.slice t (.slice A xs.length cap) (lo.map a.eval) (hi.map a.eval) none).run V.P w = .ok (.slice (if cap = (bnd 0 (lo.map (valOf σ))).toNat then A else A.map (·.add ((bnd 0 (lo.map (valOf σ))).toNat * τ.sz))) ((bnd xs.length (hi.map (valOf σ))).toNat - (bnd 0 (lo.map (valOf σ))).toNat) (cap - (bnd 0 (lo.map (valOf σ))).toNat)) w := by
        simp [Instr.slice, run_underlying hu, hb, sizeOf, typeInfo, hi', hsz]
      simp only [execOp, ho, Sem.run_bind, hxe, Option.map_none, Instr.sliceAt, run_underlying hu, hsl, Result.andThen_ok]
      rfl
    | _ => simp [Rd.val] at h
  cases X with
  | str s =>
    simp only [sliceA] at h
    split at h
    case h_2 => simp [Rd.val] at h
    rename_i hu
    obtain ⟨h0, h⟩ := val_ask h
    obtain ⟨h1, h⟩ := val_ask h
    obtain ⟨h2, h⟩ := val_ask h
    have h0 := of_decide_eq_true h0
    have h1 := of_decide_eq_true h1
    have h2 := of_decide_eq_true h2
    have h3 := val_ret h
    injection h3 with h3 h4
    subst h3 h4
    simp only [Mill.V] at hx
    have hb := run_bounds (P := V.P) hr lo hi false s.size s.size (Nat.le_refl _) h0 h1 h2
    refine .mk (u := .string (s.extract (bnd 0 (lo.map (valOf σ))).toNat (bnd s.size (hi.map (valOf σ))).toNat)) (w' := w) ?_ (Post.pure hr.mem (V_str _ _))
    simp only [execOp, ho, Sem.run_bind, hx, Instr.sliceAt, Instr.slice, run_underlying hu, Result.andThen_ok, Option.map_none]
    simp [hb]
  | _ => exact rest hx h

end
end Go.Proofs.Mill
