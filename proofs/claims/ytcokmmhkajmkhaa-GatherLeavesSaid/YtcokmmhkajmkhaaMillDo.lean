/- What each operation does is what the evaluator says. -/
import Derived.Test.YtcokmmhkajmkhaaMillPure
set_option linter.all false
namespace Go.Proofs.Mill
variable {ds : List Deferred}
open Go.RowKit

/-- An operation that ends with a value, or with none. -/
def Does (P : Program) (w0 : World) (ok : Nat → Prop) (o : Oper) (a : Act) (w : World) (ob : List (Nat × AV)) (mu : Nat → Option Nat) (v : AV) (ws : Wr) : Prop :=
  ∃ u w', ((execOp a.eval o).run P w = .ok (.value u) w' ∨ ((execOp a.eval o).run P w = .ok .skip w' ∧ u = undef)) ∧ Post w0 ok w ob mu v ws u w'

theorem Does.mk {P : Program} {w0 : World} {ok : Nat → Prop} {o : Oper} {a : Act} {w w' : World} {ob : List (Nat × AV)} {mu : Nat → Option Nat} {v : AV} {ws : Wr} {u : Value}
    (h : (execOp a.eval o).run P w = .ok (.value u) w') (hp : Post w0 ok w ob mu v ws u w') : Does P w0 ok o a w ob mu v ws := ⟨u, w', .inl h, hp⟩

theorem val_ret {α : Type} {a b : α} {σ : St} (h : (Rd.ret a).val σ = some b) : a = b := Option.some.inj h

theorem val_rd_undef {α : Type} {id : Nat} {k : Rd α} {σ : St} {r : α} (h : (Rd.rd (.m id) fun | .undef => k | _ => .fail).val σ = some r) : look σ.ob id = .undef ∧ k.val σ = some r := by
  simp only [Rd.val] at h
  change (match look σ.ob id with | .undef => k | _ => .fail : Rd α).val σ = some r at h
  split at h
  · rename_i e; exact ⟨e, h⟩
  · simp [Rd.val] at h

section
variable {V : Env} {w0 w : World} {ok : Nat → Prop} {nt fid : Nat} {σ : St} {a : Act} {mu : Nat → Option Nat} {o : Oper} {v : AV} {ws : Wr}

theorem does_move {x : Operand} (ho : o.op = .move x ∨ o.op = .assign x) (h : (evVal V fid o).val σ = some (v, ws)) (hr : R w0 ok nt ds σ a w mu) : Does V.P w0 ok o a w σ.ob mu v ws := by
  have h' : (opd x fun v => (.ret (v, []) : Rd (AV × Wr))).val σ = some (v, ws) := by rcases ho with ho | ho <;> simpa only [evVal, ho] using h
  have h := val_opd h'
  have h2 := val_ret h
  injection h2 with h2 h3
  subst h2 h3
  refine .mk (u := a.eval x) (w' := w) ?_ (Post.pure hr.mem (V_operand hr x))
  rcases ho with ho | ho <;> simp [execOp, ho]

theorem does_pick {c x y : Operand} (ho : o.op = .pick c x y) (h : (evVal V fid o).val σ = some (v, ws)) (hr : R w0 ok nt ds σ a w mu) : Does V.P w0 ok o a w σ.ob mu v ws := by
  simp only [evVal, ho] at h
  have h := val_opd h
  have hc := V_operand hr c
  cases hv : valOf σ c <;> rw [hv] at h hc <;> try (simp [Rd.val] at h; done)
  case bool t =>
    simp only [Mill.V] at hc
    cases t
    · have h := val_opd (show (opd y fun v => (.ret (v, []) : Rd (AV × Wr))).val σ = some (v, ws) from h)
      have h2 := val_ret h
      injection h2 with h2 h3
      subst h2 h3
      exact .mk (by simp [execOp, ho, hc, asBool]) (Post.pure hr.mem (V_operand hr y))
    · have h := val_opd (show (opd x fun v => (.ret (v, []) : Rd (AV × Wr))).val σ = some (v, ws) from h)
      have h2 := val_ret h
      injection h2 with h2 h3
      subst h2 h3
      exact .mk (by simp [execOp, ho, hc, asBool]) (Post.pure hr.mem (V_operand hr x))

theorem does_alloc {e : TypeId} (ho : o.op = .alloc e) (h : (evVal V fid o).val σ = some (v, ws)) (hr : R w0 ok nt ds σ a w mu) : Does V.P w0 ok o a w σ.ob mu v ws := by
  simp only [evVal, ho] at h
  obtain ⟨cs, hz, h⟩ := val_ofOpt h
  obtain ⟨hid, h⟩ := val_rd_undef h
  have h := val_bare h
  have h2 := val_ret h
  injection h2 with h2 h3
  subst h2 h3
  obtain ⟨i, z, hi, hzv, rfl⟩ := zeroCells_ok hz
  refine .mk (u := .pointer (some ⟨w.heap.size, 0, none⟩)) (w' := w.alloc (.cells z.cells e (0, 0))) ?_ (post_box hr.mem hid (VL_ofValue _ z))
  show _ = Result.ok _ { w with heap := w.heap.push (.cells z.cells e (0, 0)) }
  simp [execOp, ho, Instr.alloc, zeroValue, typeInfo, hi, hzv, newVar, newRow]

theorem does_box {e : TypeId} {x : Operand} (ho : o.op = .box e x) (h : (evVal V fid o).val σ = some (v, ws)) (hr : R w0 ok nt ds σ a w mu) : Does V.P w0 ok o a w σ.ob mu v ws := by
  simp only [evVal, ho] at h
  have h := val_opd h
  obtain ⟨hone, h⟩ := val_bif h
  obtain ⟨hid, h⟩ := val_rd_undef h
  have h := val_bare h
  have h2 := val_ret h
  injection h2 with h2 h3
  subst h2 h3
  refine .mk (u := .pointer (some ⟨w.heap.size, 0, none⟩)) (w' := w.alloc (.cells (a.eval x).cells e (0, 0))) ?_ (post_box hr.mem hid (V_cells (V_operand hr x) hone))
  show _ = Result.ok _ { w with heap := w.heap.push (.cells (a.eval x).cells e (0, 0)) }
  simp [execOp, ho, Instr.box, newVar, newRow]

theorem zip_map {α β : Type} : ∀ (l : List α) (r : List β), l.length = r.length → (l.zip r).map (·.1) = l ∧ (l.zip r).map (·.2) = r
  | [], [], _ => ⟨rfl, rfl⟩
  | a :: l, b :: r, h => by
    obtain ⟨h1, h2⟩ := zip_map l r (by simpa using h)
    simp [h1, h2]

theorem does_build {t : TypeId} {parts : Array (Nat × Operand)} (ho : o.op = .build t parts) (h : (evVal V fid o).val σ = some (v, ws)) (hr : R w0 ok nt ds σ a w mu) : Does V.P w0 ok o a w σ.ob mu v ws := by
  simp only [evVal, ho] at h
  have h := val_opds h
  obtain ⟨z, hz, h⟩ := val_ofOpt h
  obtain ⟨cs, hb, h⟩ := val_ofOpt h
  have h := val_bare h
  have h2 := val_ret h
  injection h2 with h2 h3
  subst h2 h3
  have hzip := zip_map (parts.toList.map (·.1)) ((parts.toList.map (·.2)).map (valOf σ)) (by simp)
  obtain ⟨carr, hrun, hv⟩ := build_ok (vs := (parts.map fun (i, x) => (i, a.eval x)).toList) (c := cx w σ.ob mu ok) hz hb
    (by rw [hzip.1]; simp) (by
      rw [hzip.2]
      have := VL_operands hr (parts.toList.map (·.2))
      simpa [List.map_map, Function.comp_def] using this) w
  refine .mk (u := .agg carr) (w' := w) ?_ (Post.pure hr.mem ⟨carr, rfl, hv⟩)
  have hrun' : (Instr.build t (parts.map fun (i, x) => (i, a.eval x))).run V.P w = .ok (.agg carr) w := by
    rw [Array.toArray_toList] at hrun
    exact hrun
  simp only [execOp, ho, Sem.run_bind, hrun', Result.andThen_ok]
  rfl

theorem foldl_size (off : Nat) : ∀ (l : List (Value × Nat)) (cs : Array Value), (l.foldl (fun (cs : Array Value) (p : Value × Nat) => cs.setIfInBounds (off + p.2) p.1) cs).size = cs.size
  | [], _ => rfl
  | p :: l, cs => by rw [List.foldl_cons, foldl_size off l]; simp

theorem fill_size {place : Nat → Option (Nat × Nat)} : ∀ {vs : List (Nat × Value)} {cells carr : Array Value}, Instr.fill place cells vs = some carr → carr.size = cells.size
  | [], _, _, h => by
    simp only [Instr.fill, Option.some.injEq] at h
    rw [h]
  | (i, v) :: vs, cells, carr, h => by
    simp only [Instr.fill] at h
    split at h
    · cases h
    · split at h
      · cases h
      · rw [fill_size h, ← Array.foldl_toList]
        exact foldl_size _ _ _

theorem does_buildSlice {t : TypeId} {len : Nat} {parts : Array (Nat × Operand)} (ho : o.op = .buildSlice t len parts) (h : (evVal V fid o).val σ = some (v, ws)) (hr : R w0 ok nt ds σ a w mu) :
    Does V.P w0 ok o a w σ.ob mu v ws := by
  simp only [evVal, ho] at h
  have h := val_opds h
  obtain ⟨e, he, h⟩ := val_ofOpt h
  obtain ⟨τ, hτ, h⟩ := val_ofOpt h
  obtain ⟨z, hz, h⟩ := val_ofOpt h
  obtain ⟨hg, h⟩ := val_bif h
  obtain ⟨cs, hfill, h⟩ := val_ofOpt h
  obtain ⟨xs, ws1, h, hfz, hxl, hxone, hxs⟩ := dataCells_ok h
  obtain ⟨rows, hrows, h⟩ := val_ofOpt h
  obtain ⟨hid, h⟩ := val_rd_undef h
  have h2 := val_ret h
  injection h2 with h2 h3
  subst h2 h3
  simp only [Bool.and_eq_true] at hg
  obtain ⟨hel, hlen⟩ := hg
  have hlen := Nat.le_of_ble_eq_true hlen
  obtain ⟨i, zv, hi, hsz, hzv, hzs, hby, hzc, _⟩ := elemOk_ok hel
  rw [hz] at hzc
  obtain rfl := Option.some.inj hzc
  have ht := elemOf_ok he
  have hzip := zip_map (parts.toList.map (·.1)) ((parts.toList.map (·.2)).map (valOf σ)) (by simp)
  have hz0 : VL (cx w σ.ob mu ok) (List.replicate len (ofValue zv).cells).flatten ((Array.range (len * i.size)).map (zv.cells[· % i.size]!)).toList := by
    have := made_toList zv.cells len (by rw [hzs]; exact τ.sz_pos)
    rw [hsz]
    rw [hzs] at this
    rw [this]
    exact VL_replicate (VL_ofValue _ zv) len
  obtain ⟨carr, hf, hcv⟩ := fill_ok (vs := (parts.map fun (i, x) => (i, a.eval x)).toList) (c := cx w σ.ob mu ok) hfill hz0
    (by rw [hzip.1]; simp) (by
      rw [hzip.2]
      have := VL_operands hr (parts.toList.map (·.2))
      simpa [List.map_map, Function.comp_def] using this)
  have hrun := run_buildSlice (w := w) (parts := parts.map fun (i, x) => (i, a.eval x)) ht hi hzv (by rw [hzs, hsz]) (by rw [hsz]; exact τ.sz_pos) (by rw [hsz]; exact hlen) (by rw [hsz] at hf ⊢; exact hf)
  obtain ⟨mu1, hm1, hmono1, hws, hothers⟩ := freezeAll hfz hr.mem
  have hxv := hxs _ _ _ rfl hmono1 hws hcv
  have hcl : cs.length = len * τ.sz := by
    have h1 := hcv.length
    have h2 : carr.size = len * τ.sz := by
      rw [fill_size hf]
      simp [hsz]
    have h3 : carr.toList.length = carr.size := Array.length_toList
    omega
  obtain ⟨hn, hdv⟩ := rowsOf_ok hrows hxv (by rw [hxl]; exact hcl)
  have hid1 : look (appOb ws1 σ.ob) _ = .undef := (hothers _ (hfz.ne hid)).1.trans hid
  have hcsz : carr.size = rows.length * τ.sz := by
    have := hdv.length
    rw [flatten_length] at this
    have h3 : carr.toList.length = carr.size := Array.length_toList
    omega
  have hlm : len ≤ 16777216 := Nat.le_trans (Nat.le_mul_of_pos_right _ τ.sz_pos) hlen
  have hp := post_row (e := e) (cur := carr) hm1 hid1 hcsz (by simp only [maxLen]; omega) hdv
  rw [hn] at hp
  exact .mk (by simp only [execOp, ho, Sem.run_bind, hrun, Result.andThen_ok]; rfl) (Post.after hmono1 hp)

theorem does_load {t : TypeId} {x : Operand} (ho : o.op = .load t x) (h : (evVal V fid o).val σ = some (v, ws)) (hr : R w0 ok nt ds σ a w mu) : Does V.P w0 ok o a w σ.ob mu v ws := by
  simp only [evVal, ho] at h
  have h := val_opd h
  obtain ⟨v', u, h, hrun, hv⟩ := rdAt_ok h hr.mem (V_operand hr x)
  have h2 := val_ret h
  injection h2 with h2 h3
  subst h2 h3
  exact .mk (by simp only [execOp, ho, Sem.run_bind, hrun, Result.andThen_ok]; rfl) (Post.pure hr.mem hv)

theorem does_store {t : TypeId} {x y : Operand} (ho : o.op = .store t x y) (h : (evVal V fid o).val σ = some (v, ws)) (hr : R w0 ok nt ds σ a w mu) : Does V.P w0 ok o a w σ.ob mu v ws := by
  simp only [evVal, ho] at h
  have h := val_opd (val_opd h)
  obtain ⟨ws', w', h, hrun, mu', hm', hmono⟩ := wrAt_ok h hr.mem (V_operand hr x) (V_operand hr y)
  have h2 := val_ret h
  injection h2 with h2 h3
  subst h2 h3
  exact ⟨undef, w', .inr ⟨by simp only [execOp, ho, Sem.run_bind, hrun, Result.andThen_ok]; rfl, rfl⟩, mu', hm', hmono, trivial⟩

end

end Go.Proofs.Mill
