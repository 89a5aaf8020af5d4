/- What each operation does: indexes, slices, builtins. -/
import Derived.Test.YtcokmmhkajmkhaaMillDo2
import Derived.Lib.AppendZeros
set_option linter.all false
namespace Go.Proofs.Mill
variable {ds : List Deferred}
open Go.RowKit

section
variable {V : Env} {w0 w : World} {ok : Nat → Prop} {nt fid : Nat} {σ : St} {a : Act} {mu : Nat → Option Nat} {o : Oper} {v : AV} {ws : Wr}

theorem sliceSz_ok {t : TypeId} {sz : Nat} (h : sliceSz V t sz = true) : ∃ e i, V.P.underlying t = some (.slice e) ∧ V.P.info? e = some i ∧ i.size = sz := by
  unfold sliceSz at h
  split at h
  · rename_i e hu
    split at h
    · rename_i n hs
      obtain ⟨_, i, hi, hsz⟩ := info_size hs
      exact ⟨e, i, hu, hi, by have := Nat.eq_of_beq_eq_true h; omega⟩
    · cases h
  · cases h

theorem val_inBounds {α : Type} {n : Int} {len : Nat} {k : Rd α} {r : α} (h : (inBounds n len k).val σ = some r) : 0 ≤ n ∧ n < len ∧ k.val σ = some r := by
  obtain ⟨h1, h⟩ := val_ask h
  obtain ⟨h2, h⟩ := val_ask h
  exact ⟨of_decide_eq_true h1, of_decide_eq_true h2, h⟩

theorem val_eachOne {α : Type} {n : Int} {σ : St} {r : α} : ∀ {l i : Nat} {k : Nat → Rd α}, (eachOne n l i k).val σ = some r → ∃ m : Nat, m = n.toNat ∧ (k m).val σ = some r
  | 0, _, _, h => by simp [eachOne, Rd.val] at h
  | l + 1, i, k, h => by
    simp only [eachOne, Rd.val] at h
    by_cases hn : n = (i : Int)
    · rw [decide_eq_true hn] at h
      exact ⟨i, by omega, h⟩
    · rw [decide_eq_false hn] at h
      exact val_eachOne h

theorem run_indexAt_slice {P : Program} {w : World} {t e : TypeId} {i : TypeInfo} (hu : P.underlying t = some (.slice e)) (hi : P.info? e = some i) (k : IntKind) (n : Int) (b off len cap : Nat)
    (h0 : 0 ≤ n) (h1 : n < len) : (Instr.indexAt t (.slice (some ⟨b, off, none⟩) len cap) (.int k n)).run P w = .ok (.pointer (some ⟨b, off + n.toNat * i.size, none⟩)) w := by
  simp [Instr.indexAt, asIntOf, run_underlying hu, h0, h1, sizeOf, typeInfo, hi, add_none]

theorem lptr_of_dv {c : Cx} {τ : Ty} {xs : List τ.den} {v : Value} (h : c.DV (.lst τ.sz (xs.map τ.enc)) v) (i : Nat) (hi : i < xs.length) :
    ∃ b off cap, v = .slice (some ⟨b, off, none⟩) xs.length cap ∧ LptrV c τ xs i 0 (.pointer (some ⟨b, off + i * τ.sz, none⟩)) := by
  generalize hd : D.lst τ.sz (xs.map τ.enc) = d at h
  cases h with
  | nil sz A k hA =>
    injection hd with h1 h2
    have : xs = [] := by simpa using h2
    subst this
    simp at hi
  | lst sz rows b off k u hc hsz hcell hdv hb =>
    injection hd with h1 h2
    subst h2
    exact ⟨b, off, k, by simp, hi, b, off, u, by simp, hb, hcell, hdv⟩
  | _ => cases hd

theorem does_indexAddr {t : TypeId} {x y : Operand} (ho : o.op = .indexAddr t x y) (h : (evVal V fid o).val σ = some (v, ws)) (hr : R w0 ok nt ds σ a w mu) :
    Does V.P w0 ok o a w σ.ob mu v ws := by
  simp only [evVal, ho] at h
  have h := val_opd (val_opd h)
  have hx := V_operand hr x
  have hy := V_operand hr y
  generalize e2 : valOf σ y = Y at h hy
  cases Y <;> try (simp [Rd.val] at h; done)
  case int k n =>
    simp only [Mill.V] at hy
    simp only at h
    have fin : ∀ {b off cap len : Nat} {sz : Nat} {av : AV}, a.eval x = .slice (some ⟨b, off, none⟩) len cap → sliceSz V t sz = true → 0 ≤ n → n < len →
        (.ret (av, []) : Rd (AV × Wr)).val σ = some (v, ws) → Mill.V (cx w σ.ob mu ok) av (.pointer (some ⟨b, off + n.toNat * sz, none⟩)) → Does V.P w0 ok o a w σ.ob mu v ws := by
      intro b off cap len sz av hxe hs h0 h1 h hv
      have h2 := val_ret h
      injection h2 with h2 h3
      subst h2 h3
      obtain ⟨e, i, hu, hi, rfl⟩ := sliceSz_ok hs
      exact .mk (by simp only [execOp, ho, hxe, hy, Sem.run_bind, run_indexAt_slice hu hi k n b off len cap h0 h1, Result.andThen_ok]; rfl) (Post.pure hr.mem hv)
    generalize e1 : valOf σ x = X at h hx
    cases X <;> try (simp [idxAt, Rd.val] at h; done)
    case own id =>
      simp only [idxAt, Rd.val] at h
      have hx : OwnV (cx w σ.ob mu ok) id (a.eval x) := hx
      unfold OwnV at hx
      change (match σ.get (.m id) with | .row _ τ xs => _ | .frz τ xs => _ | _ => _ : Rd (AV × Wr)).val σ = some (v, ws) at h
      rw [show (cx w σ.ob mu ok).ob id = σ.get (.m id) from rfl] at hx
      cases hob : σ.get (.m id) <;> rw [hob] at h hx <;> try (simp [Rd.val] at h; done)
      case row e τ xs =>
        obtain ⟨hs, h⟩ := val_bif h
        obtain ⟨h0, h1, h⟩ := val_inBounds h
        have hlt : n.toNat < xs.length := by omega
        rcases hx with ⟨_, rfl, _⟩ | ⟨b, cap, cur, hb, hrow, hl, hxe⟩
        · simp at hlt
        · refine fin hxe hs h0 h1 h ?_
          show EptrV _ id n.toNat 0 _
          unfold EptrV
          rw [show (cx w σ.ob mu ok).ob id = .row e τ xs from hob]
          exact ⟨b, hb, by simp, hlt⟩
      case frz τ xs =>
        obtain ⟨hs, h⟩ := val_bif h
        obtain ⟨h0, h1, h⟩ := val_inBounds h
        obtain ⟨b, off, cap, hxe, hl⟩ := lptr_of_dv hx n.toNat (by omega)
        exact fin hxe hs h0 h1 h hl
    case lst τ xs =>
      simp only [idxAt] at h
      obtain ⟨hs, h⟩ := val_bif h
      obtain ⟨h0, h1, h⟩ := val_inBounds h
      obtain ⟨b, off, cap, hxe, hl⟩ := lptr_of_dv (show (cx w σ.ob mu ok).DV _ _ from hx) n.toNat (by omega)
      exact fin hxe hs h0 h1 h hl
    case ptr id off =>
      simp only [idxAt] at h
      generalize hu : V.P.underlying t = T at h
      split at h
      case h_2 => simp [Rd.val] at h
      rename_i len e
      cases hsz : sizeOf? V e with
      | none => rw [hsz] at h; simp [Rd.val] at h
      | some sz =>
      rw [hsz] at h
      obtain ⟨h0, h1, h⟩ := val_inBounds h
      obtain ⟨m', hn, h⟩ := val_eachOne h
      subst hn
      have h2 := val_ret h
      injection h2 with h2 h3
      subst h2 h3
      obtain ⟨p', y', hk, hxe, hv⟩ := addOff_ok (σ := σ) (k := fun p => .ret (p, ([] : Wr))) (p := .ptr id off) (n := n.toNat * sz) (r := (.ptr id (off + n.toNat * sz), [])) rfl hx
      obtain ⟨_, i, hi, rfl⟩ := info_size hsz
      have hk2 := val_ret hk
      injection hk2 with hk2 _
      subst hk2
      refine .mk (u := .pointer (some (y'.add (n.toNat * i.size)))) ?_ (Post.pure hr.mem hv)
      simp [execOp, ho, hxe, hy, Instr.indexAt, asIntOf, run_underlying hu, Instr.sureAddr, h0, h1, sizeOf, typeInfo, hi]

theorem bytes_getD (s : ByteArray) (i : Nat) (h : i < s.size) : s[i]? = some (s.data.toList.getD i 0) := by
  have h' : i < s.data.size := h
  rw [getElem?_pos s i h, show s[i] = s.data[i] from rfl]
  simp only [List.getD, Array.getElem?_toList, Array.getElem?_eq_getElem h', Option.getD_some]

theorem does_index {t : TypeId} {x y : Operand} (ho : o.op = .index t x y) (h : (evVal V fid o).val σ = some (v, ws)) (hr : R w0 ok nt ds σ a w mu) :
    Does V.P w0 ok o a w σ.ob mu v ws := by
  simp only [evVal, ho] at h
  have h := val_opd (val_opd h)
  have hx := V_operand hr x
  have hy := V_operand hr y
  generalize e2 : valOf σ y = Y at h hy
  generalize e1 : valOf σ x = X at h hx
  generalize hu : V.P.underlying t = T at h
  split at h
  · rename_i s k n
    simp only [Mill.V] at hx hy
    obtain ⟨h0, h1, h⟩ := val_inBounds h
    have h2 := val_ret h
    injection h2 with h2 h3
    subst h2 h3
    refine .mk (u := .int .u8 ((s.data.toList.getD n.toNat 0).toNat : Int)) ?_ (Post.pure hr.mem (V_int _ _ _))
    have hb := bytes_getD s n.toNat (by omega)
    simp only [execOp, ho, hx, hy, Instr.index, asIntOf, Sem.run_bind, Sem.run_pure, run_underlying hu, Result.andThen_ok]
    rw [if_pos h0, hb]
    rfl
  · rename_i len e cs k n
    obtain ⟨xa, hx, hxv⟩ := hx
    simp only [Mill.V] at hy
    obtain ⟨sz, hsz, h⟩ := val_ofOpt h
    obtain ⟨h0, h1, h⟩ := val_inBounds h
    obtain ⟨m', hn, h⟩ := val_eachOne h
    subst hn
    obtain ⟨av, hc, h⟩ := val_ofOpt h
    have h := val_giveCut h
    have h2 := val_ret h
    injection h2 with h2 h3
    subst h2 h3
    obtain ⟨u, hrun, hv⟩ := part_cut hxv hc w
    obtain ⟨_, i, hi, rfl⟩ := info_size hsz
    exact .mk (by simp [execOp, ho, hx, hy, Instr.index, asIntOf, run_underlying hu, h0, h1, sizeOf, typeInfo, hi, hrun]) (Post.pure hr.mem hv)
  · simp [Rd.val] at h

theorem does_makeSlice {t : TypeId} {x y : Operand} (ho : o.op = .makeSlice t x y) (h : (evVal V fid o).val σ = some (v, ws)) (hr : R w0 ok nt ds σ a w mu) :
    Does V.P w0 ok o a w σ.ob mu v ws := by
  simp only [evVal, ho] at h
  have h := val_opd (val_opd h)
  have hx := V_operand hr x
  have hy := V_operand hr y
  generalize e2 : valOf σ y = Y at h hy
  generalize e1 : valOf σ x = X at h hx
  split at h
  · rename_i n m
    simp only [Mill.V] at hx hy
    obtain ⟨hnm, h⟩ := val_ask h
    obtain ⟨h0, h⟩ := val_ask h
    obtain ⟨h1, h⟩ := val_ask h
    have hnm : n = m := by simpa using hnm
    have h0 := of_decide_eq_true h0
    have h1 := of_decide_eq_true h1
    unfold maxElems at h1
    rw [← hnm] at hy
    obtain ⟨e, he, h⟩ := val_ofOpt h
    obtain ⟨τ, _, h⟩ := val_ofOpt h
    obtain ⟨z, hz, h⟩ := val_ofOpt h
    obtain ⟨y0, hy0, h⟩ := val_ofOpt h
    obtain ⟨hel, h⟩ := val_bif h
    obtain ⟨hid, h⟩ := val_rd_undef h
    have h2 := val_ret h
    injection h2 with h2 h3
    subst h2 h3
    obtain ⟨i, zv, hi, hsz, hzv, hzs, hby, hzc, _⟩ := elemOk_ok hel
    rw [hz] at hzc
    obtain rfl := Option.some.inj hzc
    have ht := elemOf_ok he
    have hbytes : (i.bytes : Int) * n ≤ 281474976710656 := by
      have : (i.bytes : Int) * n ≤ 1024 * 4294967296 := Int.mul_le_mul (by omega) h1 h0 (by omega)
      omega
    have hrun := run_make (P := V.P) w t e i zv ht hi hzv .i64 .i64 n n h0 (Int.le_refl _) hbytes (by omega)
    have hdz := decA_ok (c := cx w σ.ob mu ok) hy0 (VL_ofValue _ zv)
    have hp := post_row (w0 := w0) (ok := ok) (ob := σ.ob) (mu := mu) (e := e) (xs := List.replicate n.toNat y0) (cur := madeCells zv.cells (n.toNat * i.size)) hr.mem hid
      (by rw [size_madeCells, List.length_replicate, hsz]) (by rw [List.length_replicate]; simp only [maxLen]; omega) (by
        have e1 : (madeCells zv.cells (n.toNat * i.size)).toList = (List.replicate n.toNat zv.cells.toList).flatten := by
          have := made_toList zv.cells n.toNat (by rw [hzs]; exact τ.sz_pos)
          unfold madeCells
          rw [hsz, ← hzs]
          exact this
        rw [e1, List.map_replicate]
        clear hrun e1 hid h
        induction n.toNat with
        | zero => simp [Cx.DVs]
        | succ k ih =>
          rw [List.replicate_succ, List.replicate_succ, List.flatten_cons, List.flatten_cons]
          exact Cx.DVs.append hdz ih)
    rw [List.length_replicate] at hp
    exact .mk (by simp only [execOp, ho, hx, hy, Sem.run_bind, hrun, Result.andThen_ok]; rfl) hp
  · simp [Rd.val] at h

theorem run_builtin {b : Builtin} {c : Go.Call} {u : Value} {w' : World} (ho : o.op = .call c) (hb : c.callee = .builtin b)
    (h : (builtin b c.argTypes o.type (c.args.map fun | .const _ => true | _ => false) (c.args.map a.eval)).run V.P w = .ok (.value u) w') : (execOp a.eval o).run V.P w = .ok (.value u) w' := by
  simp only [execOp, ho, resolve, hb, Sem.run_bind, Sem.run_pure, Result.andThen_ok, invoke]
  exact h

theorem args_list {c : Go.Call} (hr : R w0 ok nt ds σ a w mu) : VL (cx w σ.ob mu ok) (c.args.toList.map (valOf σ)) (c.args.map a.eval).toList := by
  have := VL_operands hr c.args.toList
  simpa using this

theorem args1 {c : Go.Call} {x : AV} (hr : R w0 ok nt ds σ a w mu) (h : c.args.toList.map (valOf σ) = [x]) : ∃ u, c.args.map a.eval = #[u] ∧ Mill.V (cx w σ.ob mu ok) x u := by
  have h1 := args_list (c := c) hr
  rw [h] at h1
  obtain ⟨u, us, h2, h3, h4⟩ := VL_cons h1
  obtain rfl := VL_nil h4
  exact ⟨u, Array.ext' h2, h3⟩

theorem args2 {c : Go.Call} {x y : AV} (hr : R w0 ok nt ds σ a w mu) (h : c.args.toList.map (valOf σ) = [x, y]) :
    ∃ u u', c.args.map a.eval = #[u, u'] ∧ Mill.V (cx w σ.ob mu ok) x u ∧ Mill.V (cx w σ.ob mu ok) y u' := by
  have h1 := args_list (c := c) hr
  rw [h] at h1
  obtain ⟨u, us, h2, h3, h4⟩ := VL_cons h1
  obtain ⟨u', us', rfl, h5, h6⟩ := VL_cons h4
  obtain rfl := VL_nil h6
  exact ⟨u, u', Array.ext' h2, h3, h5⟩

theorem getD_some {α : Type} (l : Array α) (i : Nat) (d : α) (h : i < l.size) : l[i]? = some (l.getD i d) := by
  simp [Array.getD, h]

theorem does_len {c : Go.Call} (ho : o.op = .call c) (hb : c.callee = .builtin .len) (h : (evVal V fid o).val σ = some (v, ws)) (hr : R w0 ok nt ds σ a w mu) :
    Does V.P w0 ok o a w σ.ob mu v ws := by
  simp only [evVal, ho, hb] at h
  obtain ⟨hsz, h⟩ := val_bif h
  have hsz := Nat.le_of_ble_eq_true hsz
  have h := val_opds h
  generalize he : c.args.toList.map (valOf σ) = l at h
  split at h
  case h_2 => simp [Rd.val] at h
  rename_i x
  obtain ⟨u, hargs, hv⟩ := args1 hr he
  have ht := getD_some c.argTypes 0 0 hsz
  generalize c.argTypes.getD 0 0 = t0 at h ht
  generalize hu : V.P.underlying t0 = T at h
  split at h
  · rename_i s
    simp only [Mill.V] at hv
    subst hv
    have h2 := val_ret h
    injection h2 with h2 h3
    subst h2 h3
    refine .mk (u := .int .i64 s.size) (run_builtin ho hb ?_) (Post.pure hr.mem (V_int _ _ _))
    rw [hargs]
    show (do pure (Next.value (← Builtin.len_ c.argTypes o.type #[.string s]))).run V.P w = _
    simp [Builtin.len_, ht, run_underlying hu, goInt]
  · rename_i e
    have hrun : ∀ A m cap, u = .slice A m cap → (builtin .len c.argTypes o.type (c.args.map fun | .const _ => true | _ => false) (c.args.map a.eval)).run V.P w = .ok (.value (.int .i64 m)) w := by
      rintro A m cap rfl
      rw [hargs]
      show (do pure (Next.value (← Builtin.len_ c.argTypes o.type #[.slice A m cap]))).run V.P w = _
      simp [Builtin.len_, ht, run_underlying hu, goInt]
    rcases elems_ok h hr.mem hv with ⟨τ, xs, h, A, m, cap, rfl, rfl, _⟩ | ⟨h, rfl⟩
    · have h2 := val_ret h
      injection h2 with h2 h3
      subst h2 h3
      exact .mk (run_builtin ho hb (hrun _ _ _ rfl)) (Post.pure hr.mem (V_int _ _ _))
    · have h2 := val_ret h
      injection h2 with h2 h3
      subst h2 h3
      exact .mk (run_builtin ho hb (hrun _ _ _ rfl)) (Post.pure hr.mem (V_int _ _ _))
  · simp [Rd.val] at h

theorem does_cap {c : Go.Call} (ho : o.op = .call c) (hb : c.callee = .builtin .cap) (h : (evVal V fid o).val σ = some (v, ws)) (hr : R w0 ok nt ds σ a w mu) :
    Does V.P w0 ok o a w σ.ob mu v ws := by
  simp only [evVal, ho, hb] at h
  obtain ⟨hsz, h⟩ := val_bif h
  have hsz := Nat.le_of_ble_eq_true hsz
  have h := val_opds h
  generalize he : c.args.toList.map (valOf σ) = l at h
  split at h
  case h_2 => simp [Rd.val] at h
  rename_i x
  obtain ⟨u, hargs, hv⟩ := args1 hr he
  have ht := getD_some c.argTypes 0 0 hsz
  generalize c.argTypes.getD 0 0 = t0 at h ht
  generalize hu : V.P.underlying t0 = T at h
  split at h
  · simp only [Mill.V] at hv
    subst hv
    have h2 := val_ret h
    injection h2 with h2 h3
    subst h2 h3
    refine .mk (u := .int .i64 0) (run_builtin ho hb ?_) (Post.pure hr.mem (V_int _ _ _))
    rw [hargs]
    show (do pure (Next.value (← Builtin.cap_ c.argTypes o.type #[.slice none 0 0]))).run V.P w = _
    simp [Builtin.cap_, ht, run_underlying hu, goInt]
  · simp [Rd.val] at h

theorem does_max {c : Go.Call} (ho : o.op = .call c) (hb : c.callee = .builtin .max) (h : (evVal V fid o).val σ = some (v, ws)) (hr : R w0 ok nt ds σ a w mu) :
    Does V.P w0 ok o a w σ.ob mu v ws := by
  simp only [evVal, ho, hb] at h
  have h := val_opds h
  generalize he : c.args.toList.map (valOf σ) = l at h
  split at h
  case h_2 => simp [Rd.val] at h
  rename_i m n
  obtain ⟨u, u', hargs, hv, hv'⟩ := args2 hr he
  simp only [Mill.V] at hv hv'
  subst hv hv'
  have h2 := val_ret h
  injection h2 with h2 h3
  subst h2 h3
  refine .mk (u := .int .i64 (if n > m then n else m)) (run_builtin ho hb ?_) (Post.pure hr.mem (V_int _ _ _))
  rw [hargs]
  show (do pure (Next.value (← Builtin.max_ c.argTypes o.type #[.int .i64 m, .int .i64 n]))).run V.P w = _
  simp [Builtin.max_, Builtin.max2]

theorem does_min {c : Go.Call} (ho : o.op = .call c) (hb : c.callee = .builtin .min) (h : (evVal V fid o).val σ = some (v, ws)) (hr : R w0 ok nt ds σ a w mu) :
    Does V.P w0 ok o a w σ.ob mu v ws := by
  simp only [evVal, ho, hb] at h
  have h := val_opds h
  generalize he : c.args.toList.map (valOf σ) = l at h
  split at h
  case h_2 => simp [Rd.val] at h
  rename_i m n
  obtain ⟨u, u', hargs, hv, hv'⟩ := args2 hr he
  simp only [Mill.V] at hv hv'
  subst hv hv'
  have h2 := val_ret h
  injection h2 with h2 h3
  subst h2 h3
  refine .mk (u := .int .i64 (if n < m then n else m)) (run_builtin ho hb ?_) (Post.pure hr.mem (V_int _ _ _))
  rw [hargs]
  show (do pure (Next.value (← Builtin.min_ c.argTypes o.type #[.int .i64 m, .int .i64 n]))).run V.P w = _
  simp [Builtin.min_, Builtin.min2]

theorem argTypes2 {l : Array TypeId} (h : (Nat.beq l.size 2 && Nat.beq (l.getD 0 0) (l.getD 1 1)) = true) : l = #[l.getD 0 0, l.getD 0 0] := by
  simp only [Bool.and_eq_true] at h
  have h1 := Nat.eq_of_beq_eq_true h.1
  have h2 := Nat.eq_of_beq_eq_true h.2
  apply Array.ext (by simpa using h1)
  intro i hi _
  rcases i with _ | _ | i
  · simp [Array.getD, h1]
  · simp only [Array.getD, h1] at h2
    simp at h2
    simp [Array.getD, h1]
    exact h2.symm
  · omega

theorem two_types {l : Array TypeId} (h : Nat.beq l.size 2 = true) : l = #[l.getD 0 0, l.getD 1 0] := by
  have h1 := Nat.eq_of_beq_eq_true h
  apply Array.ext (by simpa using h1)
  intro i hi _
  rcases i with _ | _ | i
  · simp [Array.getD, h1]
  · simp [Array.getD, h1]
  · omega

theorem DVs_replicate {c : Cx} {l : List D} {vs : List Value} (h : c.DVs l vs) : ∀ n : Nat, c.DVs (List.replicate n l).flatten (List.replicate n vs).flatten
  | 0 => by simp [Cx.DVs]
  | n + 1 => by
    rw [List.replicate_succ, List.replicate_succ, List.flatten_cons, List.flatten_cons]
    exact Cx.DVs.append h (DVs_replicate h n)

theorem run_append_no_zeros {P : Program} {w : World} {t t1 ty e : TypeId} {i : TypeInfo} {k : IntKind} (ht : P.underlying t = some (.slice e)) (hu : P.underlying t1 = some (.int k)) (hi : P.info? e = some i) :
    (Builtin.append_ #[t, t1] ty #[.slice none 0 0, .int .i64 ((0 : Nat) : Int)]).run P w = .ok (.slice none 0 0) w := by
  have hw : IntKind.i64.wrap (0 : Int) = 0 := rfl
  simp [Builtin.append_, run_underlying ht, run_underlying hu, sizeOf, typeInfo, hi, asInt, asIntOf, hw]

/-- append of so many zeros onto nil. -/
theorem zerosA_ok {nid : Nat} {ts : Array TypeId} {ty : TypeId} {s x : AV} {su xu : Value} (h : (zerosA V nid ts s x).val σ = some (v, ws)) (hr : R w0 ok nt ds σ a w mu)
    (hs : Mill.V (cx w σ.ob mu ok) s su) (hx : Mill.V (cx w σ.ob mu ok) x xu) : ∃ v' w', (Builtin.append_ ts ty #[su, xu]).run V.P w = .ok v' w' ∧ Post w0 ok w σ.ob mu v ws v' w' := by
  unfold zerosA at h
  obtain ⟨hat, h⟩ := val_bif h
  have hat := two_types hat
  generalize ts.getD 0 0 = t0 at h hat
  generalize ts.getD 1 0 = t1 at h hat
  subst hat
  split at h
  case h_2 => simp [Rd.val] at h
  rename_i n k hu' _
  have hu : V.P.underlying t1 = some (.int k) := hu'
  simp only [Mill.V] at hs hx
  subst hs hx
  obtain ⟨h0, h⟩ := val_ask h
  obtain ⟨h1, h⟩ := val_ask h
  have h0 := of_decide_eq_true h0
  have h1 := of_decide_eq_true h1
  unfold maxElems at h1
  obtain ⟨e, he, h⟩ := val_ofOpt h
  obtain ⟨τ, _, h⟩ := val_ofOpt h
  obtain ⟨z, hz, h⟩ := val_ofOpt h
  obtain ⟨y0, hy0, h⟩ := val_ofOpt h
  obtain ⟨hel, h⟩ := val_bif h
  obtain ⟨hid, h⟩ := val_rd_undef h
  have h2 := val_ret h
  injection h2 with h2 h3
  subst h2 h3
  obtain ⟨i, zv, hi, hsz, hzv, hzs, hby, hzc, _⟩ := elemOk_ok hel
  rw [hz] at hzc
  obtain rfl := Option.some.inj hzc
  have ht := elemOf_ok he
  obtain ⟨m, rfl⟩ : ∃ m : Nat, n = m := ⟨n.toNat, by omega⟩
  have hdz := decA_ok (c := cx w σ.ob mu ok) hy0 (VL_ofValue _ zv)
  rw [Int.toNat_natCast]
  have hpass : ∀ w', (Turned w w' fun _ => False) → ∀ (o : AV) (blk : Option Nat), (∀ b, blk = some b → (none = some b ∨ w.heap.size ≤ b) ∧ b < w'.heap.size) →
      ∃ mu', mu' nid = blk ∧ Mono (cx w σ.ob mu ok) (cx w' ((nid, o) :: appOb [] σ.ob) mu' ok) ∧ (ObjOK (cx w' ((nid, o) :: appOb [] σ.ob) mu' ok) nid → Mem w0 (cx w' ((nid, o) :: appOb [] σ.ob) mu' ok)) := by
    intro w' htw o blk hblk
    have := hr.mem.alloc (w' := w') (o := o) (blk := blk) hid htw (fun b hb => by
      obtain ⟨h1, h2⟩ := hblk b hb
      rcases h1 with h1 | h1
      · cases h1
      · exact ⟨h1, h2⟩)
    exact ⟨upd mu nid blk, upd_eq _ _ _, this.1, this.2⟩
  by_cases hm0 : m = 0
  · subst hm0
    have hrun := run_append_no_zeros (P := V.P) (w := w) (ty := ty) ht hu hi
    exact ⟨_, _, hrun, post_appended (ws0 := []) (blk0 := none) (zs := []) 0 (hpass w (Turned.refl _ _)) (World.ownsRow_nil w 0 e τ.sz) (.inl rfl) (fun _ _ => trivial)⟩
  · have hpos : 0 < m := by omega
    have hb48 : m * i.bytes ≤ 281474976710656 := by
      have : m * i.bytes ≤ 4294967296 * 1024 := Nat.mul_le_mul (by omega) hby
      omega
    have hrun := Lib.run_append_nil_zeros (P := V.P) w t0 t1 ty e i zv .i64 k ht hu hi hzv m hpos (by rw [hsz]; exact τ.sz_pos) (by omega) hb48
    have hge := grownCap_ge w m 0 e
    have hle := grownCap_le_maxLen w m 0 e (by simp only [maxLen]; omega)
    generalize grownCap w m 0 e = cap at hrun hge hle
    have hcells : (Builtin.zeroCells zv.cells m).toList = (List.replicate m zv.cells.toList).flatten := by
      have := made_toList zv.cells m (by rw [hzs]; exact τ.sz_pos)
      exact this
    have hs1 : (Builtin.zeroCells zv.cells m).size = m * τ.sz := by rw [size_zeroCells, hzs]
    have hs2 : (Builtin.zeroCells zv.cells m ++ Builtin.zeroCells zv.cells (cap - m)).size = cap * τ.sz := by
      rw [Array.size_append, size_zeroCells, size_zeroCells, hzs, ← Nat.add_mul]
      congr 1
      omega
    refine ⟨_, _, hrun, ?_⟩
    have hnew : (w.drew.alloc (.cells (Builtin.zeroCells zv.cells m ++ Builtin.zeroCells zv.cells (cap - m)) e)).heap[w.heap.size]? = some (.cells (Builtin.zeroCells zv.cells m ++ Builtin.zeroCells zv.cells (cap - m)) e (0, 0)) :=
      heap_alloc_new w.drew _
    have hlen : (List.replicate m y0).length = m := List.length_replicate
    have hown : (w.drew.alloc (.cells (Builtin.zeroCells zv.cells m ++ Builtin.zeroCells zv.cells (cap - m)) e)).ownsRow 0 e τ.sz (.slice (some ⟨w.heap.size, 0, none⟩) m cap) (List.replicate m y0).length (Builtin.zeroCells zv.cells m).toList := by
      rw [hlen]
      refine ⟨by rw [Array.length_toList, hs1], .inr ⟨w.heap.size, cap, _, rfl, Nat.zero_le _, hnew, hge, hle, hs2, ?_⟩⟩
      rw [Array.toList_append, List.take_append_of_le_length (by rw [Array.length_toList, hs1]; exact Nat.le_refl _), List.take_of_length_le (by rw [Array.length_toList, hs1]; exact Nat.le_refl _)]
    refine post_appended (ws0 := []) (blk0 := none) 0 (hpass _ ⟨rfl, rfl, rfl, by rw [World.size_alloc]; exact Nat.le_succ w.heap.size, fun k hk _ => ?_⟩) hown (.inr rfl) (fun c' hc' => ?_)
    · exact Below.heap_alloc w.drew _ _ (show k < w.drew.heap.size from hk)
    · rw [hcells, List.map_replicate]
      exact DVs_replicate (Cx.DVs.imp hc'.dv hdz) m

theorem does_append {c : Go.Call} (ho : o.op = .call c) (hb : c.callee = .builtin .append) (h : (evVal V fid o).val σ = some (v, ws)) (hr : R w0 ok nt ds σ a w mu) :
    Does V.P w0 ok o a w σ.ob mu v ws := by
  simp only [evVal, ho, hb] at h
  have h := val_opds h
  generalize he : c.args.toList.map (valOf σ) = l at h
  split at h
  case h_2 => simp [Rd.val] at h
  rename_i s x
  obtain ⟨su, xu, hargs, hvs, hvx⟩ := args2 hr he
  cases hat : (Nat.beq c.argTypes.size 2 && Nat.beq (c.argTypes.getD 0 0) (c.argTypes.getD 1 1)) with
  | false =>
    rw [hat] at h
    obtain ⟨v', w', hrun, hp⟩ := zerosA_ok (ty := o.type) (show (zerosA V _ c.argTypes s x).val σ = some (v, ws) from h) hr hvs hvx
    refine .mk (run_builtin ho hb ?_) hp
    rw [hargs]
    show (do pure (Next.value (← Builtin.append_ c.argTypes o.type #[su, xu]))).run V.P w = _
    simp only [Sem.run_bind, hrun, Result.andThen_ok]
    rfl
  | true =>
  rw [hat] at h
  simp only [cond_true] at h
  have hat := argTypes2 hat
  obtain ⟨e, hel, h⟩ := val_ofOpt h
  obtain ⟨τ, _, h⟩ := val_ofOpt h
  obtain ⟨hok, h⟩ := val_bif h
  have ht := elemOf_ok hel
  obtain ⟨hid, h⟩ := val_rd_undef h
  have fin : ∀ v' w', (Builtin.append_ #[c.argTypes.getD 0 0, c.argTypes.getD 0 0] o.type #[su, xu]).run V.P w = .ok v' w' → Post w0 ok w σ.ob mu v ws v' w' → Does V.P w0 ok o a w σ.ob mu v ws := by
    intro v' w' hrun hp
    refine .mk (run_builtin ho hb ?_) hp
    rw [hargs]
    show (do pure (Next.value (← Builtin.append_ c.argTypes o.type #[su, xu]))).run V.P w = _
    rw [hat]
    simp only [Sem.run_bind, hrun, Result.andThen_ok]
    rfl
  rcases elems_ok h hr.mem hvx with ⟨τ', ys, h, hsrc⟩ | ⟨h, rfl⟩
  · split at h
    case h_2 => simp [Rd.val] at h
    rename_i hh _
    subst hh
    cases s with
    | emp =>
      simp only [Mill.V] at hvs
      subst hvs
      obtain ⟨hbig, h⟩ := val_ask h
      have h2 := val_ret h
      injection h2 with h2 h3
      subst h2 h3
      obtain ⟨v', w', hrun, hp⟩ := append_nil (ty := o.type) hr.mem hid ht hok hsrc (few_ok hbig)
      exact fin v' w' hrun hp
    | own id =>
      simp only [Rd.val] at h
      change (match σ.get (.m id) with | .row _ τ xs => _ | _ => _ : Rd (AV × Wr)).val σ = some (v, ws) at h
      cases hob : σ.get (.m id) with
      | row e' ρ xs =>
        rw [hob] at h
        obtain ⟨hee, h⟩ := val_bif h
        have hee := Nat.eq_of_beq_eq_true hee
        subst hee
        split at h
        case h_2 => simp [Rd.val] at h
        rename_i gg _
        subst gg
        obtain ⟨hbig, h⟩ := val_ask h
        have h2 := val_ret h
        injection h2 with h2 h3
        subst h2 h3
        obtain ⟨v', w', hrun, hp⟩ := append_own (ty := o.type) hr.mem hid hob hvs ht hok hsrc (fun _ => by have := few_ok hbig; rw [← Int.natCast_add]; exact this)
        exact fin v' w' hrun hp
      | _ => rw [hob] at h; simp [Rd.val] at h
    | _ => simp [Rd.val] at h
  · have hsrc : Src (cx w σ.ob mu ok) τ [] (.slice none 0 0) := ⟨none, 0, 0, rfl, rfl, fun h => (h rfl).elim⟩
    cases s with
    | emp =>
      simp only [Mill.V] at hvs
      subst hvs
      have h2 := val_ret h
      injection h2 with h2 h3
      subst h2 h3
      obtain ⟨v', w', hrun, hp⟩ := append_nil (ty := o.type) hr.mem hid ht hok hsrc (by simp [maxElems])
      exact fin v' w' hrun hp
    | own id =>
      simp only [Rd.val] at h
      change (match σ.get (.m id) with | .row _ τ xs => _ | _ => _ : Rd (AV × Wr)).val σ = some (v, ws) at h
      cases hob : σ.get (.m id) with
      | row e' ρ xs =>
        rw [hob] at h
        obtain ⟨hee, h⟩ := val_bif h
        have hee := Nat.eq_of_beq_eq_true hee
        subst hee
        split at h
        case h_2 => simp [Rd.val] at h
        rename_i gg _
        subst gg
        have h2 := val_ret h
        injection h2 with h2 h3
        subst h2 h3
        obtain ⟨v', w', hrun, hp⟩ := append_own (ty := o.type) hr.mem hid hob hvs ht hok hsrc (fun h => (h rfl).elim)
        rw [List.append_nil] at hp
        exact fin v' w' hrun hp
      | _ => rw [hob] at h; simp [Rd.val] at h
    | _ => simp [Rd.val] at h

end
end Go.Proofs.Mill
