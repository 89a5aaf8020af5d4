/- Parts of the proof: MillDo3, MillCall, MillSlice, MillStep, MillWide, MillReg, MillSeq. -/
import Derived.Test.YtaopdopnecognaaGreatMillAll1
import Derived.Lib.AppendZeros
import Derived.OrdersIn
import Derived.TacticsIn
set_option linter.all false
/- What each operation does: indexes, slices, builtins. -/
namespace Go.Proofs.Mill
variable {ds : List Deferred}
open Go.RowKit

section
variable {V : Env} {w0 w : World} {ok : Nat → Prop} {nt fid : Nat} {σ : St} {a : Act} {mu : Nat → Option Nat} {o : Oper} {v : AV} {ws : Wr}

theorem sliceSz_ok {t : TypeId} {sz : Nat} (h : sliceSz V t sz = true) : ∃ e i, V.P.underlying t = some (.slice e) ∧ V.P.info? e = some i ∧ i.size = sz := by
  unfold sliceSz at h
  split at h
  · rename_i e hu
    split at h
    · rename_i n hs
      obtain ⟨_, i, hi, hsz⟩ := info_size hs
      exact ⟨e, i, hu, hi, by have := Nat.eq_of_beq_eq_true h; omega⟩
    · cases h
  · cases h

theorem val_inBounds {α : Type} {n : Int} {len : Nat} {k : Rd α} {r : α} (h : (inBounds n len k).val σ = some r) : 0 ≤ n ∧ n < len ∧ k.val σ = some r := by
  obtain ⟨h1, h⟩ := val_ask h
  obtain ⟨h2, h⟩ := val_ask h
  exact ⟨of_decide_eq_true h1, of_decide_eq_true h2, h⟩

theorem val_eachOne {α : Type} {n : Int} {σ : St} {r : α} : ∀ {l i : Nat} {k : Nat → Rd α}, (eachOne n l i k).val σ = some r → ∃ m : Nat, m = n.toNat ∧ (k m).val σ = some r
  | 0, _, _, h => by simp [eachOne, Rd.val] at h
  | l + 1, i, k, h => by
    simp only [eachOne, Rd.val] at h
    by_cases hn : n = (i : Int)
    · rw [decide_eq_true hn] at h
      exact ⟨i, by omega, h⟩
    · rw [decide_eq_false hn] at h
      exact val_eachOne h

theorem run_indexAt_slice {P : Program} {w : World} {t e : TypeId} {i : TypeInfo} (hu : P.underlying t = some (.slice e)) (hi : P.info? e = some i) (k : IntKind) (n : Int) (b off len cap : Nat)
    (h0 : 0 ≤ n) (h1 : n < len) : (Instr.indexAt t (.slice (some ⟨b, off, none⟩) len cap) (.int k n)).run P w = .ok (.pointer (some ⟨b, off + n.toNat * i.size, none⟩)) w := by
  simp [Instr.indexAt, asIntOf, run_underlying hu, h0, h1, sizeOf, typeInfo, hi, add_none]

theorem lptr_of_dv {c : Cx} {τ : Ty} {xs : List τ.den} {v : Value} (h : c.DV (.lst τ.sz (xs.map τ.enc)) v) (i : Nat) (hi : i < xs.length) :
    ∃ b off cap, v = .slice (some ⟨b, off, none⟩) xs.length cap ∧ LptrV c τ xs i 0 (.pointer (some ⟨b, off + i * τ.sz, none⟩)) := by
  generalize hd : D.lst τ.sz (xs.map τ.enc) = d at h
  cases h with
  | nil sz A k hA =>
    injection hd with h1 h2
    have : xs = [] := by simpa using h2
    subst this
    simp at hi
  | lst sz rows b off k u hc hsz hcell hdv hb =>
    injection hd with h1 h2
    subst h2
    exact ⟨b, off, k, by simp, hi, b, off, u, by simp, hb, hcell, hdv⟩
  | _ => cases hd

theorem does_indexAddr {t : TypeId} {x y : Operand} (ho : o.op = .indexAddr t x y) (h : (evVal V fid o).val σ = some (v, ws)) (hr : R w0 ok nt ds σ a w mu) :
    Does V.P w0 ok o a w σ.ob mu v ws := by
  simp only [evVal, ho] at h
  have h := val_opd (val_opd h)
  have hx := V_operand hr x
  have hy := V_operand hr y
  generalize e2 : valOf σ y = Y at h hy
  cases Y <;> try (simp [Rd.val] at h; done)
  case int k n =>
    simp only [Mill.V] at hy
    simp only at h
    have fin : ∀ {b off cap len : Nat} {sz : Nat} {av : AV}, a.eval x = .slice (some ⟨b, off, none⟩) len cap → sliceSz V t sz = true → 0 ≤ n → n < len →
        (.ret (av, []) : Rd (AV × Wr)).val σ = some (v, ws) → Mill.V (cx w σ.ob mu ok) av (.pointer (some ⟨b, off + n.toNat * sz, none⟩)) → Does V.P w0 ok o a w σ.ob mu v ws := by
      intro b off cap len sz av hxe hs h0 h1 h hv
      have h2 := val_ret h
      injection h2 with h2 h3
      subst h2 h3
      obtain ⟨e, i, hu, hi, rfl⟩ := sliceSz_ok hs
      exact .mk (by simp only [execOp, ho, hxe, hy, Sem.run_bind, run_indexAt_slice hu hi k n b off len cap h0 h1, Result.andThen_ok]; rfl) (Post.pure hr.mem hv)
    generalize e1 : valOf σ x = X at h hx
    cases X <;> try (simp [idxAt, Rd.val] at h; done)
    case own id =>
      simp only [idxAt, Rd.val] at h
      have hx : OwnV (cx w σ.ob mu ok) id (a.eval x) := hx
      unfold OwnV at hx
      change (match σ.get (.m id) with | .row _ τ xs => _ | .frz τ xs => _ | _ => _ : Rd (AV × Wr)).val σ = some (v, ws) at h
      rw [show (cx w σ.ob mu ok).ob id = σ.get (.m id) from rfl] at hx
      cases hob : σ.get (.m id) <;> rw [hob] at h hx <;> try (simp [Rd.val] at h; done)
      case row e τ xs =>
        obtain ⟨hs, h⟩ := val_bif h
        obtain ⟨h0, h1, h⟩ := val_inBounds h
        have hlt : n.toNat < xs.length := by omega
        rcases hx with ⟨_, rfl, _⟩ | ⟨b, cap, cur, hb, hrow, hl, hxe⟩
        · simp at hlt
        · refine fin hxe hs h0 h1 h ?_
          show EptrV _ id n.toNat 0 _
          unfold EptrV
          rw [show (cx w σ.ob mu ok).ob id = .row e τ xs from hob]
          exact ⟨b, hb, by simp, hlt⟩
      case frz τ xs =>
        obtain ⟨hs, h⟩ := val_bif h
        obtain ⟨h0, h1, h⟩ := val_inBounds h
        obtain ⟨b, off, cap, hxe, hl⟩ := lptr_of_dv hx n.toNat (by omega)
        exact fin hxe hs h0 h1 h hl
    case lst τ xs =>
      simp only [idxAt] at h
      obtain ⟨hs, h⟩ := val_bif h
      obtain ⟨h0, h1, h⟩ := val_inBounds h
      obtain ⟨b, off, cap, hxe, hl⟩ := lptr_of_dv (show (cx w σ.ob mu ok).DV _ _ from hx) n.toNat (by omega)
      exact fin hxe hs h0 h1 h hl
    case ptr id off =>
      simp only [idxAt] at h
      generalize hu : V.P.underlying t = T at h
      split at h
      case h_2 => simp [Rd.val] at h
      rename_i len e
      cases hsz : sizeOf? V e with
      | none => rw [hsz] at h; simp [Rd.val] at h
      | some sz =>
      rw [hsz] at h
      obtain ⟨h0, h1, h⟩ := val_inBounds h
      obtain ⟨m', hn, h⟩ := val_eachOne h
      subst hn
      have h2 := val_ret h
      injection h2 with h2 h3
      subst h2 h3
      obtain ⟨p', y', hk, hxe, hv⟩ := addOff_ok (σ := σ) (k := fun p => .ret (p, ([] : Wr))) (p := .ptr id off) (n := n.toNat * sz) (r := (.ptr id (off + n.toNat * sz), [])) rfl hx
      obtain ⟨_, i, hi, rfl⟩ := info_size hsz
      have hk2 := val_ret hk
      injection hk2 with hk2 _
      subst hk2
      refine .mk (u := .pointer (some (y'.add (n.toNat * i.size)))) ?_ (Post.pure hr.mem hv)
      simp [execOp, ho, hxe, hy, Instr.indexAt, asIntOf, run_underlying hu, Instr.sureAddr, h0, h1, sizeOf, typeInfo, hi]

theorem bytes_getD (s : ByteArray) (i : Nat) (h : i < s.size) : s[i]? = some (s.data.toList.getD i 0) := by
  have h' : i < s.data.size := h
  rw [getElem?_pos s i h, show s[i] = s.data[i] from rfl]
  simp only [List.getD, Array.getElem?_toList, Array.getElem?_eq_getElem h', Option.getD_some]

theorem does_index {t : TypeId} {x y : Operand} (ho : o.op = .index t x y) (h : (evVal V fid o).val σ = some (v, ws)) (hr : R w0 ok nt ds σ a w mu) :
    Does V.P w0 ok o a w σ.ob mu v ws := by
  simp only [evVal, ho] at h
  have h := val_opd (val_opd h)
  have hx := V_operand hr x
  have hy := V_operand hr y
  generalize e2 : valOf σ y = Y at h hy
  generalize e1 : valOf σ x = X at h hx
  generalize hu : V.P.underlying t = T at h
  split at h
  · rename_i s k n
    simp only [Mill.V] at hx hy
    obtain ⟨h0, h1, h⟩ := val_inBounds h
    have h2 := val_ret h
    injection h2 with h2 h3
    subst h2 h3
    refine .mk (u := .int .u8 ((s.data.toList.getD n.toNat 0).toNat : Int)) ?_ (Post.pure hr.mem (V_int _ _ _))
    have hb := bytes_getD s n.toNat (by omega)
    simp only [execOp, ho, hx, hy, Instr.index, asIntOf, Sem.run_bind, Sem.run_pure, run_underlying hu, Result.andThen_ok]
    rw [if_pos h0, hb]
    rfl
  · rename_i len e cs k n
    obtain ⟨xa, hx, hxv⟩ := hx
    simp only [Mill.V] at hy
    obtain ⟨sz, hsz, h⟩ := val_ofOpt h
    obtain ⟨h0, h1, h⟩ := val_inBounds h
    obtain ⟨m', hn, h⟩ := val_eachOne h
    subst hn
    obtain ⟨av, hc, h⟩ := val_ofOpt h
    have h := val_giveCut h
    have h2 := val_ret h
    injection h2 with h2 h3
    subst h2 h3
    obtain ⟨u, hrun, hv⟩ := part_cut hxv hc w
    obtain ⟨_, i, hi, rfl⟩ := info_size hsz
    exact .mk (by simp [execOp, ho, hx, hy, Instr.index, asIntOf, run_underlying hu, h0, h1, sizeOf, typeInfo, hi, hrun]) (Post.pure hr.mem hv)
  · simp [Rd.val] at h

theorem does_makeSlice {t : TypeId} {x y : Operand} (ho : o.op = .makeSlice t x y) (h : (evVal V fid o).val σ = some (v, ws)) (hr : R w0 ok nt ds σ a w mu) :
    Does V.P w0 ok o a w σ.ob mu v ws := by
  simp only [evVal, ho] at h
  have h := val_opd (val_opd h)
  have hx := V_operand hr x
  have hy := V_operand hr y
  generalize e2 : valOf σ y = Y at h hy
  generalize e1 : valOf σ x = X at h hx
  split at h
  · rename_i n m
    simp only [Mill.V] at hx hy
    obtain ⟨hnm, h⟩ := val_ask h
    obtain ⟨h0, h⟩ := val_ask h
    obtain ⟨h1, h⟩ := val_ask h
    have hnm : n = m := by simpa using hnm
    have h0 := of_decide_eq_true h0
    have h1 := of_decide_eq_true h1
    unfold maxElems at h1
    rw [← hnm] at hy
    obtain ⟨e, he, h⟩ := val_ofOpt h
    obtain ⟨τ, _, h⟩ := val_ofOpt h
    obtain ⟨z, hz, h⟩ := val_ofOpt h
    obtain ⟨y0, hy0, h⟩ := val_ofOpt h
    obtain ⟨hel, h⟩ := val_bif h
    obtain ⟨hid, h⟩ := val_rd_undef h
    have h2 := val_ret h
    injection h2 with h2 h3
    subst h2 h3
    obtain ⟨i, zv, hi, hsz, hzv, hzs, hby, hzc, _⟩ := elemOk_ok hel
    rw [hz] at hzc
    obtain rfl := Option.some.inj hzc
    have ht := elemOf_ok he
    have hbytes : (i.bytes : Int) * n ≤ 281474976710656 := by
      have : (i.bytes : Int) * n ≤ 1024 * 4294967296 := Int.mul_le_mul (by omega) h1 h0 (by omega)
      omega
    have hrun := run_make (P := V.P) w t e i zv ht hi hzv .i64 .i64 n n h0 (Int.le_refl _) hbytes (by omega)
    have hdz := decA_ok (c := cx w σ.ob mu ok) hy0 (VL_ofValue _ zv)
    have hp := post_row (w0 := w0) (ok := ok) (ob := σ.ob) (mu := mu) (e := e) (xs := List.replicate n.toNat y0) (cur := madeCells zv.cells (n.toNat * i.size)) hr.mem hid
      (by rw [size_madeCells, List.length_replicate, hsz]) (by rw [List.length_replicate]; simp only [maxLen]; omega) (by
        have e1 : (madeCells zv.cells (n.toNat * i.size)).toList = (List.replicate n.toNat zv.cells.toList).flatten := by
          have := made_toList zv.cells n.toNat (by rw [hzs]; exact τ.sz_pos)
          unfold madeCells
          rw [hsz, ← hzs]
          exact this
        rw [e1, List.map_replicate]
        clear hrun e1 hid h
        induction n.toNat with
        | zero => simp [Cx.DVs]
        | succ k ih =>
          rw [List.replicate_succ, List.replicate_succ, List.flatten_cons, List.flatten_cons]
          exact Cx.DVs.append hdz ih)
    rw [List.length_replicate] at hp
    exact .mk (by simp only [execOp, ho, hx, hy, Sem.run_bind, hrun, Result.andThen_ok]; rfl) hp
  · simp [Rd.val] at h

theorem run_builtin {b : Builtin} {c : Go.Call} {u : Value} {w' : World} (ho : o.op = .call c) (hb : c.callee = .builtin b)
    (h : (builtin b c.argTypes o.type (c.args.map fun | .const _ => true | _ => false) (c.args.map a.eval)).run V.P w = .ok (.value u) w') : (execOp a.eval o).run V.P w = .ok (.value u) w' := by
  simp only [execOp, ho, resolve, hb, Sem.run_bind, Sem.run_pure, Result.andThen_ok, invoke]
  exact h

theorem args_list {c : Go.Call} (hr : R w0 ok nt ds σ a w mu) : VL (cx w σ.ob mu ok) (c.args.toList.map (valOf σ)) (c.args.map a.eval).toList := by
  have := VL_operands hr c.args.toList
  simpa using this

theorem args1 {c : Go.Call} {x : AV} (hr : R w0 ok nt ds σ a w mu) (h : c.args.toList.map (valOf σ) = [x]) : ∃ u, c.args.map a.eval = #[u] ∧ Mill.V (cx w σ.ob mu ok) x u := by
  have h1 := args_list (c := c) hr
  rw [h] at h1
  obtain ⟨u, us, h2, h3, h4⟩ := VL_cons h1
  obtain rfl := VL_nil h4
  exact ⟨u, Array.ext' h2, h3⟩

theorem args2 {c : Go.Call} {x y : AV} (hr : R w0 ok nt ds σ a w mu) (h : c.args.toList.map (valOf σ) = [x, y]) :
    ∃ u u', c.args.map a.eval = #[u, u'] ∧ Mill.V (cx w σ.ob mu ok) x u ∧ Mill.V (cx w σ.ob mu ok) y u' := by
  have h1 := args_list (c := c) hr
  rw [h] at h1
  obtain ⟨u, us, h2, h3, h4⟩ := VL_cons h1
  obtain ⟨u', us', rfl, h5, h6⟩ := VL_cons h4
  obtain rfl := VL_nil h6
  exact ⟨u, u', Array.ext' h2, h3, h5⟩

theorem getD_some {α : Type} (l : Array α) (i : Nat) (d : α) (h : i < l.size) : l[i]? = some (l.getD i d) := by
  simp [Array.getD, h]

theorem does_len {c : Go.Call} (ho : o.op = .call c) (hb : c.callee = .builtin .len) (h : (evVal V fid o).val σ = some (v, ws)) (hr : R w0 ok nt ds σ a w mu) :
    Does V.P w0 ok o a w σ.ob mu v ws := by
  simp only [evVal, ho, hb] at h
  obtain ⟨hsz, h⟩ := val_bif h
  have hsz := Nat.le_of_ble_eq_true hsz
  have h := val_opds h
  generalize he : c.args.toList.map (valOf σ) = l at h
  split at h
  case h_2 => simp [Rd.val] at h
  rename_i x
  obtain ⟨u, hargs, hv⟩ := args1 hr he
  have ht := getD_some c.argTypes 0 0 hsz
  generalize c.argTypes.getD 0 0 = t0 at h ht
  generalize hu : V.P.underlying t0 = T at h
  split at h
  · rename_i s
    simp only [Mill.V] at hv
    subst hv
    have h2 := val_ret h
    injection h2 with h2 h3
    subst h2 h3
    refine .mk (u := .int .i64 s.size) (run_builtin ho hb ?_) (Post.pure hr.mem (V_int _ _ _))
    rw [hargs]
    show (do pure (Next.value (← Builtin.len_ c.argTypes o.type #[.string s]))).run V.P w = _
    simp [Builtin.len_, ht, run_underlying hu, goInt]
  · rename_i e
    have hrun : ∀ A m cap, u = .slice A m cap → (builtin .len c.argTypes o.type (c.args.map fun | .const _ => true | _ => false) (c.args.map a.eval)).run V.P w = .ok (.value (.int .i64 m)) w := by
      rintro A m cap rfl
      rw [hargs]
      show (do pure (Next.value (← Builtin.len_ c.argTypes o.type #[.slice A m cap]))).run V.P w = _
      simp [Builtin.len_, ht, run_underlying hu, goInt]
    rcases elems_ok h hr.mem hv with ⟨τ, xs, h, A, m, cap, rfl, rfl, _⟩ | ⟨h, rfl⟩
    · have h2 := val_ret h
      injection h2 with h2 h3
      subst h2 h3
      exact .mk (run_builtin ho hb (hrun _ _ _ rfl)) (Post.pure hr.mem (V_int _ _ _))
    · have h2 := val_ret h
      injection h2 with h2 h3
      subst h2 h3
      exact .mk (run_builtin ho hb (hrun _ _ _ rfl)) (Post.pure hr.mem (V_int _ _ _))
  · simp [Rd.val] at h

theorem does_cap {c : Go.Call} (ho : o.op = .call c) (hb : c.callee = .builtin .cap) (h : (evVal V fid o).val σ = some (v, ws)) (hr : R w0 ok nt ds σ a w mu) :
    Does V.P w0 ok o a w σ.ob mu v ws := by
  simp only [evVal, ho, hb] at h
  obtain ⟨hsz, h⟩ := val_bif h
  have hsz := Nat.le_of_ble_eq_true hsz
  have h := val_opds h
  generalize he : c.args.toList.map (valOf σ) = l at h
  split at h
  case h_2 => simp [Rd.val] at h
  rename_i x
  obtain ⟨u, hargs, hv⟩ := args1 hr he
  have ht := getD_some c.argTypes 0 0 hsz
  generalize c.argTypes.getD 0 0 = t0 at h ht
  generalize hu : V.P.underlying t0 = T at h
  split at h
  · simp only [Mill.V] at hv
    subst hv
    have h2 := val_ret h
    injection h2 with h2 h3
    subst h2 h3
    refine .mk (u := .int .i64 0) (run_builtin ho hb ?_) (Post.pure hr.mem (V_int _ _ _))
    rw [hargs]
    show (do pure (Next.value (← Builtin.cap_ c.argTypes o.type #[.slice none 0 0]))).run V.P w = _
    simp [Builtin.cap_, ht, run_underlying hu, goInt]
  · simp [Rd.val] at h

theorem does_max {c : Go.Call} (ho : o.op = .call c) (hb : c.callee = .builtin .max) (h : (evVal V fid o).val σ = some (v, ws)) (hr : R w0 ok nt ds σ a w mu) :
    Does V.P w0 ok o a w σ.ob mu v ws := by
  simp only [evVal, ho, hb] at h
  have h := val_opds h
  generalize he : c.args.toList.map (valOf σ) = l at h
  split at h
  case h_2 => simp [Rd.val] at h
  rename_i m n
  obtain ⟨u, u', hargs, hv, hv'⟩ := args2 hr he
  simp only [Mill.V] at hv hv'
  subst hv hv'
  have h2 := val_ret h
  injection h2 with h2 h3
  subst h2 h3
  refine .mk (u := .int .i64 (if n > m then n else m)) (run_builtin ho hb ?_) (Post.pure hr.mem (V_int _ _ _))
  rw [hargs]
  show (do pure (Next.value (← Builtin.max_ c.argTypes o.type #[.int .i64 m, .int .i64 n]))).run V.P w = _
  simp [Builtin.max_, Builtin.max2]

theorem does_min {c : Go.Call} (ho : o.op = .call c) (hb : c.callee = .builtin .min) (h : (evVal V fid o).val σ = some (v, ws)) (hr : R w0 ok nt ds σ a w mu) :
    Does V.P w0 ok o a w σ.ob mu v ws := by
  simp only [evVal, ho, hb] at h
  have h := val_opds h
  generalize he : c.args.toList.map (valOf σ) = l at h
  split at h
  case h_2 => simp [Rd.val] at h
  rename_i m n
  obtain ⟨u, u', hargs, hv, hv'⟩ := args2 hr he
  simp only [Mill.V] at hv hv'
  subst hv hv'
  have h2 := val_ret h
  injection h2 with h2 h3
  subst h2 h3
  refine .mk (u := .int .i64 (if n < m then n else m)) (run_builtin ho hb ?_) (Post.pure hr.mem (V_int _ _ _))
  rw [hargs]
  show (do pure (Next.value (← Builtin.min_ c.argTypes o.type #[.int .i64 m, .int .i64 n]))).run V.P w = _
  simp [Builtin.min_, Builtin.min2]

theorem argTypes2 {l : Array TypeId} (h : (Nat.beq l.size 2 && Nat.beq (l.getD 0 0) (l.getD 1 1)) = true) : l = #[l.getD 0 0, l.getD 0 0] := by
  simp only [Bool.and_eq_true] at h
  have h1 := Nat.eq_of_beq_eq_true h.1
  have h2 := Nat.eq_of_beq_eq_true h.2
  apply Array.ext (by simpa using h1)
  intro i hi _
  rcases i with _ | _ | i
  · simp [Array.getD, h1]
  · simp only [Array.getD, h1] at h2
    simp at h2
    simp [Array.getD, h1]
    exact h2.symm
  · omega

theorem two_types {l : Array TypeId} (h : Nat.beq l.size 2 = true) : l = #[l.getD 0 0, l.getD 1 0] := by
  have h1 := Nat.eq_of_beq_eq_true h
  apply Array.ext (by simpa using h1)
  intro i hi _
  rcases i with _ | _ | i
  · simp [Array.getD, h1]
  · simp [Array.getD, h1]
  · omega

theorem DVs_replicate {c : Cx} {l : List D} {vs : List Value} (h : c.DVs l vs) : ∀ n : Nat, c.DVs (List.replicate n l).flatten (List.replicate n vs).flatten
  | 0 => by simp [Cx.DVs]
  | n + 1 => by
    rw [List.replicate_succ, List.replicate_succ, List.flatten_cons, List.flatten_cons]
    exact Cx.DVs.append h (DVs_replicate h n)

theorem run_append_no_zeros {P : Program} {w : World} {t t1 ty e : TypeId} {i : TypeInfo} {k : IntKind} (ht : P.underlying t = some (.slice e)) (hu : P.underlying t1 = some (.int k)) (hi : P.info? e = some i) :
    (Builtin.append_ #[t, t1] ty #[.slice none 0 0, .int .i64 ((0 : Nat) : Int)]).run P w = .ok (.slice none 0 0) w := by
  have hw : IntKind.i64.wrap (0 : Int) = 0 := rfl
  simp [Builtin.append_, run_underlying ht, run_underlying hu, sizeOf, typeInfo, hi, asInt, asIntOf, hw]

/-- append of so many zeros onto nil. -/
theorem zerosA_ok {nid : Nat} {ts : Array TypeId} {ty : TypeId} {s x : AV} {su xu : Value} (h : (zerosA V nid ts s x).val σ = some (v, ws)) (hr : R w0 ok nt ds σ a w mu)
    (hs : Mill.V (cx w σ.ob mu ok) s su) (hx : Mill.V (cx w σ.ob mu ok) x xu) : ∃ v' w', (Builtin.append_ ts ty #[su, xu]).run V.P w = .ok v' w' ∧ Post w0 ok w σ.ob mu v ws v' w' := by
  unfold zerosA at h
  obtain ⟨hat, h⟩ := val_bif h
  have hat := two_types hat
  generalize ts.getD 0 0 = t0 at h hat
  generalize ts.getD 1 0 = t1 at h hat
  subst hat
  split at h
  case h_2 => simp [Rd.val] at h
  rename_i n k hu' _
  have hu : V.P.underlying t1 = some (.int k) := hu'
  simp only [Mill.V] at hs hx
  subst hs hx
  obtain ⟨h0, h⟩ := val_ask h
  obtain ⟨h1, h⟩ := val_ask h
  have h0 := of_decide_eq_true h0
  have h1 := of_decide_eq_true h1
  unfold maxElems at h1
  obtain ⟨e, he, h⟩ := val_ofOpt h
  obtain ⟨τ, _, h⟩ := val_ofOpt h
  obtain ⟨z, hz, h⟩ := val_ofOpt h
  obtain ⟨y0, hy0, h⟩ := val_ofOpt h
  obtain ⟨hel, h⟩ := val_bif h
  obtain ⟨hid, h⟩ := val_rd_undef h
  have h2 := val_ret h
  injection h2 with h2 h3
  subst h2 h3
  obtain ⟨i, zv, hi, hsz, hzv, hzs, hby, hzc, _⟩ := elemOk_ok hel
  rw [hz] at hzc
  obtain rfl := Option.some.inj hzc
  have ht := elemOf_ok he
  obtain ⟨m, rfl⟩ : ∃ m : Nat, n = m := ⟨n.toNat, by omega⟩
  have hdz := decA_ok (c := cx w σ.ob mu ok) hy0 (VL_ofValue _ zv)
  rw [Int.toNat_natCast]
  have hpass : ∀ w', (Turned w w' fun _ => False) → ∀ (o : AV) (blk : Option Nat), (∀ b, blk = some b → (none = some b ∨ w.heap.size ≤ b) ∧ b < w'.heap.size) →
      ∃ mu', mu' nid = blk ∧ Mono (cx w σ.ob mu ok) (cx w' ((nid, o) :: appOb [] σ.ob) mu' ok) ∧ (ObjOK (cx w' ((nid, o) :: appOb [] σ.ob) mu' ok) nid → Mem w0 (cx w' ((nid, o) :: appOb [] σ.ob) mu' ok)) := by
    intro w' htw o blk hblk
    have := hr.mem.alloc (w' := w') (o := o) (blk := blk) hid htw (fun b hb => by
      obtain ⟨h1, h2⟩ := hblk b hb
      rcases h1 with h1 | h1
      · cases h1
      · exact ⟨h1, h2⟩)
    exact ⟨upd mu nid blk, upd_eq _ _ _, this.1, this.2⟩
  by_cases hm0 : m = 0
  · subst hm0
    have hrun := run_append_no_zeros (P := V.P) (w := w) (ty := ty) ht hu hi
    exact ⟨_, _, hrun, post_appended (ws0 := []) (blk0 := none) (zs := []) 0 (hpass w (Turned.refl _ _)) (World.ownsRow_nil w 0 e τ.sz) (.inl rfl) (fun _ _ => trivial)⟩
  · have hpos : 0 < m := by omega
    have hb48 : m * i.bytes ≤ 281474976710656 := by
      have : m * i.bytes ≤ 4294967296 * 1024 := Nat.mul_le_mul (by omega) hby
      omega
    have hrun := Lib.run_append_nil_zeros (P := V.P) w t0 t1 ty e i zv .i64 k ht hu hi hzv m hpos (by rw [hsz]; exact τ.sz_pos) (by omega) hb48
    have hge := grownCap_ge w m 0 e
    have hle := grownCap_le_maxLen w m 0 e (by simp only [maxLen]; omega)
    generalize grownCap w m 0 e = cap at hrun hge hle
    have hcells : (Builtin.zeroCells zv.cells m).toList = (List.replicate m zv.cells.toList).flatten := by
      have := made_toList zv.cells m (by rw [hzs]; exact τ.sz_pos)
      exact this
    have hs1 : (Builtin.zeroCells zv.cells m).size = m * τ.sz := by rw [size_zeroCells, hzs]
    have hs2 : (Builtin.zeroCells zv.cells m ++ Builtin.zeroCells zv.cells (cap - m)).size = cap * τ.sz := by
      rw [Array.size_append, size_zeroCells, size_zeroCells, hzs, ← Nat.add_mul]
      congr 1
      omega
    refine ⟨_, _, hrun, ?_⟩
    have hnew : (w.drew.alloc (.cells (Builtin.zeroCells zv.cells m ++ Builtin.zeroCells zv.cells (cap - m)) e)).heap[w.heap.size]? = some (.cells (Builtin.zeroCells zv.cells m ++ Builtin.zeroCells zv.cells (cap - m)) e (0, 0)) :=
      heap_alloc_new w.drew _
    have hlen : (List.replicate m y0).length = m := List.length_replicate
    have hown : (w.drew.alloc (.cells (Builtin.zeroCells zv.cells m ++ Builtin.zeroCells zv.cells (cap - m)) e)).ownsRow 0 e τ.sz (.slice (some ⟨w.heap.size, 0, none⟩) m cap) (List.replicate m y0).length (Builtin.zeroCells zv.cells m).toList := by
      rw [hlen]
      refine ⟨by rw [Array.length_toList, hs1], .inr ⟨w.heap.size, cap, _, rfl, Nat.zero_le _, hnew, hge, hle, hs2, ?_⟩⟩
      rw [Array.toList_append, List.take_append_of_le_length (by rw [Array.length_toList, hs1]; exact Nat.le_refl _), List.take_of_length_le (by rw [Array.length_toList, hs1]; exact Nat.le_refl _)]
    refine post_appended (ws0 := []) (blk0 := none) 0 (hpass _ ⟨rfl, rfl, rfl, by rw [World.size_alloc]; exact Nat.le_succ w.heap.size, fun k hk _ => ?_⟩) hown (.inr rfl) (fun c' hc' => ?_)
    · exact Below.heap_alloc w.drew _ _ (show k < w.drew.heap.size from hk)
    · rw [hcells, List.map_replicate]
      exact DVs_replicate (Cx.DVs.imp hc'.dv hdz) m

theorem does_append {c : Go.Call} (ho : o.op = .call c) (hb : c.callee = .builtin .append) (h : (evVal V fid o).val σ = some (v, ws)) (hr : R w0 ok nt ds σ a w mu) :
    Does V.P w0 ok o a w σ.ob mu v ws := by
  simp only [evVal, ho, hb] at h
  have h := val_opds h
  generalize he : c.args.toList.map (valOf σ) = l at h
  split at h
  case h_2 => simp [Rd.val] at h
  rename_i s x
  obtain ⟨su, xu, hargs, hvs, hvx⟩ := args2 hr he
  cases hat : (Nat.beq c.argTypes.size 2 && Nat.beq (c.argTypes.getD 0 0) (c.argTypes.getD 1 1)) with
  | false =>
    rw [hat] at h
    obtain ⟨v', w', hrun, hp⟩ := zerosA_ok (ty := o.type) (show (zerosA V _ c.argTypes s x).val σ = some (v, ws) from h) hr hvs hvx
    refine .mk (run_builtin ho hb ?_) hp
    rw [hargs]
    show (do pure (Next.value (← Builtin.append_ c.argTypes o.type #[su, xu]))).run V.P w = _
    simp only [Sem.run_bind, hrun, Result.andThen_ok]
    rfl
  | true =>
  rw [hat] at h
  simp only [cond_true] at h
  have hat := argTypes2 hat
  obtain ⟨e, hel, h⟩ := val_ofOpt h
  obtain ⟨τ, _, h⟩ := val_ofOpt h
  obtain ⟨hok, h⟩ := val_bif h
  have ht := elemOf_ok hel
  obtain ⟨hid, h⟩ := val_rd_undef h
  have fin : ∀ v' w', (Builtin.append_ #[c.argTypes.getD 0 0, c.argTypes.getD 0 0] o.type #[su, xu]).run V.P w = .ok v' w' → Post w0 ok w σ.ob mu v ws v' w' → Does V.P w0 ok o a w σ.ob mu v ws := by
    intro v' w' hrun hp
    refine .mk (run_builtin ho hb ?_) hp
    rw [hargs]
    show (do pure (Next.value (← Builtin.append_ c.argTypes o.type #[su, xu]))).run V.P w = _
    rw [hat]
    simp only [Sem.run_bind, hrun, Result.andThen_ok]
    rfl
  rcases elems_ok h hr.mem hvx with ⟨τ', ys, h, hsrc⟩ | ⟨h, rfl⟩
  · split at h
    case h_2 => simp [Rd.val] at h
    rename_i hh _
    subst hh
    cases s with
    | emp =>
      simp only [Mill.V] at hvs
      subst hvs
      obtain ⟨hbig, h⟩ := val_ask h
      have h2 := val_ret h
      injection h2 with h2 h3
      subst h2 h3
      obtain ⟨v', w', hrun, hp⟩ := append_nil (ty := o.type) hr.mem hid ht hok hsrc (few_ok hbig)
      exact fin v' w' hrun hp
    | own id =>
      simp only [Rd.val] at h
      change (match σ.get (.m id) with | .row _ τ xs => _ | _ => _ : Rd (AV × Wr)).val σ = some (v, ws) at h
      cases hob : σ.get (.m id) with
      | row e' ρ xs =>
        rw [hob] at h
        obtain ⟨hee, h⟩ := val_bif h
        have hee := Nat.eq_of_beq_eq_true hee
        subst hee
        split at h
        case h_2 => simp [Rd.val] at h
        rename_i gg _
        subst gg
        obtain ⟨hbig, h⟩ := val_ask h
        have h2 := val_ret h
        injection h2 with h2 h3
        subst h2 h3
        obtain ⟨v', w', hrun, hp⟩ := append_own (ty := o.type) hr.mem hid hob hvs ht hok hsrc (fun _ => by have := few_ok hbig; rw [← Int.natCast_add]; exact this)
        exact fin v' w' hrun hp
      | _ => rw [hob] at h; simp [Rd.val] at h
    | _ => simp [Rd.val] at h
  · have hsrc : Src (cx w σ.ob mu ok) τ [] (.slice none 0 0) := ⟨none, 0, 0, rfl, rfl, fun h => (h rfl).elim⟩
    cases s with
    | emp =>
      simp only [Mill.V] at hvs
      subst hvs
      have h2 := val_ret h
      injection h2 with h2 h3
      subst h2 h3
      obtain ⟨v', w', hrun, hp⟩ := append_nil (ty := o.type) hr.mem hid ht hok hsrc (by simp [maxElems])
      exact fin v' w' hrun hp
    | own id =>
      simp only [Rd.val] at h
      change (match σ.get (.m id) with | .row _ τ xs => _ | _ => _ : Rd (AV × Wr)).val σ = some (v, ws) at h
      cases hob : σ.get (.m id) with
      | row e' ρ xs =>
        rw [hob] at h
        obtain ⟨hee, h⟩ := val_bif h
        have hee := Nat.eq_of_beq_eq_true hee
        subst hee
        split at h
        case h_2 => simp [Rd.val] at h
        rename_i gg _
        subst gg
        have h2 := val_ret h
        injection h2 with h2 h3
        subst h2 h3
        obtain ⟨v', w', hrun, hp⟩ := append_own (ty := o.type) hr.mem hid hob hvs ht hok hsrc (fun h => (h rfl).elim)
        rw [List.append_nil] at hp
        exact fin v' w' hrun hp
      | _ => rw [hob] at h; simp [Rd.val] at h
    | _ => simp [Rd.val] at h

end
end Go.Proofs.Mill

/- A call of a function that is known. -/
namespace Go.Proofs.Mill
variable {ds : List Deferred}
open Go.RowKit

/-- Before anything is the call's own. -/
def pcx (w : World) (ok : Nat → Prop) : Cx := ⟨w, fun _ => .undef, fun _ => none, ok⟩

/-- A result, as the caller takes it over. -/
def Res (w0 : World) (ok : Nat → Prop) (w' : World) (r : AV) (v : Value) : Prop :=
  ∀ base, ∃ mu, Mem w0 (cx w' (appOb (impRes base r).2 []) mu fun b => ok b ∨ w0.heap.size ≤ b) ∧
    V (cx w' (appOb (impRes base r).2 []) mu fun b => ok b ∨ w0.heap.size ≤ b) (impRes base r).1 v

/-- What a known function does. -/
def SpecOK (P : Program) (f : FuncId) (s : Spec) : Prop :=
  ∀ (w0 : World) (ok : Nat → Prop) (avs : List AV) (args : Array Value) (a : s.α) (b : s.β), s.dec avs = some a → s.fn a = some b → VL (pcx w0 ok) avs args.toList →
    Calls P f args w0 fun e w' => ∃ v, e = .returned v ∧ Below w0.heap.size w0 w' ∧ Res w0 ok w' (s.enc b) v

def D.isFlat : D → Bool
  | .int _ _ | .bool _ | .str _ => true
  | _ => false

theorem DVs_flat {c c' : Cx} {τ : Ty} (hf : τ.flat = true) (x : τ.den) {vs : List Value} (h : c.DVs (τ.enc x) vs) : c'.DVs (τ.enc x) vs := by
  have hi : ∀ {k : IntKind} {n : Int} {v : Value}, c.DV (.int k n) v → c'.DV (.int k n) v := by intro k n v h; cases h; exact .int _ _
  have hb : ∀ {n : Bool} {v : Value}, c.DV (.bool n) v → c'.DV (.bool n) v := by intro n v h; cases h; exact .bool _
  have hs : ∀ {n : ByteArray} {v : Value}, c.DV (.str n) v → c'.DV (.str n) v := by intro n v h; cases h; exact .str _
  have key : ∀ {ds : List D} {vs : List Value}, (∀ d ∈ ds, (∃ k n, d = .int k n) ∨ (∃ b, d = .bool b) ∨ ∃ s, d = .str s) → c.DVs ds vs → c'.DVs ds vs := by
    intro ds
    induction ds with
    | nil => intro vs _ h; cases vs <;> first | trivial | exact h.elim
    | cons d ds ih =>
      intro vs hd h
      cases vs with
      | nil => exact h.elim
      | cons v vs =>
        refine ⟨?_, ih (fun d hd' => hd d (by simp [hd'])) h.2⟩
        rcases hd d (by simp) with ⟨k, n, rfl⟩ | ⟨b, rfl⟩ | ⟨s, rfl⟩
        · exact hi h.1
        · exact hb h.1
        · exact hs h.1
  have hall : (τ.enc x).all D.isFlat = true := by cases τ <;> first | rfl | (simp [Ty.flat] at hf)
  refine key ?_ h
  intro d hd
  have := List.all_eq_true.1 hall d hd
  cases d with
  | int k n => exact .inl ⟨k, n, rfl⟩
  | bool b => exact .inr (.inl ⟨b, rfl⟩)
  | str s => exact .inr (.inr ⟨s, rfl⟩)
  | fn f => simp [D.isFlat] at this
  | lst sz rows => simp [D.isFlat] at this

theorem DVs_flats {c c' : Cx} {τ : Ty} (hf : τ.flat = true) : ∀ (xs : List τ.den) {vs : List Value}, c.DVs (xs.map τ.enc).flatten vs → c'.DVs (xs.map τ.enc).flatten vs
  | [], vs, h => by cases vs <;> first | trivial | exact h.elim
  | x :: xs, vs, h => by
    simp only [List.map_cons, List.flatten_cons] at h ⊢
    obtain ⟨us, ws, rfl, h1, h2⟩ := h.split
    exact Cx.DVs.append (DVs_flat hf x h1) (DVs_flats hf xs h2)

/-- The ids of what is imported. -/
def Fresh (base : Nat) (ws : Wr) (next : Nat) : Prop :=
  base ≤ next ∧ (∀ p ∈ ws, base ≤ p.1 ∧ p.1 < next) ∧ (∀ p ∈ ws, ∃ e τ, ∃ xs : List τ.den, p.2 = .row e τ xs) ∧ (ws.map (·.1)).Nodup

theorem Fresh.nil (base : Nat) : Fresh base [] base := ⟨Nat.le_refl _, fun _ h => (by cases h), fun _ h => (by cases h), by simp⟩

theorem Fresh.append {a b c : Nat} {ws ws' : Wr} (h : Fresh a ws b) (k : Fresh b ws' c) : Fresh a (ws ++ ws') c := by
  obtain ⟨h1, h2, h3, h4⟩ := h
  obtain ⟨k1, k2, k3, k4⟩ := k
  refine ⟨Nat.le_trans h1 k1, fun p hp => ?_, fun p hp => ?_, ?_⟩
  · rcases List.mem_append.1 hp with hp | hp
    · have := h2 p hp; omega
    · have := k2 p hp; omega
  · rcases List.mem_append.1 hp with hp | hp
    · exact h3 p hp
    · exact k3 p hp
  · rw [List.map_append, List.nodup_append]
    refine ⟨h4, k4, fun x hx y hy e => ?_⟩
    obtain ⟨p, hp, rfl⟩ := List.mem_map.1 hx
    obtain ⟨q, hq, rfl⟩ := List.mem_map.1 hy
    have := h2 p hp
    have := k2 q hq
    omega

theorem impCell_fresh (id : Nat) (v : AV) : Fresh id (impCell id v).2.1 (impCell id v).2.2 := by
  unfold impCell
  split
  · exact ⟨Nat.le_succ id, fun p hp => by simp at hp; subst hp; simp, fun p hp => by simp at hp; subst hp; exact ⟨_, _, _, rfl⟩, by simp⟩
  · exact Fresh.nil id

theorem impCells_fresh : ∀ (id : Nat) (vs : List AV), Fresh id (impCells id vs).2.1 (impCells id vs).2.2
  | id, [] => Fresh.nil id
  | id, v :: r => (impCell_fresh id v).append (impCells_fresh (impCell id v).2.2 r)

theorem impVal_fresh (id : Nat) (v : AV) : Fresh id (impVal id v).2.1 (impVal id v).2.2 := by
  unfold impVal
  split
  · exact impCells_fresh _ _
  · exact impCell_fresh _ _

theorem impVals_fresh : ∀ (id : Nat) (vs : List AV), Fresh id (impVals id vs).2.1 (impVals id vs).2.2
  | id, [] => Fresh.nil id
  | id, v :: r => (impVal_fresh id v).append (impVals_fresh (impVal id v).2.2 r)

theorem impRes_fresh (id : Nat) (v : AV) : ∃ n, Fresh id (impRes id v).2 n := by
  unfold impRes
  split
  · exact ⟨_, impVals_fresh _ _⟩
  · exact ⟨_, impVal_fresh _ _⟩

theorem look_appOb_not : ∀ (ws : Wr) (ob : List (Nat × AV)) (id : Nat), (∀ p ∈ ws, p.1 ≠ id) → look (appOb ws ob) id = look ob id
  | [], _, _, _ => rfl
  | p :: ws, ob, id, h => by
    show look (appOb ws (p :: ob)) id = _
    rw [look_appOb_not ws _ id (fun q hq => h q (by simp [hq]))]
    exact look_ne _ _ (h p (by simp))

theorem look_appOb_in : ∀ (ws : Wr) (ob : List (Nat × AV)) (p : Nat × AV), (ws.map (·.1)).Nodup → p ∈ ws → look (appOb ws ob) p.1 = p.2
  | [], _, _, _, h => by cases h
  | q :: ws, ob, p, hn, h => by
    simp only [List.map_cons, List.nodup_cons] at hn
    show look (appOb ws (q :: ob)) p.1 = _
    rcases List.mem_cons.1 h with rfl | h
    · rw [look_appOb_not ws _ _ (fun r hr e => hn.1 (List.mem_map.2 ⟨r, hr, e⟩))]
      exact look_eq _ _ _
    · exact look_appOb_in ws _ p hn.2 h

/-- What a call answers is joined to what the caller has. -/
theorem Mem.join {w0 w w' : World} {ob : List (Nat × AV)} {mu mur : Nat → Option Nat} {ok okR : Nat → Prop} {ws : Wr}
    (hm : Mem w0 (cx w ob mu ok)) (hb : Below w.heap.size w w') (hres : Mem w (cx w' (appOb ws []) mur okR)) (hnd : (ws.map (·.1)).Nodup) (hfree : ∀ p ∈ ws, look ob p.1 = .undef)
    (hok : ∀ b, okR b → b < w.heap.size → ok b ∧ ∀ id, mu id ≠ some b) :
    ∃ mu', Mono (cx w ob mu ok) (cx w' (appOb ws ob) mu' ok) ∧ Mem w0 (cx w' (appOb ws ob) mu' ok) ∧ MonoB (cx w' (appOb ws []) mur okR) (cx w' (appOb ws ob) mu' ok) := by
  let mu' : Nat → Option Nat := fun id => if ws.any (fun p => p.1 == id) then mur id else mu id
  have hin : ∀ id, (∃ p ∈ ws, p.1 = id) → mu' id = mur id := by
    rintro id ⟨p, hp, rfl⟩
    have : ws.any (fun q => q.1 == p.1) = true := List.any_eq_true.2 ⟨p, hp, by simp⟩
    simp [mu', this]
  have hout : ∀ id, (∀ p ∈ ws, p.1 ≠ id) → mu' id = mu id := by
    intro id h
    have : ws.any (fun q => q.1 == id) = false := by
      rw [List.any_eq_false]
      intro q hq
      have := h q hq
      simpa using this
    simp [mu', this]
  have hdec : ∀ id, (∃ p ∈ ws, p.1 = id) ∨ (∀ p ∈ ws, p.1 ≠ id) := by
    intro id
    by_cases h : ∃ p ∈ ws, p.1 = id
    · exact .inl h
    · exact .inr fun p hp e => h ⟨p, hp, e⟩
  have hobin : ∀ id, (∃ p ∈ ws, p.1 = id) → look (appOb ws ob) id = look (appOb ws []) id ∧ look ob id = .undef := by
    rintro id ⟨p, hp, rfl⟩
    exact ⟨by rw [look_appOb_in ws ob p hnd hp, look_appOb_in ws [] p hnd hp], hfree p hp⟩
  have hobout : ∀ id, (∀ p ∈ ws, p.1 ≠ id) → look (appOb ws ob) id = look ob id ∧ look (appOb ws []) id = .undef := by
    intro id h
    exact ⟨look_appOb_not ws ob id h, by rw [look_appOb_not ws [] id h]; rfl⟩
  have hnew : ∀ id b, mur id = some b → w.heap.size ≤ b := fun id b h => hres.base id b h
  have hmurout : ∀ id, (∀ p ∈ ws, p.1 ≠ id) → mur id = none := by
    intro id h
    have := hres.obj id
    unfold ObjOK at this
    rw [show (cx w' (appOb ws []) mur okR).ob id = .undef from (hobout id h).2] at this
    exact this
  have hmono1 : Mono (cx w ob mu ok) (cx w' (appOb ws ob) mu' ok) := by
    refine mono_of (fun b hb' => ?_) (fun id => ?_) (fun b h2 h3 => ⟨fun id => ?_, hb.block b h2⟩)
    rotate_right
    · show mu' id ≠ some b
      rcases hdec id with h | h
      · rw [hin id h]
        intro e
        have := hnew id b e
        have : b < w.heap.size := h2
        omega
      · rw [hout id h]; exact h3 id
    · obtain ⟨h1, h2, h3⟩ := hb'
      refine ⟨⟨h1, Nat.lt_of_lt_of_le h2 hb.size, fun id => ?_⟩, hb.block b h2⟩
      show mu' id ≠ some b
      rcases hdec id with h | h
      · rw [hin id h]
        intro e
        have := hnew id b e
        have : b < w.heap.size := h2
        omega
      · rw [hout id h]; exact h3 id
    · rcases hdec id with h | h
      · exact .inl (hobin id h).2
      · exact .inr (.inr (.inl ⟨(hobout id h).1, hout id h, fun b hb' => hb.block b (hm.lt hb')⟩))
  have hmono2 : MonoB (cx w' (appOb ws []) mur okR) (cx w' (appOb ws ob) mu' ok) := by
    refine mono_ofB (fun b hb' => ?_) (fun id => ?_)
    · obtain ⟨h1, h2, h3⟩ := hb'
      refine ⟨⟨?_, h2, fun id => ?_⟩, rfl⟩
      · by_cases hbs : b < w.heap.size
        · exact (hok b h1 hbs).1
        · exact hm.new_ok (Nat.le_of_not_lt hbs)
      · show mu' id ≠ some b
        rcases hdec id with h | h
        · rw [hin id h]; exact h3 id
        · rw [hout id h]
          by_cases hbs : b < w.heap.size
          · exact (hok b h1 hbs).2 id
          · intro e
            exact hbs (hm.lt (id := id) e)
    · rcases hdec id with h | h
      · exact .inr (.inr (.inl ⟨(hobin id h).1, hin id h, fun _ _ => rfl⟩))
      · exact .inl (hobout id h).2
  refine ⟨mu', hmono1, ⟨fun id => ?_, fun i j b hi hj => ?_, fun id b hid => ?_, ?_, hm.okn_of rfl hb.size fun b h1 h2 id e => by
    have e : mu' id = some b := e
    rcases hdec id with h | h
    · rw [hin id h] at e; have := hnew id b e; have : b < w.heap.size := h1; omega
    · rw [hout id h] at e; exact h2 id e⟩, hmono2⟩
  · rcases hdec id with h | h
    · exact (hres.obj id).keepB hmono2 (hobin id h).1 (hin id h) (fun _ _ => rfl)
    · exact (hm.obj id).keep hmono1 (hobout id h).1 (hout id h) (fun b hb' => hb.block b (hm.lt hb'))
  · have hi : mu' i = some b := hi
    have hj : mu' j = some b := hj
    rcases hdec i with h | h <;> rcases hdec j with h' | h'
    · rw [hin i h] at hi; rw [hin j h'] at hj
      exact hres.inj i j b hi hj
    · rw [hin i h] at hi; rw [hout j h'] at hj
      have h1 := hnew i b hi
      have h2 : b < w.heap.size := hm.lt (id := j) hj
      omega
    · rw [hout i h] at hi; rw [hin j h'] at hj
      have h1 := hnew j b hj
      have h2 : b < w.heap.size := hm.lt (id := i) hi
      omega
    · rw [hout i h] at hi; rw [hout j h'] at hj
      exact hm.inj i j b hi hj
  · have hid : mu' id = some b := hid
    rcases hdec id with h | h
    · rw [hin id h] at hid
      exact Nat.le_trans hm.ext.size (hnew id b hid)
    · rw [hout id h] at hid
      exact hm.base id b hid
  · have h1 := hm.ext
    exact ⟨hb.os.trans h1.os, hb.tape.trans h1.tape, hb.output.trans h1.output, Nat.le_trans h1.size hb.size,
      fun k hk => (hb.block k (Nat.lt_of_lt_of_le hk h1.size)).trans (h1.block k hk)⟩

/-- Plain data alone. -/
def AV.dat1 : AV → Bool
  | .int _ _ | .bool _ | .str _ | .lst _ _ | .emp | .fn _ [] => true
  | _ => false
def AV.dat : AV → Bool
  | .agg cs => cs.all AV.dat1
  | v => v.dat1

theorem V_dat1 {c c' : Cx} (hok : ∀ d v, c.DV d v → c'.DV d v) {x : AV} {u : Value} (hx : x.dat1 = true) (h : V c x u) : V c' x u := by
  cases x <;> try (simp [AV.dat1] at hx; done)
  case int => exact h
  case bool => exact h
  case str => exact h
  case lst => exact hok _ _ h
  case emp => exact h
  case fn f caps =>
    cases caps with
    | nil =>
      obtain ⟨vs, e, hv⟩ := h
      exact ⟨vs, e, by rw [VL_nil hv]; trivial⟩
    | cons a b => simp [AV.dat1] at hx

theorem VL_dat1 {c c' : Cx} (hok : ∀ d v, c.DV d v → c'.DV d v) : ∀ {xs : List AV} {us : List Value}, xs.all AV.dat1 = true → VL c xs us → VL c' xs us
  | [], us, _, h => by rw [VL_nil h]; trivial
  | x :: xs, us, hx, h => by
    obtain ⟨u, us', rfl, h1, h2⟩ := VL_cons h
    simp only [List.all_cons, Bool.and_eq_true] at hx
    exact ⟨V_dat1 hok hx.1 h1, VL_dat1 hok hx.2 h2⟩

theorem V_dat {c c' : Cx} (hok : ∀ d v, c.DV d v → c'.DV d v) {x : AV} {u : Value} (hx : x.dat = true) (h : V c x u) : V c' x u := by
  cases x <;> first
    | (exact V_dat1 hok hx h)
    | (obtain ⟨vs, e, h⟩ := h; exact ⟨vs, e, VL_dat1 hok hx h⟩)

theorem VL_dat {c c' : Cx} (hok : ∀ d v, c.DV d v → c'.DV d v) : ∀ {xs : List AV} {us : List Value}, xs.all AV.dat = true → VL c xs us → VL c' xs us
  | [], us, _, h => by rw [VL_nil h]; trivial
  | x :: xs, us, hx, h => by
    obtain ⟨u, us', rfl, h1, h2⟩ := VL_cons h
    simp only [List.all_cons, Bool.and_eq_true] at hx
    exact ⟨V_dat hok hx.1 h1, VL_dat hok hx.2 h2⟩

/-- What arguments come to. -/
def ArgTo (ob : List (Nat × AV)) (v x : AV) (ws : Wr) : Prop :=
  ∀ (c c' : Cx) (u : Value), c.ob = look ob → Mono c c' → (∀ p ∈ ws, c'.ob p.1 = p.2) → V c v u → V c' x u

theorem argCell_ok {α : Type} {κ : Kd} {v : AV} {k : AV → Wr → Rd α} {σ : St} {r : α} (h : (argCell κ v k).val σ = some r) :
    ∃ x ws, (k x ws).val σ = some r ∧ Fz σ.ob ws ∧ x.dat1 = true ∧ ArgTo σ.ob v x ws := by
  unfold argCell at h
  split at h
  · rename_i τ
    cases v with
    | own id =>
      simp only [Rd.val] at h
      change (match σ.get (.m id) with | .row _ σ xs => _ | .frz σ xs => _ | _ => _ : Rd α).val σ = some r at h
      cases hob : σ.get (.m id) with
      | row e ρ xs =>
        rw [hob] at h
        simp only at h
        split at h
        · rename_i hh _
          subst hh
          refine ⟨_, _, h, fun p hp => ⟨e, ρ, xs, ?_, ?_⟩, rfl, fun c c' u hc hm hw hv => ?_⟩
          · simp only [List.mem_singleton] at hp; subst hp; exact hob
          · simp only [List.mem_singleton] at hp; subst hp; rfl
          · have h1 := hm.own id u hv
            have h2 := hw _ (List.mem_singleton.2 rfl)
            unfold OwnV at h1
            rw [h2] at h1
            exact h1
        · simp [Rd.val] at h
      | frz ρ xs =>
        rw [hob] at h
        simp only at h
        split at h
        · rename_i hh _
          subst hh
          refine ⟨_, _, h, Fz.nil _, rfl, fun c c' u hc hm hw hv => ?_⟩
          have h1 : OwnV c id u := hv
          unfold OwnV at h1
          rw [hc, show look σ.ob id = .frz ρ xs from hob] at h1
          exact hm.dv _ _ h1
        · simp [Rd.val] at h
      | _ => rw [hob] at h; simp [Rd.val] at h
    | lst ρ xs =>
      simp only at h
      split at h
      · rename_i hh _
        subst hh
        exact ⟨_, _, h, Fz.nil _, rfl, fun c c' u _ hm _ hv => hm.v _ _ hv⟩
      · simp [Rd.val] at h
    | emp => exact ⟨_, _, h, Fz.nil _, rfl, fun c c' u _ hm _ hv => by simp only [V] at hv; subst hv; exact DV.nil _ _ _ (fun _ => rfl)⟩
    | _ => simp [Rd.val] at h
  · cases v with
    | int _ _ => exact ⟨_, _, h, Fz.nil _, rfl, fun c c' u _ hm _ hv => hm.v _ _ hv⟩
    | bool _ => exact ⟨_, _, h, Fz.nil _, rfl, fun c c' u _ hm _ hv => hm.v _ _ hv⟩
    | str _ => exact ⟨_, _, h, Fz.nil _, rfl, fun c c' u _ hm _ hv => hm.v _ _ hv⟩
    | _ => simp [Rd.val] at h
  · rename_i f
    split at h
    · rename_i g
      obtain ⟨hg, h⟩ := val_bif h
      have hg := Nat.eq_of_beq_eq_true hg
      subst hg
      exact ⟨_, _, h, Fz.nil _, rfl, fun c c' u _ hm _ hv => hm.v _ _ hv⟩
    · simp [Rd.val] at h
  · split at h
    · exact ⟨_, _, h, Fz.nil _, rfl, fun c c' u _ hm _ hv => hm.v _ _ hv⟩
    · simp [Rd.val] at h
  · simp [Rd.val] at h

def ArgsTo (ob : List (Nat × AV)) (vs xs : List AV) (ws : Wr) : Prop :=
  ∀ (c c' : Cx) (us : List Value), c.ob = look ob → Mono c c' → (∀ p ∈ ws, c'.ob p.1 = p.2) → VL c vs us → VL c' xs us

theorem ArgsTo.cons {ob : List (Nat × AV)} {v x : AV} {vs xs : List AV} {ws ws' : Wr} (h : ArgTo ob v x ws) (k : ArgsTo ob vs xs ws') : ArgsTo ob (v :: vs) (x :: xs) (ws ++ ws') := by
  intro c c' us hc hm hw hv
  obtain ⟨u, us', rfl, hv1, hv2⟩ := VL_cons hv
  exact ⟨h c c' u hc hm (fun p hp => hw p (List.mem_append_left _ hp)) hv1, k c c' us' hc hm (fun p hp => hw p (List.mem_append_right _ hp)) hv2⟩

theorem argCells_ok {α : Type} {σ : St} {r : α} : ∀ {ks : List Kd} {vs : List AV} {k : List AV → Wr → Rd α}, (argCells ks vs k).val σ = some r →
    ∃ xs ws, (k xs ws).val σ = some r ∧ Fz σ.ob ws ∧ xs.all AV.dat1 = true ∧ ArgsTo σ.ob vs xs ws
  | [], [], k, h => ⟨[], [], h, Fz.nil _, rfl, fun c c' us _ _ _ hv => by rw [VL_nil hv]; trivial⟩
  | κ :: ks, v :: vs, k, h => by
    obtain ⟨x, ws, h1, h2, h3, h4⟩ := argCell_ok h
    obtain ⟨xs, ws', h5, h6, h7, h8⟩ := argCells_ok h1
    exact ⟨x :: xs, ws ++ ws', h5, h2.append h6, by simp only [List.all_cons, h3, h7, Bool.and_true], ArgsTo.cons h4 h8⟩
  | [], _ :: _, k, h => by simp [argCells, Rd.val] at h
  | _ :: _, [], k, h => by simp [argCells, Rd.val] at h

theorem argVal_ok {α : Type} {κ : Kd} {v : AV} {k : AV → Wr → Rd α} {σ : St} {r : α} (h : (argVal κ v k).val σ = some r) :
    ∃ x ws, (k x ws).val σ = some r ∧ Fz σ.ob ws ∧ x.dat = true ∧ ArgTo σ.ob v x ws := by
  unfold argVal at h
  split at h
  · cases v with
    | agg cs =>
      obtain ⟨xs, ws, h1, h2, h3, h4⟩ := argCells_ok h
      refine ⟨_, _, h1, h2, h3, fun c c' u hc hm hw hv => ?_⟩
      obtain ⟨vs, e, hv⟩ := hv
      exact ⟨vs, e, h4 c c' _ hc hm hw hv⟩
    | _ => simp [Rd.val] at h
  · obtain ⟨x, ws, h1, h2, h3, h4⟩ := argCell_ok h
    refine ⟨x, ws, h1, h2, ?_, h4⟩
    cases x <;> first | exact h3 | (simp [AV.dat1] at h3)

theorem argVals_ok {α : Type} {σ : St} {r : α} : ∀ {ks : List Kd} {vs : List AV} {k : List AV → Wr → Rd α}, (argVals ks vs k).val σ = some r →
    ∃ xs ws, (k xs ws).val σ = some r ∧ Fz σ.ob ws ∧ xs.all AV.dat = true ∧ ArgsTo σ.ob vs xs ws
  | [], [], k, h => ⟨[], [], h, Fz.nil _, rfl, fun c c' us _ _ _ hv => by rw [VL_nil hv]; trivial⟩
  | κ :: ks, v :: vs, k, h => by
    obtain ⟨x, ws, h1, h2, h3, h4⟩ := argVal_ok h
    obtain ⟨xs, ws', h5, h6, h7, h8⟩ := argVals_ok h1
    exact ⟨x :: xs, ws ++ ws', h5, h2.append h6, by simp only [List.all_cons, h3, h7, Bool.and_true], ArgsTo.cons h4 h8⟩
  | [], _ :: _, k, h => by simp [argVals, Rd.val] at h
  | _ :: _, [], k, h => by simp [argVals, Rd.val] at h

theorem val_freeAll {α : Type} {σ : St} {r : α} : ∀ {ws : Wr} {k : Rd α}, (freeAll ws k).val σ = some r → (∀ p ∈ ws, look σ.ob p.1 = .undef) ∧ k.val σ = some r
  | [], k, h => ⟨fun _ h => (by cases h), h⟩
  | (l, x) :: ws, k, h => by
    obtain ⟨h1, h2⟩ := val_rd_undef h
    obtain ⟨h3, h4⟩ := val_freeAll h2
    refine ⟨fun p hp => ?_, h4⟩
    rcases List.mem_cons.1 hp with rfl | hp
    · exact h1
    · exact h3 p hp

def Enter (P : Program) (f : FuncId) : Prop := ∃ fn, P.funcs[f]? = some fn ∧ fn.body.isNone = false ∧ (fn.name == "runtime.NumGoroutine") = false

theorem run_callFunc {P : Program} {f : FuncId} {args : Array Value} {w : World} (h : Enter P f) : (callFunc f args).run P w = .ok (.enter f args) w := by
  obtain ⟨fn, h1, h2, h3⟩ := h
  have h2' : fn.body ≠ none := by intro e; rw [e] at h2; simp at h2
  have h3' : ¬ fn.name = "runtime.NumGoroutine" := by simpa using h3
  simp [callFunc, h1, h2', h3']

theorem run_call {V : Env} {o : Oper} {a : Act} {c : Go.Call} {f : Operand} {g : FuncId} {caps : Array Value} {w : World} (ho : o.op = .call c) (hb : c.callee = .value f)
    (hf : a.eval f = .func (.func g) #[] caps) (he : Enter V.P g) : (execOp a.eval o).run V.P w = .ok (.enter g (c.args.map a.eval ++ caps)) w := by
  simp [execOp, ho, resolve, hb, hf, Deferred.ofValue, invoke, run_callFunc he]

theorem run_callB {V : Env} {o : Oper} {a : Act} {c : Go.Call} {f : Operand} {g : FuncId} {fs : Array Value} {w : World} (ho : o.op = .call c) (hb : c.callee = .value f)
    (hf : a.eval f = .func (.func g) fs #[]) (he : Enter V.P g) : (execOp a.eval o).run V.P w = .ok (.enter g (fs ++ c.args.map a.eval)) w := by
  simp [execOp, ho, resolve, hb, hf, Deferred.ofValue, invoke, run_callFunc he]

/-- A result that has no tables of others. -/
theorem V_strip {w' : World} {ob : List (Nat × AV)} {mu : Nat → Option Nat} {okA okB : Nat → Prop} {base : Nat} {r : AV} {v : Value} (hr : r.lends = false)
    (hob : ∀ p ∈ (impCell base r).2.1, look ob p.1 = p.2) (h : V (cx w' ob mu okA) (impCell base r).1 v) : V (cx w' ob mu okB) (impCell base r).1 v := by
  cases r <;> simp [AV.lends] at hr
  case int => exact h
  case bool => exact h
  case str => exact h
  case emp => exact h
  case ownv e τ xs =>
    have h1 := hob (base, .row e τ xs) (by simp [impCell])
    have h : OwnV (cx w' ob mu okA) base v := h
    show OwnV (cx w' ob mu okB) base v
    unfold OwnV at h ⊢
    rw [show (cx w' ob mu okA).ob base = .row e τ xs from h1] at h
    rw [show (cx w' ob mu okB).ob base = .row e τ xs from h1]
    exact h

theorem VL_strip {w' : World} {ob : List (Nat × AV)} {mu : Nat → Option Nat} {okA okB : Nat → Prop} : ∀ {rs : List AV} {base : Nat} {vs : List Value}, rs.any AV.lends = false →
    (∀ p ∈ (impCells base rs).2.1, look ob p.1 = p.2) → VL (cx w' ob mu okA) (impCells base rs).1 vs → VL (cx w' ob mu okB) (impCells base rs).1 vs
  | [], _, vs, _, _, h => by
    have h : VL (cx w' ob mu okA) [] vs := h
    rw [VL_nil h]; trivial
  | r :: rs, base, vs, hr, hob, h => by
    simp only [List.any_cons, Bool.or_eq_false_iff] at hr
    have h : VL (cx w' ob mu okA) ((impCell base r).1 :: (impCells (impCell base r).2.2 rs).1) vs := h
    obtain ⟨u, us, rfl, h1, h2⟩ := VL_cons h
    exact ⟨V_strip hr.1 (fun p hp => hob p (List.mem_append_left _ hp)) h1, VL_strip hr.2 (fun p hp => hob p (List.mem_append_right _ hp)) h2⟩

/-- Is a part of a result without tables of others? -/
def AV.lends1 : AV → Bool
  | .agg cs => cs.any AV.lends
  | v => v.lends

theorem V1_strip {w' : World} {ob : List (Nat × AV)} {mu : Nat → Option Nat} {okA okB : Nat → Prop} {base : Nat} {r : AV} {v : Value} (hr : r.lends1 = false)
    (hob : ∀ p ∈ (impVal base r).2.1, look ob p.1 = p.2) (h : V (cx w' ob mu okA) (impVal base r).1 v) : V (cx w' ob mu okB) (impVal base r).1 v := by
  by_cases ha : ∃ cs, r = .agg cs
  · obtain ⟨cs, rfl⟩ := ha
    obtain ⟨vs, e, h⟩ := h
    exact ⟨vs, e, VL_strip hr hob h⟩
  · have e1 : impVal base r = impCell base r := by cases r <;> first | rfl | exact (ha ⟨_, rfl⟩).elim
    have e2 : r.lends1 = r.lends := by cases r <;> first | rfl | exact (ha ⟨_, rfl⟩).elim
    rw [e1] at hob h ⊢
    exact V_strip (by rw [← e2]; exact hr) hob h

theorem VL1_strip {w' : World} {ob : List (Nat × AV)} {mu : Nat → Option Nat} {okA okB : Nat → Prop} : ∀ {rs : List AV} {base : Nat} {vs : List Value}, rs.any AV.lends1 = false →
    (∀ p ∈ (impVals base rs).2.1, look ob p.1 = p.2) → VL (cx w' ob mu okA) (impVals base rs).1 vs → VL (cx w' ob mu okB) (impVals base rs).1 vs
  | [], _, vs, _, _, h => by
    have h : VL (cx w' ob mu okA) [] vs := h
    rw [VL_nil h]; trivial
  | r :: rs, base, vs, hr, hob, h => by
    simp only [List.any_cons, Bool.or_eq_false_iff] at hr
    have h : VL (cx w' ob mu okA) ((impVal base r).1 :: (impVals (impVal base r).2.2 rs).1) vs := h
    obtain ⟨u, us, rfl, h1, h2⟩ := VL_cons h
    exact ⟨V1_strip hr.1 (fun p hp => hob p (List.mem_append_left _ hp)) h1, VL1_strip hr.2 (fun p hp => hob p (List.mem_append_right _ hp)) h2⟩

/-- Rows of plain numbers: what they are does not hang on the blocks that may be read. -/
def FlatRows (ws : Wr) : Prop := ∀ p ∈ ws, ∃ e τ, ∃ xs : List τ.den, p.2 = .row e τ xs ∧ τ.flat = true

theorem flat_cell {base : Nat} {r : AV} (hr : r.lends = false) : FlatRows (impCell base r).2.1 := by
  intro p hp
  cases r <;> simp [AV.lends] at hr <;> simp [impCell] at hp
  case ownv e τ xs => subst hp; exact ⟨e, τ, xs, rfl, hr⟩
theorem flat_cells : ∀ {rs : List AV} {base : Nat}, rs.any AV.lends = false → FlatRows (impCells base rs).2.1
  | [], _, _ => fun _ h => by cases h
  | r :: rs, base, hr => fun p hp => by
    simp only [List.any_cons, Bool.or_eq_false_iff] at hr
    rcases List.mem_append.1 hp with hp | hp
    · exact flat_cell hr.1 p hp
    · exact flat_cells hr.2 p hp
theorem flat_val {base : Nat} {r : AV} (hr : r.lends1 = false) : FlatRows (impVal base r).2.1 := by
  by_cases ha : ∃ cs, r = .agg cs
  · obtain ⟨cs, rfl⟩ := ha
    exact flat_cells hr
  · have e1 : impVal base r = impCell base r := by cases r <;> first | rfl | exact (ha ⟨_, rfl⟩).elim
    have e2 : r.lends1 = r.lends := by cases r <;> first | rfl | exact (ha ⟨_, rfl⟩).elim
    rw [e1]
    exact flat_cell (by rw [← e2]; exact hr)
theorem flat_vals : ∀ {rs : List AV} {base : Nat}, rs.any AV.lends1 = false → FlatRows (impVals base rs).2.1
  | [], _, _ => fun _ h => by cases h
  | r :: rs, base, hr => fun p hp => by
    simp only [List.any_cons, Bool.or_eq_false_iff] at hr
    rcases List.mem_append.1 hp with hp | hp
    · exact flat_val hr.1 p hp
    · exact flat_vals hr.2 p hp

theorem lendsAny_eq (r : AV) : r.lendsAny = match r with | .tup vs => vs.any AV.lends1 | v => v.lends1 := by
  cases r <;> rfl

/-- The same result, for a caller who knows nothing of its arguments' blocks. -/
theorem Res.strip {w w' : World} {okA : Nat → Prop} {r : AV} {v : Value} (h : Res w okA w' r v) (hr : r.lendsAny = false) : Res w (fun _ => False) w' r v := by
  intro base
  obtain ⟨mu, hm, hv⟩ := h base
  obtain ⟨n, hfr⟩ := impRes_fresh base r
  have hflat : FlatRows (impRes base r).2 := by
    rw [lendsAny_eq] at hr
    unfold impRes
    split
    · exact flat_vals hr
    · rename_i hnt
      have : r.lends1 = false := by cases r <;> first | exact hr | exact (hnt _ rfl).elim
      exact flat_val this
  have hin : ∀ p ∈ (impRes base r).2, look (appOb (impRes base r).2 []) p.1 = p.2 := fun p hp => look_appOb_in _ _ p hfr.2.2.2 hp
  refine ⟨mu, ⟨fun id => ?_, hm.inj, hm.base, hm.ext, fun b hb => .inl (.inr hb)⟩, ?_⟩
  · have ho := hm.obj id
    unfold ObjOK at ho ⊢
    by_cases hid : ∃ p ∈ (impRes base r).2, p.1 = id
    · obtain ⟨p, hp, rfl⟩ := hid
      obtain ⟨e, τ, xs, he, hf⟩ := hflat p hp
      have hl : look (appOb (impRes base r).2 []) p.1 = .row e τ xs := (hin p hp).trans he
      rw [show (cx w' (appOb (impRes base r).2 []) mu fun b => okA b ∨ w.heap.size ≤ b).ob p.1 = .row e τ xs from hl] at ho
      rw [show (cx w' (appOb (impRes base r).2 []) mu fun b => False ∨ w.heap.size ≤ b).ob p.1 = .row e τ xs from hl]
      rcases ho with ho | ⟨b, cap, cur, h1, h2, h3, h4, h5⟩
      · exact .inl ho
      · exact .inr ⟨b, cap, cur, h1, h2, h3, h4, DVs_flats hf xs h5⟩
    · have hl : look (appOb (impRes base r).2 []) id = .undef := by
        rw [look_appOb_not _ _ _ (fun p hp e => hid ⟨p, hp, e⟩)]; rfl
      rw [show (cx w' (appOb (impRes base r).2 []) mu fun b => okA b ∨ w.heap.size ≤ b).ob id = .undef from hl] at ho
      rw [show (cx w' (appOb (impRes base r).2 []) mu fun b => False ∨ w.heap.size ≤ b).ob id = .undef from hl]
      exact ho
  · rw [lendsAny_eq] at hr
    revert hin hv
    generalize appOb (impRes base r).2 [] = ob
    unfold impRes
    split
    · intro hv hin
      obtain ⟨vs, e, hv⟩ := hv
      exact ⟨vs, e, VL1_strip hr hin hv⟩
    · rename_i hnt
      intro hv hin
      have : r.lends1 = false := by cases r <;> first | exact hr | exact (hnt _ rfl).elim
      exact V1_strip this hin hv

theorem val_call {α β : Type} {x : Option β} {k : β → Rd α} {σ : St} {r : α} (h : (Rd.call x k).val σ = some r) : ∃ y, x = some y ∧ (k y).val σ = some r := by
  cases x with
  | none => exact absurd h (by intro h; cases h)
  | some y => exact ⟨y, rfl, h⟩

mutual
theorem V_still {c c' : Cx} (hok : ∀ d v, c.DV d v → c'.DV d v) : ∀ (x : AV) (u : Value), x.still = true → V c x u → V c' x u
  | .int _ _, _, _, h => h
  | .bool _, _, _, h => h
  | .str _, _, _, h => h
  | .lst _ _, _, _, h => hok _ _ h
  | .emp, _, _, h => h
  | .cst _, _, _, h => h
  | .agg cs, _, hs, ⟨vs, e, h⟩ => ⟨vs, e, VL_stills hok cs vs.toList hs h⟩
  | .fn _ cs, _, hs, ⟨vs, e, h⟩ => ⟨vs, e, VL_stills hok cs vs.toList hs h⟩
  | .undef, _, hs, _ => by cases hs
  | .own _, _, hs, _ => by cases hs
  | .ownv _ _ _, _, hs, _ => by cases hs
  | .ptr _ _, _, hs, _ => by cases hs
  | .eptr _ _ _, _, hs, _ => by cases hs
  | .lptr _ _ _ _, _, hs, _ => by cases hs
  | .cptr _ _, _, hs, _ => by cases hs
  | .tup _, _, hs, _ => by cases hs
  | .ifc _ _, _, hs, _ => by cases hs
  | .box _, _, hs, _ => by cases hs
  | .row _ _ _, _, hs, _ => by cases hs
  | .frz _ _, _, hs, _ => by cases hs
  | .dead, _, hs, _ => by cases hs
theorem VL_stills {c c' : Cx} (hok : ∀ d v, c.DV d v → c'.DV d v) : ∀ (xs : List AV) (us : List Value), AV.stills xs = true → VL c xs us → VL c' xs us
  | [], [], _, _ => trivial
  | x :: xs, u :: us, hs, ⟨a, b⟩ => by
    unfold AV.stills at hs
    cases hx : x.still with
    | false => rw [hx] at hs; cases hs
    | true => rw [hx] at hs; exact ⟨V_still hok x u hx a, VL_stills hok xs us hs b⟩
end

/-- Functions that are walked into, and see nothing of the store. -/
def PureOK (P : Program) (pr : FuncId → Nat → List AV → Option (AV × Wr)) : Prop :=
  ∀ f fid args v ws, pr f fid args = some (v, ws) → Enter P f ∧ (ws.map (·.1)).Nodup ∧ ∀ (w : World) (ok : Nat → Prop) (vals : Array Value), VL (pcx w ok) args vals.toList →
    Calls P f vals w fun e w' => ∃ u mu, e = .returned u ∧ Mem w (cx w' (appOb ws []) mu fun b => ok b ∨ w.heap.size ≤ b) ∧ V (cx w' (appOb ws []) mu fun b => ok b ∨ w.heap.size ≤ b) v u

mutual
theorem V_frozen {c c' : Cx} (hb : ∀ b, c.okb b → c'.okb b ∧ c'.w.heap[b]? = c.w.heap[b]?) : ∀ (v : AV) (u : Value), v.frozen = true → V c v u → V c' v u
  | .int _ _, _, _, h => h
  | .bool _, _, _, h => h
  | .str _, _, _, h => h
  | .lst _ _, _, _, h => DV.mono (fun b h => (hb b h).1) (fun b h => (hb b h).2) h
  | .emp, _, _, h => h
  | .cst _, _, _, h => h
  | .fn _ cs, _, hf, ⟨vs, e, h⟩ => ⟨vs, e, VL_frozens hb cs vs.toList hf h⟩
  | .cptr cs _, _, hf, ⟨b, cur, e, h1, h2, h3, h4⟩ => ⟨b, cur, e, h1, (hb b h2).1, ((hb b h2).2).trans h3, VL_frozens hb cs cur.toList hf h4⟩
  | .undef, _, hf, _ => by cases hf
  | .lstn _ _, _, hf, _ => by cases hf
  | .own _, _, hf, _ => by cases hf
  | .ownv _ _ _, _, hf, _ => by cases hf
  | .ptr _ _, _, hf, _ => by cases hf
  | .eptr _ _ _, _, hf, _ => by cases hf
  | .lptr _ _ _ _, _, hf, _ => by cases hf
  | .agg _, _, hf, _ => by cases hf
  | .tup _, _, hf, _ => by cases hf
  | .bfn _ _, _, hf, _ => by cases hf
  | .ifc _ _, _, hf, _ => by cases hf
  | .box _, _, hf, _ => by cases hf
  | .row _ _ _, _, hf, _ => by cases hf
  | .frz _ _, _, hf, _ => by cases hf
  | .dead, _, hf, _ => by cases hf
theorem VL_frozens {c c' : Cx} (hb : ∀ b, c.okb b → c'.okb b ∧ c'.w.heap[b]? = c.w.heap[b]?) : ∀ (vs : List AV) (us : List Value), AV.frozens vs = true → VL c vs us → VL c' vs us
  | [], [], _, _ => trivial
  | v :: vs, u :: us, hf, ⟨h1, h2⟩ => by
    unfold AV.frozens at hf
    cases hv : v.frozen with
    | false => rw [hv] at hf; cases hf
    | true => rw [hv] at hf; exact ⟨V_frozen hb v u hv h1, VL_frozens hb vs us hf h2⟩
end

theorem pcx_all {w : World} {ob : List (Nat × AV)} {mu : Nat → Option Nat} {ok : Nat → Prop} : ∀ b, (cx w ob mu ok).okb b → (pcx w fun _ => True).okb b ∧ (pcx w fun _ => True).w.heap[b]? = (cx w ob mu ok).w.heap[b]? :=
  fun _ h => ⟨⟨trivial, h.2.1, fun _ => by simp [pcx]⟩, rfl⟩

theorem lendL_ok {α : Type} {w : World} {σ : St} {c : Cx} {r : α} {g : AV → (AV → Rd α) → Rd α} (hg : ∀ {v u k}, (g v k).val σ = some r → V c v u → ∃ x, (k x).val σ = some r ∧ V (pcx w fun _ => True) x u) :
    ∀ {vs : List AV} {us : List Value} {k : List AV → Rd α}, (lendL g vs k).val σ = some r → VL c vs us → ∃ xs, (k xs).val σ = some r ∧ VL (pcx w fun _ => True) xs us
  | [], [], k, h, _ => ⟨[], h, trivial⟩
  | [], _ :: _, _, _, hv => hv.elim
  | _ :: _, [], _, _, hv => hv.elim
  | v :: vs, u :: us, k, h, ⟨hv, hvs⟩ => by
    obtain ⟨x, h1, h2⟩ := hg h hv
    obtain ⟨xs, h3, h4⟩ := lendL_ok hg h1 hvs
    exact ⟨x :: xs, h3, h2, h4⟩

theorem lendV_ok {α : Type} {w0 w : World} {ok : Nat → Prop} {σ : St} {mu : Nat → Option Nat} {r : α} (hm : Mem w0 (cx w σ.ob mu ok)) : ∀ (d : Nat) {v : AV} {u : Value} {k : AV → Rd α},
    (lendV d v k).val σ = some r → V (cx w σ.ob mu ok) v u → ∃ x, (k x).val σ = some r ∧ V (pcx w fun _ => True) x u
  | 0, _, _, _, h, _ => by simp [lendV, Rd.val] at h
  | d + 1, v, u, k, h, hv => by
    have hdv : ∀ d x, (cx w σ.ob mu ok).DV d x → (pcx w fun _ => True).DV d x := fun d x hd => DV.mono (fun b hb => (pcx_all b hb).1) (fun _ _ => rfl) hd
    have still : (bif v.still then k v else .fail : Rd α).val σ = some r → ∃ x, (k x).val σ = some r ∧ V (pcx w fun _ => True) x u := by
      intro h
      obtain ⟨hst, h⟩ := val_bif h
      exact ⟨v, h, V_still hdv _ _ hst hv⟩
    cases v with
    | ptr id off =>
      simp only [lendV, Rd.val] at h
      change (match σ.get (.m id) with | .box cs => _ | _ => _ : Rd α).val σ = some r at h
      have hv : PtrV (cx w σ.ob mu ok) id off u := hv
      unfold PtrV at hv
      have ho := hm.obj id
      unfold ObjOK at ho
      rw [show (cx w σ.ob mu ok).ob id = σ.get (.m id) from rfl] at hv ho
      cases hob : σ.get (.m id) <;> rw [hob] at h hv ho <;> try (simp [Rd.val] at h; done)
      case box cs =>
        obtain ⟨b, hb, rfl⟩ := hv
        obtain ⟨b', cur, e, hb', hh, hc⟩ := ho
        rw [hb] at hb'; cases hb'
        obtain ⟨xs, h1, h2⟩ := lendL_ok (c := cx w σ.ob mu ok) (fun h hv => lendV_ok hm d h hv) h hc
        exact ⟨_, h1, b, cur, e, rfl, ⟨trivial, (Array.getElem?_eq_some_iff.1 hh).1, fun _ => by simp [pcx]⟩, hh, h2⟩
    | fn f cs =>
      simp only [lendV] at h
      obtain ⟨vs, rfl, hc⟩ := hv
      obtain ⟨xs, h1, h2⟩ := lendL_ok (c := cx w σ.ob mu ok) (fun h hv => lendV_ok hm d h hv) h hc
      exact ⟨_, h1, vs, rfl, h2⟩
    | own id =>
      simp only [lendV, Rd.val] at h
      change (match σ.get (.m id) with | .row _ τ xs => _ | .frz τ xs => _ | _ => _ : Rd α).val σ = some r at h
      have hv : OwnV (cx w σ.ob mu ok) id u := hv
      unfold OwnV at hv
      have ho := hm.obj id
      unfold ObjOK at ho
      rw [show (cx w σ.ob mu ok).ob id = σ.get (.m id) from rfl] at hv ho
      cases hob : σ.get (.m id) <;> rw [hob] at h hv ho <;> try (simp [Rd.val] at h; done)
      case row e τ xs =>
        refine ⟨_, h, ?_⟩
        show (pcx w fun _ => True).DV (.lst τ.sz (xs.map τ.enc)) u
        rcases hv with ⟨hn, rfl, A, rfl⟩ | ⟨b, cap, cur, h1, h2, h3, rfl⟩
        · exact DV.nil _ _ _ (fun _ => rfl)
        · rcases ho with ⟨hn, _⟩ | ⟨b', cap', cur', h1', h2', _, _, hd⟩
          · rw [h1] at hn; cases hn
          · rw [h1] at h1'; cases h1'
            have e1 := h2.1.symm.trans h2'.1
            simp only [Option.some.injEq, Obj.cells.injEq, and_true] at e1
            subst e1
            exact DV_of_row (c := pcx w fun _ => True) ⟨h2.1, h2.2⟩ h3 (Cx.DVs.imp hdv hd) ⟨trivial, (Array.getElem?_eq_some_iff.1 h2.1).1, fun _ => by simp [pcx]⟩
      case frz τ xs => exact ⟨_, h, hdv _ _ hv⟩
    | cptr cs off =>
      simp only [lendV] at h
      obtain ⟨hst, h⟩ := val_bif h
      exact ⟨_, h, V_frozen pcx_all (.cptr cs off) u (by simp only [AV.frozen]; exact hst) hv⟩
    | undef => exact still h
    | int _ _ => exact still h
    | bool _ => exact still h
    | str _ => exact still h
    | lst _ _ => exact still h
    | lstn _ _ => exact still h
    | emp => exact still h
    | ownv _ _ _ => exact still h
    | eptr _ _ _ => exact still h
    | lptr _ _ _ _ => exact still h
    | agg _ => exact still h
    | tup _ => exact still h
    | bfn _ _ => exact still h
    | cst _ => exact still h
    | ifc _ _ => exact still h
    | box _ => exact still h
    | row _ _ _ => exact still h
    | frz _ _ => exact still h
    | dead => exact still h

/-- Values that are lent: for the function that only reads them the caller's variables are cells that nobody writes. -/
theorem lendPtrs_ok {α : Type} {w0 w : World} {ok : Nat → Prop} {σ : St} {mu : Nat → Option Nat} {r : α} (hm : Mem w0 (cx w σ.ob mu ok)) {vs : List AV} {us : List Value} {k : List AV → Rd α}
    (h : (lendPtrs vs k).val σ = some r) (hv : VL (cx w σ.ob mu ok) vs us) : ∃ vs', (k vs').val σ = some r ∧ VL (pcx w fun _ => True) vs' us :=
  lendL_ok (c := cx w σ.ob mu ok) (fun h hv => lendV_ok hm 8 h hv) h hv

/-- The store of a function that only read, for the caller: nothing. -/
theorem Mem.none {w w' : World} (h : Below w.heap.size w w') : Mem w (cx w' [] (fun _ => Option.none) fun b => False ∨ w.heap.size ≤ b) :=
  ⟨fun id => (by unfold ObjOK; rfl), fun _ _ _ h => (by cases h), fun _ _ h => (by cases h), h, fun b hb => .inl (.inr hb)⟩

/-- **A call of a function that is known.** -/
theorem does_call {V : Env} {w0 w : World} {ok : Nat → Prop} {nt fid : Nat} {σ : St} {a : Act} {mu : Nat → Option Nat} {o : Oper} {v : AV} {ws : Wr} {c : Go.Call} {f : Operand}
    {next : Act → World → Prop} {Q : Exit → Act → World → Prop} (hG : ∀ f s, V.G f = some s → SpecOK V.P f s ∧ Enter V.P f) (hP : PureOK V.P V.pure)
    (ho : o.op = .call c) (hb : c.callee = .value f) (h : (evVal V fid o).val σ = some (v, ws)) (hr : R w0 ok nt ds σ a w mu)
    (hn : ∀ u w', Post w0 ok w σ.ob mu v ws u w' → next (a.put o.dst u) w') : o.wp V.P a w next Q := by
  simp only [evVal, ho, hb] at h
  have h := val_opd h
  have hf := V_operand hr f
  cases hfv : valOf σ f with
  | fn g caps =>
    rw [hfv] at h hf
    obtain ⟨cv, hf, hcv⟩ := hf
    simp only at h
    cases hg : V.G g with
    | none =>
      rw [hg] at h
      simp only at h
      have h := val_opds h
      cases hst : AV.stills (c.args.toList.map (valOf σ) ++ caps) with
      | false =>
        rw [hst] at h
        simp only [cond_false] at h
        have hargs : VL (cx w σ.ob mu ok) (c.args.toList.map (valOf σ) ++ caps) (c.args.map a.eval ++ cv).toList := by
          rw [Array.toList_append]
          exact (args_list hr).append hcv
        obtain ⟨vs', h, hpc⟩ := lendPtrs_ok hr.mem h hargs
        obtain ⟨⟨v1, ws1⟩, hp, h⟩ := val_call h
        obtain ⟨hent, hnd, hcall⟩ := hP _ _ _ _ _ hp
        have hrun := run_call (w := w) ho hb hf hent
        unfold Oper.wp
        rw [hrun, Oper.upon_enter]
        have hone : (∃ k n, v1 = .int k n ∧ (v, ws) = (.int k n, [])) ∨ ∃ b, v1 = .bool b ∧ (v, ws) = (.bool b, []) := by
          cases v1 <;> first
            | exact .inl ⟨_, _, rfl, (val_ret h).symm⟩
            | exact .inr ⟨_, rfl, (val_ret h).symm⟩
            | simp [Rd.val] at h
        refine (hcall w _ _ hpc).mono fun e w' he => ?_
        obtain ⟨u, mur, rfl, hmr, hvr⟩ := he
        obtain ⟨mu', k1, k2, k3⟩ := hr.mem.join (ws := []) hmr.ext (Mem.none hmr.ext) (by simp) (fun p hp => by cases hp) (fun b hb hbs => by
          rcases hb with hb | hb
          · exact hb.elim
          · omega)
        have hv2 : Mill.V (cx w' (appOb [] σ.ob) mu' ok) v u := by
          rcases hone with ⟨k, n, rfl, he⟩ | ⟨b, rfl, he⟩
          · injection he with he _
            subst he
            exact hvr
          · injection he with he _
            subst he
            exact hvr
        have hws : ws = [] := by
          rcases hone with ⟨k, n, _, he⟩ | ⟨b, _, he⟩ <;> (injection he with _ he)
        subst hws
        exact hn _ _ ⟨mu', k2, k1, hv2⟩
      | true =>
      rw [hst] at h
      simp only [cond_true] at h
      obtain ⟨⟨v1, ws1⟩, hp, h⟩ := val_call h
      obtain ⟨hfree, h⟩ := val_freeAll h
      have h2 := val_ret h
      injection h2 with h2 h3
      subst h2 h3
      obtain ⟨hent, hnd, hcall⟩ := hP _ _ _ _ _ hp
      have hargs : VL (cx w σ.ob mu ok) (c.args.toList.map (valOf σ) ++ caps) (c.args.map a.eval ++ cv).toList := by
        rw [Array.toList_append]
        exact (args_list hr).append hcv
      have hrun := run_call (w := w) ho hb hf hent
      unfold Oper.wp
      rw [hrun, Oper.upon_enter]
      have hpc : VL (pcx w (cx w σ.ob mu ok).okb) (c.args.toList.map (valOf σ) ++ caps) (c.args.map a.eval ++ cv).toList :=
        VL_stills (c := cx w σ.ob mu ok) (c' := pcx w (cx w σ.ob mu ok).okb) (fun d v hd => DV.mono (fun b hb => ⟨hb, hb.2.1, fun _ => by simp [pcx]⟩) (fun _ _ => rfl) hd) _ _ hst hargs
      refine (hcall w _ _ hpc).mono fun e w' he => ?_
      obtain ⟨u, mur, rfl, hmr, hvr⟩ := he
      obtain ⟨mu', k1, k2, k3⟩ := hr.mem.join hmr.ext hmr hnd hfree (fun b hb hbs => by
        rcases hb with hb | hb
        · exact ⟨hb.1, hb.2.2⟩
        · omega)
      exact hn _ _ ⟨mu', k2, k1, k3.v _ _ hvr⟩
    | some s =>
      rw [hg] at h
      simp only at h
      obtain ⟨hspec, hent⟩ := hG g s hg
      have h := val_opds h
      cases hln : s.lend with
      | true =>
          rw [hln] at h
          simp only [cond_true] at h
          have hargs : VL (cx w σ.ob mu ok) (c.args.toList.map (valOf σ) ++ caps) (c.args.map a.eval ++ cv).toList := by
            rw [Array.toList_append]
            exact (args_list hr).append hcv
          obtain ⟨vs', h, hpc⟩ := lendPtrs_ok hr.mem h hargs
          obtain ⟨av, hdec, h⟩ := val_ofOpt h
          obtain ⟨b, hfn, h⟩ := val_call h
          have hrun := run_call (w := w) ho hb hf hent
          unfold Oper.wp
          rw [hrun, Oper.upon_enter]
          obtain ⟨hl, h⟩ : (s.enc b).lendsAny = false ∧ _ := by
            cases hl : (s.enc b).lendsAny with
            | true => rw [hl] at h; simp [Rd.val] at h
            | false => rw [hl] at h; exact ⟨rfl, h⟩
          simp only [cond_false] at h
          obtain ⟨hfree, h⟩ := val_freeAll h
          have h2 := val_ret h
          injection h2 with h2 h3
          subst h2 h3
          obtain ⟨n, hfr⟩ := impRes_fresh ((fid * 1024 + o.dst.getD 1023) * 64) (s.enc b)
          refine (hspec w _ _ _ av b hdec hfn hpc).mono fun e w' he => ?_
          obtain ⟨u, rfl, hbel, hres⟩ := he
          obtain ⟨mur, hmr, hvr⟩ := hres.strip hl ((fid * 1024 + o.dst.getD 1023) * 64)
          obtain ⟨mu', k1, k2, k3⟩ := hr.mem.join hbel hmr hfr.2.2.2 hfree (fun b hb hbs => by
            rcases hb with hb | hb
            · exact hb.elim
            · omega)
          exact hn _ _ ⟨mu', k2, k1, k3.v _ _ hvr⟩
      | false =>
        rw [hln] at h
        simp only [cond_false] at h
        cases caps with
        | cons => simp [Rd.val] at h
        | nil =>
        simp only at h
        have hcv : cv = #[] := Array.ext' (VL_nil hcv)
        subst hcv
        obtain ⟨xs, ws1, h, hfz, hdat, hto⟩ := argVals_ok h
        obtain ⟨av, hdec, h⟩ := val_ofOpt h
        obtain ⟨b, hfn, h⟩ := val_call h
        obtain ⟨hfree, h⟩ := val_freeAll h
        have h2 := val_ret h
        injection h2 with h2 h3
        subst h2 h3
        have hargs := args_list (c := c) hr
        obtain ⟨mu1, hm1, hmono1, hws, hothers⟩ := freezeAll hfz hr.mem
        have hargs1 := hto _ _ _ rfl hmono1 hws hargs
        have hrun := run_call (w := w) ho hb hf hent
        rw [Array.append_empty] at hrun
        unfold Oper.wp
        rw [hrun]
        rw [Oper.upon_enter]
        obtain ⟨n, hfr⟩ := impRes_fresh ((fid * 1024 + o.dst.getD 1023) * 64) (s.enc b)
        cases hl : (s.enc b).lendsAny with
        | true =>
          rw [hl] at hn
          simp only [cond_true] at hn
          have hpc : VL (pcx w (cx w (appOb ws1 σ.ob) mu1 ok).okb) xs (c.args.map a.eval).toList :=
            VL_dat (c := cx w (appOb ws1 σ.ob) mu1 ok) (c' := pcx w (cx w (appOb ws1 σ.ob) mu1 ok).okb) (fun d v hd => DV.mono (fun b hb => ⟨hb, hb.2.1, fun _ => by simp [pcx]⟩) (fun _ _ => rfl) hd) hdat hargs1
          refine (hspec w _ xs _ av b hdec hfn hpc).mono fun e w' he => ?_
          obtain ⟨u, rfl, hbel, hres⟩ := he
          obtain ⟨mur, hmr, hvr⟩ := hres ((fid * 1024 + o.dst.getD 1023) * 64)
          obtain ⟨mu', k1, k2, k3⟩ := hm1.join hbel hmr hfr.2.2.2 (fun p hp => by
            have := hfree p hp
            rw [(hothers p.1 (fun q hq e => by
              obtain ⟨_, _, _, h1, _⟩ := hfz q hq
              rw [e, this] at h1
              cases h1)).1]
            exact this) (fun b hb hbs => by
              rcases hb with hb | hb
              · exact ⟨hb.1, hb.2.2⟩
              · omega)
          exact hn _ _ (Post.after hmono1 ⟨mu', k2, k1, k3.v _ _ hvr⟩)
        | false =>
          rw [hl] at hn
          simp only [cond_false, List.nil_append] at hn
          have hpc : VL (pcx w (fun _ => True)) xs (c.args.map a.eval).toList :=
            VL_dat (c := cx w (appOb ws1 σ.ob) mu1 ok) (c' := pcx w (fun _ => True)) (fun d v hd => DV.mono (fun b hb => ⟨trivial, hb.2.1, fun _ => by simp [pcx]⟩) (fun _ _ => rfl) hd) hdat hargs1
          refine (hspec w _ xs _ av b hdec hfn hpc).mono fun e w' he => ?_
          obtain ⟨u, rfl, hbel, hres⟩ := he
          obtain ⟨mur, hmr, hvr⟩ := hres.strip hl ((fid * 1024 + o.dst.getD 1023) * 64)
          obtain ⟨mu', k1, k2, k3⟩ := hr.mem.join hbel hmr hfr.2.2.2 hfree (fun b hb hbs => by
            rcases hb with hb | hb
            · exact hb.elim
            · omega)
          exact hn _ _ ⟨mu', k2, k1, k3.v _ _ hvr⟩
  | _ => rw [hfv] at h; simp [Rd.val] at h

end Go.Proofs.Mill

/- Slice expressions; all operations together. -/
namespace Go.Proofs.Mill
variable {ds : List Deferred}
open Go.RowKit

section
variable {V : Env} {w0 w : World} {ok : Nat → Prop} {nt fid : Nat} {σ : St} {a : Act} {mu : Nat → Option Nat} {o : Oper} {v : AV} {ws : Wr}

theorem val_opdo {α : Type} {x : Option Operand} {k : Option AV → Rd α} {σ : St} {r : α} (h : (opdo x k).val σ = some r) : (k (x.map (valOf σ))).val σ = some r := by
  cases x with
  | none => exact h
  | some x => exact val_opd h


theorem run_bound {P : Program} {w : World} {v : Value} {x : AV} {y : Nat} {code : BoundsCode} {c : Cx} (hv : Mill.V c x v) (h0 : 0 ≤ bnd 0 (some x)) (h1 : bnd 0 (some x) ≤ y) :
    (Instr.sliceBound v y code).run P w = .ok (bnd 0 (some x)).toNat w := by
  cases x <;> simp only [bnd] at h0 h1 ⊢ <;> try omega
  simp only [Mill.V] at hv
  subst hv
  simp [Instr.sliceBound, asIntOf, h0, h1]

/-- The bounds of a slice expression. -/
theorem run_bounds {P : Program} (hr : R w0 ok nt ds σ a w mu) (lo hi : Option Operand) (isSlice : Bool) (len cap : Nat) (hc : len ≤ cap)
    (h0 : 0 ≤ bnd 0 (lo.map (valOf σ))) (h1 : bnd 0 (lo.map (valOf σ)) ≤ bnd len (hi.map (valOf σ))) (h2 : bnd len (hi.map (valOf σ)) ≤ (len : Int)) :
    (Instr.sliceBounds isSlice len cap (lo.map a.eval) (hi.map a.eval) none).run P w = .ok ((bnd 0 (lo.map (valOf σ))).toNat, (bnd len (hi.map (valOf σ))).toNat, cap) w := by
  have hb : ∀ (x : AV) (d : Int), bnd d (some x) = bnd 0 (some x) := fun x d => by cases x <;> rfl
  cases lo with
  | none =>
    cases hi with
    | none => simp [Instr.sliceBounds, bnd]
    | some hi =>
      simp only [Option.map_some, Option.map_none] at h0 h1 h2 ⊢
      rw [hb] at h1 h2 ⊢
      have hz : bnd 0 (none : Option AV) = 0 := rfl
      rw [hz] at h1 ⊢
      have e1 := fun code => run_bound (P := P) (w := w) (code := code) (y := cap) (V_operand hr hi) h1 (by omega)
      cases isSlice <;> simp [Instr.sliceBounds, e1]
  | some lo =>
    cases hi with
    | none =>
      simp only [Option.map_some, Option.map_none] at h0 h1 h2 ⊢
      have e1 := fun code => run_bound (P := P) (w := w) (code := code) (y := len) (V_operand hr lo) h0 (by simpa [bnd] using h1)
      cases isSlice <;> simp [Instr.sliceBounds, e1, bnd]
    | some hi =>
      simp only [Option.map_some] at h0 h1 h2 ⊢
      rw [hb _ (len : Int)] at h1 h2 ⊢
      have e1 := fun code => run_bound (P := P) (w := w) (code := code) (y := cap) (V_operand hr hi) (by omega) (by omega)
      have e2 := fun code => run_bound (P := P) (w := w) (code := code) (y := (bnd 0 (some (valOf σ hi))).toNat) (V_operand hr lo) h0 (by omega)
      cases isSlice <;> simp [Instr.sliceBounds, e1, e2]

theorem flatten_take_get : ∀ (rows : List (List D)) (n : Nat) (j : Nat) (d : D), (rows.take n).flatten[j]? = some d → rows.flatten[j]? = some d
  | rows, n, j, d, h => by
    have e : rows.flatten = (rows.take n).flatten ++ (rows.drop n).flatten := by rw [← List.flatten_append, List.take_append_drop]
    rw [e, List.getElem?_append_left (List.getElem?_eq_some_iff.1 h).1]
    exact h

theorem flatten_len {sz : Nat} : ∀ (rows : List (List D)), (∀ r ∈ rows, r.length = sz) → rows.flatten.length = rows.length * sz
  | [], _ => by simp
  | r :: rs, h => by
    rw [List.flatten_cons, List.length_append, h r (by simp), flatten_len rs (fun r hr => h r (by simp [hr])), List.length_cons, Nat.succ_mul, Nat.add_comm]

theorem flatten_drop_get {sz : Nat} (rows : List (List D)) (hs : ∀ r ∈ rows, r.length = sz) (l : Nat) (hl : l ≤ rows.length) (j : Nat) (d : D) (h : (rows.drop l).flatten[j]? = some d) :
    rows.flatten[l * sz + j]? = some d := by
  have e : rows.flatten = (rows.take l).flatten ++ (rows.drop l).flatten := by rw [← List.flatten_append, List.take_append_drop]
  have hlen : (rows.take l).flatten.length = l * sz := by
    rw [flatten_len (sz := sz) _ (fun r hr => hs r (List.mem_of_mem_take hr)), List.length_take, Nat.min_eq_left hl]
  rw [e, List.getElem?_append_right (by omega), hlen, Nat.add_sub_cancel_left]
  exact h

/-- A slice of plain data, cut. -/
theorem DV_sub {c : Cx} {τ : Ty} {xs : List τ.den} {v : Value} (h : c.DV (.lst τ.sz (xs.map τ.enc)) v) (l r : Nat) (hlr : l ≤ r) (hr : r ≤ xs.length) :
    ∃ A cap, v = .slice A xs.length cap ∧ xs.length ≤ cap ∧ c.DV (.lst τ.sz (((xs.take r).drop l).map τ.enc)) (.slice (if cap = l then A else A.map (·.add (l * τ.sz))) (r - l) (cap - l)) := by
  generalize hd : D.lst τ.sz (xs.map τ.enc) = d at h
  cases h with
  | nil sz A k hA =>
    injection hd with h1 h2
    have : xs = [] := by simpa using h2
    subst this
    simp only [List.length_nil, Nat.le_zero_eq] at hr
    subst hr
    obtain rfl : l = 0 := by omega
    exact ⟨A, k, rfl, by simp, by simpa using (show c.DV _ _ from DV.nil _ _ _ (fun h0 => by
      by_cases hk : k = 0
      · omega
      · rw [if_neg hk] at h0
        cases A with
        | none => exact absurd (hA rfl) hk
        | some a => simp at h0))⟩
  | lst sz rows b off k u hc hsz hcell hdv hb =>
    injection hd with h1 h2
    subst h1 h2
    have hn : xs.length ≤ k := by simpa using hc
    refine ⟨some ⟨b, off, none⟩, k, by simp, hn, ?_⟩
    by_cases hlr' : l = r
    · subst hlr'
      have : (xs.take l).drop l = [] := by simp
      rw [this, Nat.sub_self]
      exact DV.nil _ _ _ (fun h0 => by split at h0 <;> cases h0)
    · have hk : ¬ k = l := by omega
      rw [if_neg hk]
      have hlen : (((xs.take r).drop l).map τ.enc).length = r - l := by simp [Nat.min_eq_left hr]
      have hget : ∀ j d, (((xs.take r).drop l).map τ.enc).flatten[j]? = some d → (xs.map τ.enc).flatten[l * τ.sz + j]? = some d := by
        intro j d hj
        rw [List.map_drop, List.map_take] at hj
        refine flatten_take_get _ r _ _ ?_
        exact flatten_drop_get (sz := τ.sz) _ (fun r hr => hsz r (List.mem_of_mem_take hr)) l (by simp; omega) j d hj
      have key := DV.lst (w := c.w) (ok := c.okb) τ.sz (((xs.take r).drop l).map τ.enc) b (off + l * τ.sz) (k - l) (fun j => u (l * τ.sz + j))
        (by rw [hlen]; omega) (fun r' hr' => hsz r' (by
          obtain ⟨x, hx, rfl⟩ := List.mem_map.1 hr'
          exact List.mem_map_of_mem (List.mem_of_mem_take (List.mem_of_mem_drop hx))))
        (fun j d hj => by
          have := hcell _ d (hget j d hj)
          rw [Nat.add_assoc]
          exact this)
        (fun j d hj => hdv _ d (hget j d hj)) hb
      rw [hlen] at key
      have ha : Option.map (fun x : Addr => x.add (l * τ.sz)) (some ⟨b, off, none⟩) = some ⟨b, off + l * τ.sz, none⟩ := by simp [add_none]
      rw [ha]
      exact key
  | _ => cases hd

theorem sliceMv_ok {nid : Nat} {t : TypeId} {x : Operand} {lo hi : Option Operand} {X : AV} (ho : o.op = .slice t x lo hi none)
    (h : (sliceMv V nid t X (lo.map (valOf σ)) (hi.map (valOf σ))).val σ = some (v, ws)) (hr : R w0 ok nt ds σ a w mu) (hx : Mill.V (cx w σ.ob mu ok) X (a.eval x)) :
    Does V.P w0 ok o a w σ.ob mu v ws := by
  obtain ⟨rfl, k0, n, hhi, h⟩ : lo = none ∧ ∃ k n, hi.map (valOf σ) = some (.int k n) ∧ (sliceTo V nid t X n).val σ = some (v, ws) := by
    unfold sliceMv at h
    split at h
    · rename_i k n h1 h2
      exact ⟨by cases lo <;> simp_all, _, _, h2, h⟩
    · simp [Rd.val] at h
  have hbn : ∀ d : Int, bnd d (hi.map (valOf σ)) = n := fun d => by rw [hhi]; rfl
  cases X with
  | emp =>
    simp only [sliceTo] at h
    split at h
    case h_2 => simp [Rd.val] at h
    rename_i e he
    split at h
    case h_2 => simp [Rd.val] at h
    rename_i n hs
    obtain ⟨_, i, hi', _⟩ := info_size hs
    obtain ⟨h0, h⟩ := val_ask h
    have h0 := of_decide_eq_true h0
    have h3 := val_ret h
    injection h3 with h3 h4
    subst h3 h4
    simp only [Mill.V] at hx
    have hu := elemOf_ok he
    have hb := run_bounds (P := V.P) hr none hi true 0 0 (Nat.le_refl _) (by simp [bnd]) (by simp only [Option.map_none]; show bnd 0 none ≤ _; rw [hbn, h0]; exact Int.le_refl _) (by rw [hbn, h0]; exact Int.le_refl _)
    rw [hbn, h0] at hb
    refine .mk (u := .slice none 0 0) (w' := w) ?_ (Post.pure hr.mem rfl)
    have hsl : (Instr.slice t (.slice none 0 0) ((none : Option Operand).map a.eval) (hi.map a.eval) none).run V.P w = .ok (.slice none 0 0) w := by
      simp [Instr.slice, run_underlying hu, sizeOf, typeInfo, hi'] at hb ⊢
      simp [hb, bnd]
    simp only [execOp, ho, Sem.run_bind, hx, Option.map_none, Instr.sliceAt, run_underlying hu, Result.andThen_ok] at hsl ⊢
    simp only [hsl, Result.andThen_ok]
    rfl
  | own id =>
    simp only [sliceTo, Rd.val] at h
    change (match σ.get (.m id) with | .row _ τ xs => _ | _ => _ : Rd (AV × Wr)).val σ = some (v, ws) at h
    cases hob : σ.get (.m id) with
    | row e τ xs =>
      rw [hob] at h
      obtain ⟨hs, h⟩ := val_bif h
      obtain ⟨hid, h⟩ := val_rd_undef h
      obtain ⟨h1, h⟩ := val_ask h
      obtain ⟨h2, h⟩ := val_ask h
      have h1 := of_decide_eq_true h1
      have h2 := of_decide_eq_true h2
      have h3 := val_ret h
      injection h3 with h3 h4
      subst h3 h4
      obtain ⟨e', i, hu, hi', hsz⟩ := sliceSz_ok hs
      have hrow : look σ.ob id = .row e τ xs := hob
      obtain ⟨k, rfl⟩ : ∃ k : Nat, n = k := ⟨n.toNat, by omega⟩
      have hk := hbn (xs.length : Int)
      have hkl : k ≤ xs.length := by omega
      rw [Int.toNat_natCast]
      have hrun : ∀ {A : Option Addr} {cap : Nat}, xs.length ≤ cap → a.eval x = .slice A xs.length cap → (execOp a.eval o).run V.P w = .ok (.value (.slice (if cap = 0 then A else A.map (·.add 0)) k cap)) w := by
        intro A cap hcap hxe
        have hb := run_bounds (P := V.P) hr none hi true xs.length cap hcap (by simp [bnd]) (by rw [hk]; simpa [bnd] using h1) (by rw [hk]; exact h2)
        rw [hk] at hb
        simp only [Option.map_none, bnd, Int.toNat_zero, Int.toNat_natCast] at hb
        have hsl : (Instr.slice t (.slice A xs.length cap) none (hi.map a.eval) none).run V.P w = .ok (.slice (if cap = 0 then A else A.map (·.add 0)) k cap) w := by
          simp [Instr.slice, run_underlying hu, hb, sizeOf, typeInfo, hi']
        simp only [execOp, ho, Sem.run_bind, hxe, Option.map_none, Instr.sliceAt, run_underlying hu, hsl, Result.andThen_ok]
        rfl
      have hxo : OwnV (cx w σ.ob mu ok) id (a.eval x) := hx
      have hlenk : (xs.take k).length = k := by rw [List.length_take]; omega
      have hpass : ∀ (o : AV), ∃ mu', mu' nid = mu id ∧ Mono (cx w σ.ob mu ok) (cx w ((nid, o) :: appOb [(id, .dead)] σ.ob) mu' ok) ∧
          (ObjOK (cx w ((nid, o) :: appOb [(id, .dead)] σ.ob) mu' ok) nid → Mem w0 (cx w ((nid, o) :: appOb [(id, .dead)] σ.ob) mu' ok)) := by
        intro o
        have := hr.mem.pass (w' := w) (o := o) (blk := mu id) hid (by rw [hrow]; simp) (Turned.refl _ _) (fun b hb => ⟨.inl hb, hr.mem.lt hb⟩)
        exact ⟨_, upd_eq _ _ _, this.1, this.2⟩
      obtain ⟨mu', hm1, hm2, hm3⟩ := hpass (.row e τ (xs.take k))
      have hl : (cx w ((nid, .row e τ (xs.take k)) :: appOb [(id, .dead)] σ.ob) mu' ok).ob nid = .row e τ (xs.take k) := look_eq _ _ _
      have ho' := hr.mem.obj id
      unfold OwnV at hxo
      unfold ObjOK at ho'
      rw [show (cx w σ.ob mu ok).ob id = .row e τ xs from hrow] at hxo ho'
      rcases hxo with ⟨hmu, rfl, B, hxe⟩ | ⟨b0, cap0, cur0, hmu, hr0, hl0, hxe⟩
      · have hk0 : k = 0 := by simpa using hkl
        subst hk0
        have := hrun (A := B) (cap := 0) (by simp) hxe
        rw [if_pos rfl] at this
        refine .mk this ⟨mu', hm3 ?_, hm2, ?_⟩
        · unfold ObjOK
          rw [hl]
          exact .inl ⟨hm1.trans hmu, rfl⟩
        · show OwnV (cx w ((nid, .row e τ _) :: appOb [(id, .dead)] σ.ob) mu' ok) nid _
          unfold OwnV
          rw [hl]
          exact .inl ⟨hm1.trans hmu, rfl, B, rfl⟩
      · rcases ho' with ⟨hn, _⟩ | ⟨b', cap', cur', hmu', hr', hl', hcm', hd'⟩
        · rw [hmu] at hn; cases hn
        rw [hmu] at hmu'; obtain rfl := Option.some.inj hmu'
        have e1 := hr0.1.symm.trans hr'.1
        simp only [Option.some.injEq, Obj.cells.injEq, and_true] at e1
        subst e1
        have hcap : cap0 = cap' := Nat.eq_of_mul_eq_mul_right τ.sz_pos (hr0.2.symm.trans hr'.2)
        subst hcap
        have := hrun (A := some ⟨b0, 0, none⟩) (cap := cap0) hl0 hxe
        have haddr : (if cap0 = 0 then (some ⟨b0, 0, none⟩ : Option Addr) else Option.map (fun x : Addr => x.add 0) (some ⟨b0, 0, none⟩)) = some ⟨b0, 0, none⟩ := by
          split
          · rfl
          · simp [add_none]
        rw [haddr] at this
        refine .mk this ⟨mu', hm3 ?_, hm2, ?_⟩
        · unfold ObjOK
          rw [hl]
          refine .inr ⟨b0, cap0, cur0, hm1.trans hmu, hr0, by rw [hlenk]; omega, hcm', ?_⟩
          rw [hlenk]
          have hsplit : (xs.map τ.enc).flatten = ((xs.take k).map τ.enc).flatten ++ ((xs.drop k).map τ.enc).flatten := by
            rw [← List.flatten_append, ← List.map_append, List.take_append_drop]
          rw [hsplit] at hd'
          obtain ⟨us, ws', hus, hd1, hd2⟩ := Cx.DVs.split hd'
          have hlu : us.length = k * τ.sz := by
            have := hd1.length
            rw [flatten_length, hlenk] at this
            exact this.symm
          have htk : cur0.toList.take (k * τ.sz) = us := by
            have : (cur0.toList.take (xs.length * τ.sz)).take (k * τ.sz) = us := by rw [hus, ← hlu, List.take_left']; rfl
            rw [List.take_take] at this
            rw [← this]
            congr 1
            have := Nat.mul_le_mul_right τ.sz hkl
            omega
          rw [htk]
          exact Cx.DVs.imp hm2.dv hd1
        · show OwnV (cx w ((nid, .row e τ _) :: appOb [(id, .dead)] σ.ob) mu' ok) nid _
          unfold OwnV
          rw [hl]
          exact .inr ⟨b0, cap0, cur0, hm1.trans hmu, hr0, by rw [hlenk]; omega, by rw [hlenk]⟩
    | _ => rw [hob] at h; simp [Rd.val] at h
  | _ => simp [sliceTo, Rd.val] at h

theorem does_slice {t : TypeId} {x : Operand} {lo hi : Option Operand} (ho : o.op = .slice t x lo hi none) (h : (evVal V fid o).val σ = some (v, ws)) (hr : R w0 ok nt ds σ a w mu) :
    Does V.P w0 ok o a w σ.ob mu v ws := by
  simp only [evVal, ho] at h
  have h := val_opd (val_opdo (val_opdo h))
  have hx := V_operand hr x
  generalize e1 : valOf σ x = X at h hx
  cases hmv : V.mv fid with
  | true => rw [hmv] at h; exact sliceMv_ok ho h hr hx
  | false =>
  rw [hmv] at h
  simp only [cond_false] at h
  have rest : ∀ {X : AV}, Mill.V (cx w σ.ob mu ok) X (a.eval x) → (dataCell X fun v ws => match v with
    | .lst τ xs => bif sliceSz V t τ.sz then
        .ask (decide (0 ≤ bnd 0 (lo.map (valOf σ)))) (.ask (decide (bnd 0 (lo.map (valOf σ)) ≤ bnd xs.length (hi.map (valOf σ)))) (.ask (decide (bnd xs.length (hi.map (valOf σ)) ≤ (xs.length : Int)))
          (.ret (.lst τ ((xs.take (bnd xs.length (hi.map (valOf σ))).toNat).drop (bnd 0 (lo.map (valOf σ))).toNat), ws)) .fail) .fail) .fail
      else .fail
    | _ => .fail : Rd (AV × Wr)).val σ = some (v, ws) → Does V.P w0 ok o a w σ.ob mu v ws := by
    intro X hx h
    obtain ⟨y, ws1, h, hfz, hone, hto⟩ := dataCell_ok h
    cases y with
    | lst τ xs =>
      simp only at h
      obtain ⟨hs, h⟩ := val_bif h
      obtain ⟨h0, h⟩ := val_ask h
      obtain ⟨h1, h⟩ := val_ask h
      obtain ⟨h2, h⟩ := val_ask h
      have h0 := of_decide_eq_true h0
      have h1 := of_decide_eq_true h1
      have h2 := of_decide_eq_true h2
      have h3 := val_ret h
      injection h3 with h3 h4
      subst h3 h4
      obtain ⟨mu1, hm1, hmono1, hws, hothers⟩ := freezeAll hfz hr.mem
      have hv : (cx w (appOb ws1 σ.ob) mu1 ok).DV _ _ := hto _ _ _ rfl hmono1 hws hx
      obtain ⟨A, cap, hxe, hcap, hsub⟩ := DV_sub hv (bnd 0 (lo.map (valOf σ))).toNat (bnd xs.length (hi.map (valOf σ))).toNat (by omega) (by omega)
      obtain ⟨e, i, hu, hi', hsz⟩ := sliceSz_ok hs
      have hb := run_bounds (P := V.P) hr lo hi true xs.length cap hcap h0 h1 h2
      refine .mk (w' := w) ?_ ⟨mu1, hm1, hmono1, hsub⟩
      have hsl : (Instr.slice t (.slice A xs.length cap) (lo.map a.eval) (hi.map a.eval) none).run V.P w = .ok (.slice (if cap = (bnd 0 (lo.map (valOf σ))).toNat then A else A.map (·.add ((bnd 0 (lo.map (valOf σ))).toNat * τ.sz))) ((bnd xs.length (hi.map (valOf σ))).toNat - (bnd 0 (lo.map (valOf σ))).toNat) (cap - (bnd 0 (lo.map (valOf σ))).toNat)) w := by
        simp [Instr.slice, run_underlying hu, hb, sizeOf, typeInfo, hi', hsz]
      simp only [execOp, ho, Sem.run_bind, hxe, Option.map_none, Instr.sliceAt, run_underlying hu, hsl, Result.andThen_ok]
      rfl
    | _ => simp [Rd.val] at h
  cases X with
  | str s =>
    simp only [sliceA] at h
    split at h
    case h_2 => simp [Rd.val] at h
    rename_i hu
    obtain ⟨h0, h⟩ := val_ask h
    obtain ⟨h1, h⟩ := val_ask h
    obtain ⟨h2, h⟩ := val_ask h
    have h0 := of_decide_eq_true h0
    have h1 := of_decide_eq_true h1
    have h2 := of_decide_eq_true h2
    have h3 := val_ret h
    injection h3 with h3 h4
    subst h3 h4
    simp only [Mill.V] at hx
    have hb := run_bounds (P := V.P) hr lo hi false s.size s.size (Nat.le_refl _) h0 h1 h2
    refine .mk (u := .string (s.extract (bnd 0 (lo.map (valOf σ))).toNat (bnd s.size (hi.map (valOf σ))).toNat)) (w' := w) ?_ (Post.pure hr.mem (V_str _ _))
    simp only [execOp, ho, Sem.run_bind, hx, Instr.sliceAt, Instr.slice, run_underlying hu, Result.andThen_ok, Option.map_none]
    simp [hb]
  | _ => exact rest hx h

end
end Go.Proofs.Mill

/- One operation of a region, whichever it is. -/
namespace Go.Proofs.Mill
variable {ds : List Deferred}
open Go.RowKit

theorem Does.wp {P : Program} {w0 w : World} {ok : Nat → Prop} {o : Oper} {a : Act} {ob : List (Nat × AV)} {mu : Nat → Option Nat} {v : AV} {ws : Wr}
    {next : Act → World → Prop} {Q : Exit → Act → World → Prop} (h : Does P w0 ok o a w ob mu v ws) (hn : ∀ u w', Post w0 ok w ob mu v ws u w' → next (a.put o.dst u) w') : o.wp P a w next Q := by
  obtain ⟨u, w', h, hp⟩ := h
  unfold Oper.wp
  rcases h with h | ⟨h, rfl⟩
  · rw [h]; exact hn u w' hp
  · rw [h]; exact hn undef w' hp

/-- What functions do that turn the caller's store. -/
def XOK (P : Program) (X : FuncId → Option XSpec) : Prop := ∀ f s, X f = some s → Enter P f ∧ ∀ fid args ob y post, s.pre fid args ob = some (some y, post) →
  ∀ (w0 : World) (ok : Nat → Prop) (w : World) (mu : Nat → Option Nat) (vals : Array Value), Mem w0 (cx w ob mu ok) → VL (cx w ob mu ok) args vals.toList →
    Calls P f vals w fun e w' => ∃ u mu', e = .returned u ∧ Mem w0 (cx w' (post y).2 mu' ok) ∧ Mono (cx w ob mu ok) (cx w' (post y).2 mu' ok) ∧ V (cx w' (post y).2 mu' ok) (post y).1 u

/-- The functions that are known do what is said of them. -/
def GoodEnv (V : Env) : Prop := (∀ f s, V.G f = some s → SpecOK V.P f s ∧ Enter V.P f) ∧ V.P.follows .mixedOrders = true ∧ (∀ f, V.ent f = true → Enter V.P f) ∧ PureOK V.P V.pure ∧ XOK V.P V.X

theorem evVal_wp {V : Env} {w0 w : World} {ok : Nat → Prop} {nt fid : Nat} {σ : St} {a : Act} {mu : Nat → Option Nat} {o : Oper} {v : AV} {ws : Wr}
    {next : Act → World → Prop} {Q : Exit → Act → World → Prop} (hG : GoodEnv V)
    (h : (evVal V fid o).val σ = some (v, ws)) (hr : R w0 ok nt ds σ a w mu)
    (hn : ∀ u w', Post w0 ok w σ.ob mu v ws u w' → next (a.put o.dst u) w') : o.wp V.P a w next Q := by
  cases ho : o.op with
  | move x => exact (does_move (.inl ho) h hr).wp hn
  | assign x => exact (does_move (.inr ho) h hr).wp hn
  | pick c x y => exact (does_pick ho h hr).wp hn
  | alloc e => exact (does_alloc ho h hr).wp hn
  | box e x => exact (does_box ho h hr).wp hn
  | build t ps => exact (does_build ho h hr).wp hn
  | buildSlice t n ps => exact (does_buildSlice ho h hr).wp hn
  | load t x => exact (does_load ho h hr).wp hn
  | store t x y => exact (does_store ho h hr).wp hn
  | binOp op t x y s => exact (does_binOp ho h hr).wp hn
  | nilCheck x => exact (does_nilCheck ho h hr).wp hn
  | typeAssert x s t b => exact (does_typeAssert ho h hr).wp hn
  | unOp op t x => exact (does_unOp ho h hr).wp hn
  | convert s t x => exact (does_convert ho h hr).wp hn
  | fieldAddr s x f => exact (does_fieldAddr ho h hr).wp hn
  | field s x f => exact (does_field ho h hr).wp hn
  | indexAddr t x y => exact (does_indexAddr ho h hr).wp hn
  | index t x y => exact (does_index ho h hr).wp hn
  | slice t x lo hi mx =>
    cases mx with
    | none => exact (does_slice ho h hr).wp hn
    | some _ => simp [evVal, ho, Rd.val] at h
  | extract x i => exact (does_extract ho h hr).wp hn
  | makeFunc fn first caps => exact (does_makeFunc ho h hr).wp hn
  | makeInterface t x => exact (does_makeInterface ho h hr).wp hn
  | makeSlice t x y => exact (does_makeSlice ho h hr).wp hn
  | call c =>
    cases hb : c.callee with
    | value f => exact does_call hG.1 hG.2.2.2.1 ho hb h hr hn
    | invoke r m => simp [evVal, ho, hb, Rd.val] at h
    | builtin b =>
      cases b with
      | len => exact (does_len ho hb h hr).wp hn
      | max => exact (does_max ho hb h hr).wp hn
      | cap => exact (does_cap ho hb h hr).wp hn
      | min => exact (does_min ho hb h hr).wp hn
      | append => exact (does_append ho hb h hr).wp hn
      | _ => simp [evVal, ho, hb, Rd.val] at h
  | _ => simp [evVal, ho, Rd.val] at h

end Go.Proofs.Mill

/- A fence that lets all through, within a round or not. -/
namespace Go.Proofs.Mill
open Go.RowKit

/-- The fence that lets all through; in a round, or not. -/
abbrev wideR (ro : Option Nat) : Fence := { Fence.wide with round := ro }

theorem wideR_none : wideR none = Fence.wide := rfl
theorem wideR_in (l : Nat) : Fence.wide.inRound l = wideR (some l) := rfl

theorem rowsIn_wide {ro : Option Nat} {n : Nat} {P : Program} {row : String} {args : Array Value} {w : World} {R : Value → World → Prop} (h : Rows P row args w R) : RowsIn (wideR ro) n P row args w R := by
  intro c cs _
  obtain ⟨v, w', hr, hs⟩ := h c cs
  exact ⟨v, w', hr, stepsIn_wide.2 hs⟩

theorem callsIn_wideR {ro : Option Nat} {n : Nat} {P : Program} {f : FuncId} {args : Array Value} {w : World} {R : Ending → World → Prop} (h : Calls P f args w R) : CallsIn (wideR ro) n P f args w R :=
  (callsIn_wide (n := n)).2 h

theorem wpIn_of_wp {ro : Option Nat} {n : Nat} {P : Program} {o : Oper} {a : Act} {w : World} {K : Act → World → Prop} {Q : Exit → Act → World → Prop} (hd : ∀ c, o.op ≠ .defer c) (h : o.wp P a w K Q) :
    o.wpIn (wideR ro) n P a w K Q := by
  refine ⟨fun f _ => trivial, ?_⟩
  have e : Oper.semAt ro a.eval o = execOp a.eval o := by
    cases ro with
    | none => rfl
    | some l => exact Oper.semAt_some l _ _ hd
  show o.uponIn (wideR ro) n P a K Q ((Oper.semAt ro a.eval o).run P w)
  rw [e]
  unfold Oper.wp at h
  generalize (execOp a.eval o).run P w = r at h ⊢
  cases r with
  | ok nx w' =>
    cases nx with
    | value v => exact h
    | skip => exact h
    | defer d => exact h
    | enter f args => exact ⟨fun hd => (by cases hd), callsIn_wideR h⟩
    | row row args => exact ⟨fun hd => (by cases hd), rowsIn_wide h⟩
    | _ => exact h.elim
  | halt hl w' =>
    cases hl with
    | panic v => exact h
    | _ => exact h.elim

/-- What the evaluator takes is no deferred call. -/
theorem evVal_nodefer {V : Env} {fid : Nat} {o : Oper} {σ : St} {p : AV × Wr} (h : (evVal V fid o).val σ = some p) : ∀ c, o.op ≠ .defer c := by
  intro c e
  unfold evVal at h
  rw [e] at h
  simp [Rd.val] at h

end Go.Proofs.Mill

/- A region's operations, one after the other. -/
namespace Go.Proofs.Mill
variable {ds : List Deferred}
open Go.RowKit

/-- Two states that answer alike. -/
def St.like (σ τ : St) : Prop := ∀ l, σ.get l = τ.get l

theorem St.like.refl (σ : St) : σ.like σ := fun _ => rfl
theorem St.like.symm {σ τ : St} (h : σ.like τ) : τ.like σ := fun l => (h l).symm
theorem St.like.trans {σ τ υ : St} (h : σ.like τ) (k : τ.like υ) : σ.like υ := fun l => (h l).trans (k l)
theorem St.like.tm {σ τ : St} (h : σ.like τ) (t : Nat) : look σ.tm t = look τ.tm t := h (.t t)
theorem St.like.ob {σ τ : St} (h : σ.like τ) : look σ.ob = look τ.ob := funext fun n => h (.m n)

section
variable {V : Env} {w0 w w' : World} {ok : Nat → Prop} {nt fid : Nat} {σ τ : St} {a : Act} {mu mu' : Nat → Option Nat} {o : Oper} {v : AV} {ws : Wr} {u : Value}

theorem R.like (hr : R w0 ok nt ds σ a w mu) (h : σ.like τ) : R w0 ok nt ds τ a w mu := by
  obtain ⟨h1, h2, h3, h4, h5, h6⟩ := hr
  have e := h.ob
  refine ⟨by rw [← e]; exact h1, fun t ht => ?_, fun t ht => ?_, h4, h5, by rw [← e]; exact h6⟩
  · rw [← e, ← h.tm t]; exact h2 t ht
  · rw [← h.tm t]; exact h3 t ht

theorem dstOk_lt {d : Nat} (h : dstOk nt (some d) = true) : d < nt := by simpa [dstOk] using h

/-- The world and the store go on. -/
theorem R.go {ob' : List (Nat × AV)} (hr : R w0 ok nt ds σ a w mu) (hm : Mem w0 (cx w' ob' mu' ok)) (hmono : Mono (cx w σ.ob mu ok) (cx w' ob' mu' ok)) : R w0 ok nt ds ⟨σ.tm, ob'⟩ a w' mu' :=
  ⟨hm, fun t ht => hmono.v _ _ (hr.tm t ht), hr.far, hr.size, hr.defers, hmono.marks hr.marks⟩

theorem R.set {dst : Option Nat} (hr : R w0 ok nt ds σ a w mu) (hd : dstOk nt dst = true) (hv : Mill.V (cx w σ.ob mu ok) v u) : R w0 ok nt ds (σ.put dst v []) (a.put dst u) w mu := by
  cases dst with
  | none => exact hr
  | some d =>
    have hd := dstOk_lt hd
    refine ⟨hr.mem, fun t ht => ?_, fun t ht => ?_, ?_, hr.defers, hr.marks⟩
    · show Mill.V (cx w σ.ob mu ok) (look ((d, v) :: σ.tm) t) ((a.tmps.setIfInBounds d u).getD t undef)
      by_cases e : d = t
      · subst e
        rw [look_eq]
        have : (a.tmps.setIfInBounds d u).getD d undef = u := by
          have hs : d < a.tmps.size := by rw [hr.size]; exact hd
          simp [Array.getD, hs]
        rw [this]; exact hv
      · rw [look_ne _ _ e]
        have : (a.tmps.setIfInBounds d u).getD t undef = a.tmps.getD t undef := by
          simp [Array.getD_eq_getD_getElem?, Array.getElem?_setIfInBounds_ne e]
        rw [this]; exact hr.tm t ht
    · show look ((d, v) :: σ.tm) t = .undef
      rw [look_ne _ _ (by omega)]; exact hr.far t ht
    · show (a.tmps.setIfInBounds d u).size = nt
      simp [hr.size]

theorem put_eq (σ : St) (dst : Option Nat) (v : AV) (ws : Wr) : σ.put dst v ws = St.put ⟨σ.tm, appOb ws σ.ob⟩ dst v [] := by cases dst <;> rfl

theorem R.put {dst : Option Nat} (hr : R w0 ok nt ds σ a w mu) (hd : dstOk nt dst = true) (hp : Post w0 ok w σ.ob mu v ws u w') : ∃ mu', R w0 ok nt ds (σ.put dst v ws) (a.put dst u) w' mu' := by
  obtain ⟨mu', hm, hmono, hv⟩ := hp
  rw [put_eq]
  exact ⟨mu', (hr.go hm hmono).set hd hv⟩

/-- An operation and its guard, read alike. -/
def opRd (V : Env) (fid : Nat) (ops : Array Oper) (o : Oper) : Rd (AV × Wr) :=
  match o.guard with
  | none => evVal V fid o
  | some (j, want) => match (ops[j]?).bind (·.dst) with
    | some d => .rd (.t d) fun
      | .bool b => bif b == want then evVal V fid o else .ret (.tup [], [])
      | .tup [] => .ret (.tup [], [])
      | _ => .fail
    | none => .fail

/-- What the model does of an operation, its guard and all. -/
def wpOne (ro : Option Nat) (P : Program) (ops : Array Oper) (o : Oper) (Q : Exit → Act → World → Prop) (K : Act → World → Prop) (a : Act) (w : World) : Prop :=
  if Region.wanted o (yielded ops a.tmps) then o.wpIn (wideR ro) 0 P a w K Q else (∀ f, o.about P w a.eval = some f → (wideR ro).fn f) ∧ K (a.put o.dst undef) w

theorem wpOne_skip {ro : Option Nat} {P : Program} {ops : Array Oper} {Q : Exit → Act → World → Prop} {K : Act → World → Prop} (h : ¬ Region.wanted o (yielded ops a.tmps) = true) (hk : K (a.put o.dst undef) w) : wpOne ro P ops o Q K a w := by
  unfold wpOne
  rw [if_neg h]
  exact ⟨fun _ _ => trivial, hk⟩
theorem wpOne_do {ro : Option Nat} {P : Program} {ops : Array Oper} {Q : Exit → Act → World → Prop} {K : Act → World → Prop} (h : Region.wanted o (yielded ops a.tmps) = true) (hk : o.wpIn (wideR ro) 0 P a w K Q) : wpOne ro P ops o Q K a w := by
  unfold wpOne
  rw [if_pos h]
  exact hk

theorem wpList_cons {ro : Option Nat} {P : Program} {ops : Array Oper} {Q : Exit → Act → World → Prop} {rest : List Oper} : wpListIn (wideR ro) 0 P ops Q (o :: rest) a w = wpOne ro P ops o Q (wpListIn (wideR ro) 0 P ops Q rest) a w := rfl

theorem tmp_bool {d : Nat} {b : Bool} (hr : R w0 ok nt ds σ a w mu) (h : look σ.tm d = .bool b) : d < nt ∧ a.tmps[d]? = some (.bool b) := by
  have hd : d < nt := by
    apply Classical.byContradiction
    intro hn
    rw [hr.far d (Nat.le_of_not_lt hn)] at h
    cases h
  have := hr.tm d hd
  rw [h] at this
  have hs : d < a.tmps.size := by rw [hr.size]; exact hd
  refine ⟨hd, ?_⟩
  have e : a.tmps.getD d undef = .bool b := this
  simpa [Array.getD, hs] using e

theorem yielded_of {ops : Array Oper} {j d : Nat} {b : Bool} (hr : R w0 ok nt ds σ a w mu) (hj : (ops[j]?).bind (·.dst) = some d) (h : look σ.tm d = .bool b) : yielded ops a.tmps j = some b := by
  unfold yielded
  rw [hj]
  show (match a.tmps[d]? with | some (.bool b) => some b | _ => none) = some b
  rw [(tmp_bool hr h).2]

theorem V_skip {c : Cx} : Mill.V c (.tup []) undef := ⟨#[], rfl, trivial⟩

theorem yielded_skip {ops : Array Oper} {j d : Nat} (hr : R w0 ok nt ds σ a w mu) (hj : (ops[j]?).bind (·.dst) = some d) (h : look σ.tm d = .tup []) : yielded ops a.tmps j = none := by
  have hd : d < nt := by
    apply Classical.byContradiction
    intro hn
    rw [hr.far d (Nat.le_of_not_lt hn)] at h
    cases h
  have := hr.tm d hd
  rw [h] at this
  obtain ⟨vs, e, hv⟩ := this
  have hs : d < a.tmps.size := by rw [hr.size]; exact hd
  have e2 : a.tmps[d]? = some (.tuple vs) := by simpa [Array.getD, hs] using e
  unfold yielded
  rw [hj]
  show (match a.tmps[d]? with | some (.bool b) => some b | _ => none) = none
  rw [e2]

end
end Go.Proofs.Mill

/- A region's operations, one after the other; calls that are walked into. -/
namespace Go.Proofs.Mill
variable {ds : List Deferred}
open Go.RowKit

/-- A state that is known, and what else is. -/
def Holds (J : Cx → Prop) (w0 : World) (ok : Nat → Prop) (nt : Nat) (ds : List Deferred) (σ : St) (a : Act) (w : World) : Prop :=
  ∃ mu, R w0 ok nt ds σ a w mu ∧ J (cx w σ.ob mu ok)

def T : Cx → Prop := fun _ => True

def Stays (J : Cx → Prop) : Prop := ∀ c c', J c → Mono c c' → J c'

/-- Calls that are walked into are done as they are said to be. -/
def InlOK {ρ : Type} (V : Env) (inl : Inl ρ) : Prop :=
  ∀ (f : FuncId) (fid : Nat) (args : List AV) (ob : List (Nat × AV)) (k : AV → List (Nat × AV) → Option ρ) (r : ρ), inl f fid args ob k = some r →
    Enter V.P f ∧ ∀ (w0 : World) (ok : Nat → Prop) (w : World) (mu : Nat → Option Nat) (vals : Array Value), Mem w0 (cx w ob mu ok) → VL (cx w ob mu ok) args vals.toList →
      Calls V.P f vals w fun e w' => ∃ v u ob' mu', e = .returned u ∧ Mem w0 (cx w' ob' mu' ok) ∧ Mono (cx w ob mu ok) (cx w' ob' mu' ok) ∧ Mill.V (cx w' ob' mu' ok) v u ∧ k v ob' = some r

section
variable {V : Env} {J : Cx → Prop} {w0 w : World} {ok : Nat → Prop} {nt fid : Nat} {σ τ : St} {a : Act} {o : Oper} {v : AV} {ws : Wr} {ro : Option Nat}

theorem Holds.like (h : Holds J w0 ok nt ds σ a w) (e : σ.like τ) : Holds J w0 ok nt ds τ a w := by
  obtain ⟨mu, hr, hj⟩ := h
  have e2 := e.ob
  refine ⟨mu, hr.like e, ?_⟩
  show J ⟨w, look τ.ob, mu, ok⟩
  rw [← e2]
  exact hj

theorem put_ob (σ : St) (dst : Option Nat) (v : AV) (ws : Wr) : (σ.put dst v ws).ob = appOb ws σ.ob := by cases dst <;> rfl

theorem Holds.put {w' : World} {mu : Nat → Option Nat} {u : Value} (hJ : Stays J) (hr : R w0 ok nt ds σ a w mu) (hj : J (cx w σ.ob mu ok)) (hd : dstOk nt o.dst = true)
    (hp : Post w0 ok w σ.ob mu v ws u w') : Holds J w0 ok nt ds (σ.put o.dst v ws) (a.put o.dst u) w' := by
  obtain ⟨mu', hm, hmono, hv⟩ := hp
  refine ⟨mu', ?_, ?_⟩
  · rw [put_eq]; exact (hr.go hm hmono).set hd hv
  · rw [put_ob]; exact hJ _ _ hj hmono

theorem Holds.skip (h : Holds J w0 ok nt ds σ a w) (hd : dstOk nt o.dst = true) : Holds J w0 ok nt ds (σ.put o.dst (.tup []) []) (a.put o.dst undef) w := by
  obtain ⟨mu, hr, hj⟩ := h
  refine ⟨mu, hr.set hd V_skip, ?_⟩
  rw [put_ob]; exact hj

theorem evVal_holds {K : Act → World → Prop} {Q : Exit → Act → World → Prop} (hG : GoodEnv V) (hJ : Stays J) (hh : Holds J w0 ok nt ds σ a w) (hd : dstOk nt o.dst = true)
    (h : (evVal V fid o).val σ = some (v, ws)) (hn : ∀ a' w', Holds J w0 ok nt ds (σ.put o.dst v ws) a' w' → K a' w') : o.wpIn (wideR ro) 0 V.P a w K Q := by
  obtain ⟨mu, hr, hj⟩ := hh
  refine wpIn_of_wp (evVal_nodefer h) ?_
  exact evVal_wp hG h hr fun u w' hp => hn _ _ (Holds.put hJ hr hj hd hp)

theorem inlined_ok {f : FuncId} {args : List AV} (h : inlined V σ o = some (f, args)) :
    ∃ c x, o.op = .call c ∧ c.callee = .value x ∧ ((∃ caps, valOf σ x = .fn f caps ∧ args = c.args.toList.map (valOf σ) ++ caps) ∨ ∃ fs, valOf σ x = .bfn f fs ∧ args = fs ++ c.args.toList.map (valOf σ)) := by
  unfold inlined at h
  split at h
  · rename_i c hc
    split at h
    · rename_i x hx
      split at h
      · rename_i g caps hg
        split at h
        · cases h
        · injection h with h
          injection h with h1 h2
          subst h1
          exact ⟨c, x, hc, hx, .inl ⟨_, hg, h2.symm⟩⟩
      · rename_i g first hg
        injection h with h
        injection h with h1 h2
        subst h1
        exact ⟨c, x, hc, hx, .inr ⟨_, hg, h2.symm⟩⟩
      · cases h
    · cases h
  · cases h

theorem actK_ok {ρ : Type} {inl : Inl ρ} {k : St → Option ρ} {r : ρ} {K : Act → World → Prop} {Q : Exit → Act → World → Prop} (hG : GoodEnv V) (hI : InlOK V inl) (hJ : Stays J)
    (hh : Holds J w0 ok nt ds σ a w) (h : actK V inl fid nt o σ k = some r) (hn : ∀ σ' a' w', Holds J w0 ok nt ds σ' a' w' → k σ' = some r → K a' w') : o.wpIn (wideR ro) 0 V.P a w K Q := by
  unfold actK at h
  cases hd : dstOk nt o.dst with
  | false => rw [hd] at h; cases h
  | true =>
    rw [hd] at h
    simp only [cond_true] at h
    split at h
    · rename_i f args hi
      obtain ⟨c, x, hc, hx, hcase⟩ := inlined_ok hi
      obtain ⟨hent, hcall⟩ := hI _ _ _ _ _ _ h
      obtain ⟨mu, hr, hj⟩ := hh
      have hf := V_operand hr x
      refine wpIn_of_wp (fun c' e => by rw [hc] at e; cases e) ?_
      unfold Oper.wp
      rcases hcase with ⟨caps, hv, rfl⟩ | ⟨fs, hv, rfl⟩
      · rw [hv] at hf
        obtain ⟨vs, hfe, hcv⟩ := hf
        rw [run_call (w := w) hc hx hfe hent, Oper.upon_enter]
        refine (hcall w0 ok w mu (c.args.map a.eval ++ vs) hr.mem (by rw [Array.toList_append]; exact (args_list hr).append hcv)).mono fun e w' he => ?_
        obtain ⟨v, u, ob', mu', rfl, hm, hmono, hv, hk⟩ := he
        refine hn _ _ _ ⟨mu', (hr.go hm hmono).set hd hv, ?_⟩ hk
        rw [put_ob]
        exact hJ _ _ hj hmono
      · rw [hv] at hf
        obtain ⟨vs, hfe, hcv⟩ := hf
        rw [run_callB (w := w) hc hx hfe hent, Oper.upon_enter]
        refine (hcall w0 ok w mu (vs ++ c.args.map a.eval) hr.mem (by rw [Array.toList_append]; exact hcv.append (args_list hr))).mono fun e w' he => ?_
        obtain ⟨v, u, ob', mu', rfl, hm, hmono, hv, hk⟩ := he
        refine hn _ _ _ ⟨mu', (hr.go hm hmono).set hd hv, ?_⟩ hk
        rw [put_ob]
        exact hJ _ _ hj hmono
    · obtain ⟨p, log, h1, h2⟩ := Rd.runK_val h
      exact evVal_holds hG hJ hh hd h1 fun a' w' hh' => hn _ _ _ hh' h2

theorem pin_like {d : Nat} {b : Bool} (h : look σ.tm d = .bool b) : σ.like ⟨(d, .bool b) :: σ.tm, σ.ob⟩ := by
  intro l
  cases l with
  | m n => rfl
  | t n =>
    show look σ.tm n = look ((d, .bool b) :: σ.tm) n
    by_cases e : d = n
    · subst e; rw [look_eq]; exact h
    · rw [look_ne _ _ e]

theorem opK_ok {ρ : Type} {inl : Inl ρ} {k : St → Option ρ} {r : ρ} {K : Act → World → Prop} {Q : Exit → Act → World → Prop} {ops : Array Oper} (hG : GoodEnv V) (hI : InlOK V inl) (hJ : Stays J)
    (hh : Holds J w0 ok nt ds σ a w) (h : opK V inl fid nt ops o σ k = some r) (hn : ∀ σ' a' w', Holds J w0 ok nt ds σ' a' w' → k σ' = some r → K a' w') : wpOne ro V.P ops o Q K a w := by
  unfold opK at h
  split at h
  · rename_i hg
    exact wpOne_do (by simp [Region.wanted, hg]) (actK_ok hG hI hJ hh h hn)
  · rename_i j want hg
    split at h
    · rename_i d hj
      split at h
      · rename_i b hb
        obtain ⟨mu, hr, hj'⟩ := hh
        have hy := yielded_of hr hj hb
        have hh' : Holds J w0 ok nt ds ⟨(d, .bool b) :: σ.tm, σ.ob⟩ a w := Holds.like ⟨mu, hr, hj'⟩ (pin_like hb)
        cases b <;> cases want <;> simp only [cond_true, cond_false] at h
        · exact wpOne_do (by simp [Region.wanted, hg, hy]) (actK_ok hG hI hJ hh' h hn)
        · refine wpOne_skip (by simp [Region.wanted, hg, hy]) ?_
          cases hd : dstOk nt o.dst with
          | false => rw [hd] at h; cases h
          | true => rw [hd] at h; exact hn _ _ _ (hh'.skip hd) h
        · refine wpOne_skip (by simp [Region.wanted, hg, hy]) ?_
          cases hd : dstOk nt o.dst with
          | false => rw [hd] at h; cases h
          | true => rw [hd] at h; exact hn _ _ _ (hh'.skip hd) h
        · exact wpOne_do (by simp [Region.wanted, hg, hy]) (actK_ok hG hI hJ hh' h hn)
      · rename_i hb
        obtain ⟨mu, hr, hj'⟩ := hh
        have hy := yielded_skip hr hj hb
        refine wpOne_skip (by simp [Region.wanted, hg, hy]) ?_
        cases hd : dstOk nt o.dst with
        | false => rw [hd] at h; cases h
        | true => rw [hd] at h; exact hn _ _ _ (Holds.skip ⟨mu, hr, hj'⟩ hd) h
      · cases h
    · cases h

theorem opsK_ok {ρ : Type} {inl : Inl ρ} {r : ρ} {Q : Exit → Act → World → Prop} {ops : Array Oper} (hG : GoodEnv V) (hI : InlOK V inl) (hJ : Stays J) :
    ∀ (l : List Oper) {σ : St} {a : Act} {w : World} {k : St → Option ρ}, Holds J w0 ok nt ds σ a w → opsK V inl fid nt ops l σ k = some r →
      (∀ σ' a' w', Holds J w0 ok nt ds σ' a' w' → k σ' = some r → Q .normal a' w') → wpListIn (wideR ro) 0 V.P ops Q l a w
  | [], _, _, _, _, hh, h, hn => hn _ _ _ hh h
  | o :: l, _, _, _, _, hh, h, hn => by
    rw [wpList_cons]
    exact opK_ok hG hI hJ hh h fun σ' a' w' hh' h' => opsK_ok hG hI hJ l hh' h' hn

end
end Go.Proofs.Mill
