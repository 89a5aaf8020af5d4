/- Slices that are made, whole. -/
import Derived.Test.YtcokmmhkajmkhaaMillMake
set_option linter.all false
namespace Go.Proofs.Mill
open Go.RowKit

theorem flatten_replicate {α : Type} (l : List α) (hl : 0 < l.length) : ∀ (n j : Nat), (List.replicate n l).flatten[j]? = if j < n * l.length then l[j % l.length]? else none
  | 0, j => by simp
  | n + 1, j => by
    rw [List.replicate_succ, List.flatten_cons, List.getElem?_append]
    split
    · rename_i h
      rw [if_pos (by rw [Nat.add_mul]; omega), Nat.mod_eq_of_lt h]
    · rename_i h
      rw [flatten_replicate l hl n (j - l.length)]
      have e : (j - l.length) % l.length = j % l.length := by
        conv => rhs; rw [show j = (j - l.length) + l.length by omega, Nat.add_mod_right]
      rw [e]
      by_cases h2 : j < (n + 1) * l.length
      · rw [if_pos h2, if_pos (by rw [Nat.add_mul] at h2; omega)]
      · rw [if_neg h2, if_neg (by rw [Nat.add_mul] at h2; omega)]

theorem made_toList (z : Array Value) (n : Nat) (hz : 0 < z.size) : ((Array.range (n * z.size)).map (z[· % z.size]!)).toList = (List.replicate n z.toList).flatten := by
  apply List.ext_getElem?
  intro j
  rw [flatten_replicate _ (by simpa using hz)]
  simp only [Array.toList_map, Array.toList_range, List.getElem?_map, List.getElem?_range, Array.length_toList]
  by_cases h : j < n * z.size
  · have hm := Nat.mod_lt j hz
    simp [h, hm]
  · simp [h]

theorem VL_replicate {c : Cx} {z : List AV} {zs : List Value} (h : VL c z zs) : ∀ n : Nat, VL c (List.replicate n z).flatten (List.replicate n zs).flatten
  | 0 => by simp [VL]
  | n + 1 => by
    rw [List.replicate_succ, List.replicate_succ, List.flatten_cons, List.flatten_cons]
    exact VL.append h (VL_replicate h n)

theorem rowsOf_ok {c : Cx} {τ : Ty} : ∀ {n : Nat} {cs : List AV} {xs : List τ.den} {vs : List Value}, rowsOf τ τ.sz n cs = some xs → VL c cs vs → cs.length = n * τ.sz →
    xs.length = n ∧ c.DVs (xs.map τ.enc).flatten vs
  | 0, cs, xs, vs, h, hv, hl => by
    simp only [rowsOf, Option.some.injEq] at h
    subst h
    have : cs = [] := List.length_eq_zero_iff.1 (by simpa using hl)
    subst this
    rw [VL_nil hv]
    exact ⟨rfl, trivial⟩
  | n + 1, cs, xs, vs, h, hv, hl => by
    simp only [rowsOf] at h
    split at h
    · cases h
    · rename_i x hx
      split at h
      · cases h
      · rename_i r hr
        obtain rfl := Option.some.inj h
        rw [Nat.add_mul] at hl
        obtain ⟨h1, h2⟩ := rowsOf_ok hr (hv.drop τ.sz) (by rw [List.length_drop]; omega)
        refine ⟨by simp [h1], ?_⟩
        have h3 := decA_ok hx (hv.take τ.sz)
        have := Cx.DVs.append h3 h2
        rw [List.take_append_drop] at this
        simpa using this

theorem Fz.ne {ob : List (Nat × AV)} {ws : Wr} (h : Fz ob ws) {id : Nat} (hid : look ob id = .undef) : ∀ p ∈ ws, p.1 ≠ id := fun p hp e => by
  obtain ⟨_, _, _, h1, _⟩ := h p hp
  rw [e, hid] at h1
  cases h1

/-- Rows are frozen, and then something is done. -/
theorem Post.after {w0 w w' : World} {ok : Nat → Prop} {ob : List (Nat × AV)} {mu mu1 : Nat → Option Nat} {v : AV} {ws ws' : Wr} {u : Value}
    (hm : Mono (cx w ob mu ok) (cx w (appOb ws ob) mu1 ok)) (h : Post w0 ok w (appOb ws ob) mu1 v ws' u w') : Post w0 ok w ob mu v (ws ++ ws') u w' := by
  obtain ⟨mu', h1, h2, h3⟩ := h
  exact ⟨mu', by rw [appOb_append]; exact h1, by rw [appOb_append]; exact hm.trans h2, by rw [appOb_append]; exact h3⟩

theorem elemOf_ok {V : Env} {t e : TypeId} (h : elemOf? V t = some e) : V.P.underlying t = some (.slice e) := by
  unfold elemOf? at h
  split at h
  · rename_i e' he; rw [he]; obtain rfl := Option.some.inj h; rfl
  · cases h

theorem run_buildSlice {P : Program} {w : World} {t e : TypeId} {len : Nat} {parts : Array (Nat × Value)} {i : TypeInfo} {z : Value} {cells : Array Value}
    (ht : P.underlying t = some (.slice e)) (hi : P.info? e = some i) (hz : i.zero = some z) (hzs : z.cells.size = i.size) (hp : 0 < i.size) (hl : len * i.size ≤ 16777216)
    (hf : Instr.fill (fun k => some (k * i.size, i.size)) ((Array.range (len * i.size)).map (z.cells[· % i.size]!)) parts.toList = some cells) :
    (Instr.buildSlice t len parts).run P w = .ok (.slice (some ⟨w.heap.size, 0, none⟩) len len) (w.alloc (.cells cells e (0, 0))) := by
  have hn : ¬ (len * i.size > 16777216) := by omega
  show _ = Result.ok _ { w with heap := w.heap.push (.cells cells e (0, 0)) }
  by_cases h0 : len * i.size = 0
  · have hl0 : len = 0 := by
      rcases Nat.mul_eq_zero.1 h0 with h | h
      · exact h
      · omega
    subst hl0
    simp only [Nat.zero_mul] at hf
    have e0 : (Array.range 0).map (z.cells[· % i.size]!) = (#[] : Array Value) := by simp [Array.range_zero']
    rw [e0] at hf
    simp [Instr.buildSlice, run_underlying ht, sizeOf, typeInfo, hi, newRow, Array.range_zero', hf]
  · simp [Instr.buildSlice, run_underlying ht, sizeOf, typeInfo, hi, zeroValue, hz, hn, h0, newRow, hzs, hf]

end Go.Proofs.Mill
