/- What comes ahead of what in a region. -/
import Derived.Test.YtcokmmhkajmkhaaMillRun
set_option linter.all false
namespace Go.Proofs.Mill
open Go.RowKit Go.CheckFast

def befA (l : List Oper) (A : Array Nat) : Array Nat := l.foldl (fun acc o => acc.push (one (fun i => acc.getD i 0) o)) A

theorem befA_size : ∀ (l : List Oper) (A : Array Nat), (befA l A).size = A.size + l.length
  | [], A => by simp [befA]
  | o :: l, A => by
    show (befA l (A.push _)).size = _
    rw [befA_size l]
    simp; omega

theorem befA_old : ∀ (l : List Oper) (A : Array Nat) (j : Nat), j < A.size → (befA l A).getD j 0 = A.getD j 0
  | [], A, j, _ => rfl
  | o :: l, A, j, h => by
    show (befA l (A.push _)).getD j 0 = _
    rw [befA_old l _ j (by simp; omega)]
    simp [Array.getD_eq_getD_getElem?, Array.getElem?_push, Nat.ne_of_lt h]

theorem befA_at : ∀ (l : List Oper) (A : Array Nat) (k : Nat) (o : Oper), l[k]? = some o → (befA l A).getD (A.size + k) 0 = one (fun e => if e < A.size + k then (befA l A).getD e 0 else 0) o
  | [], _, _, _, h => by simp at h
  | o :: l, A, 0, o', h => by
    simp only [List.getElem?_cons_zero, Option.some.injEq] at h
    subst h
    have e : (fun e => if e < A.size + 0 then (befA (o :: l) A).getD e 0 else 0) = fun e => A.getD e 0 := by
      funext e
      by_cases he : e < A.size
      · rw [if_pos (by omega), befA_old _ _ _ he]
      · rw [if_neg (by omega)]
        simp [Array.getD, he]
    rw [e]
    show (befA l (A.push _)).getD _ 0 = _
    rw [befA_old l _ _ (by simp)]
    simp [Array.getD_eq_getD_getElem?]
  | o :: l, A, k + 1, o', h => by
    have := befA_at l (A.push (one (fun i => A.getD i 0) o)) k o' (by simpa using h)
    simp only [Array.size_push] at this
    rw [show A.size + 1 + k = A.size + (k + 1) by omega] at this
    exact this

theorem beforeL_befA (l : List Oper) : beforeL l 0 [] = (befA l #[]).toList := by
  have := beforeL_eq l #[]
  simpa [befA] using this

theorem one_bit {look : Nat → Nat} {o : Oper} {j : Nat} (h : (one look o).testBit j = true) : ∃ e ∈ o.after.toList, Region.binds .any e = true ∧ (j = e.on ∨ (look e.on).testBit j = true) := by
  unfold one at h
  rw [← Array.foldl_toList] at h
  have key : ∀ (l : List Edge) (s : Nat), (l.foldl (fun s e => if Region.binds .any e then s ||| 2 ^ e.on ||| look e.on else s) s).testBit j = true →
      s.testBit j = true ∨ ∃ e ∈ l, Region.binds .any e = true ∧ (j = e.on ∨ (look e.on).testBit j = true) := by
    intro l
    induction l with
    | nil => intro s h; exact .inl h
    | cons e l ih =>
      intro s h
      rw [List.foldl_cons] at h
      rcases ih _ h with h | ⟨e', he', h⟩
      · cases hb : Region.binds .any e with
        | false => rw [hb] at h; exact .inl (by simpa using h)
        | true =>
          rw [hb] at h
          simp only [if_true, Nat.testBit_or, Bool.or_eq_true] at h
          rcases h with (h | h) | h
          · exact .inl h
          · refine .inr ⟨e, by simp, hb, .inl ?_⟩
            rw [Nat.testBit_two_pow] at h
            exact (of_decide_eq_true h).symm
          · exact .inr ⟨e, by simp, hb, .inr h⟩
      · exact .inr ⟨e', by simp [he'], h⟩
  rcases key _ 0 h with h | h
  · simp at h
  · exact h

/-- The edges of what is done lead to what is done. -/
def EdgesIn (ops : Array Oper) (S : Nat → Bool) : Prop := ∀ i o, S i = true → ops[i]? = some o → ∀ e ∈ o.after.toList, Region.binds .any e = true → S e.on = true

theorem bef_at (ops : Array Oper) {i : Nat} {o : Oper} (h : ops[i]? = some o) :
    (beforeL ops.toList 0 []).getD i 0 = one (fun e => if e < i then (beforeL ops.toList 0 []).getD e 0 else 0) o := by
  have h1 := befA_at ops.toList #[] i o (by simpa using h)
  have e : ∀ j, (beforeL ops.toList 0 []).getD j 0 = (befA ops.toList #[]).getD j 0 := by
    intro j
    rw [beforeL_befA]
    simp [List.getD_eq_getElem?_getD, Array.getD_eq_getD_getElem?]
  rw [e]
  simp only [Nat.zero_add, List.size_toArray, List.length_nil] at h1
  rw [h1]
  congr 1
  funext j
  rw [e]

theorem bef_none (ops : Array Oper) {i : Nat} (h : ops[i]? = none) : (beforeL ops.toList 0 []).getD i 0 = 0 := by
  have h1 : ops.size ≤ i := by simpa using h
  rw [beforeL_befA, List.getD_eq_getElem?_getD, List.getElem?_eq_none (by
    have := befA_size ops.toList #[]
    simp at this
    simp; omega)]
  rfl

/-- Whatever comes ahead of an operation whose edges lead to what is done is done. -/
theorem bef_done {ops : Array Oper} {S : Nat → Bool} (hS : EdgesIn ops S) : ∀ (i : Nat) (o : Oper), ops[i]? = some o → (∀ e ∈ o.after.toList, Region.binds .any e = true → S e.on = true) →
    ∀ j, ((beforeL ops.toList 0 []).getD i 0).testBit j = true → S j = true := by
  intro i
  induction i using Nat.strongRecOn with
  | _ i ih =>
    intro o ho he j hj
    rw [bef_at ops ho] at hj
    obtain ⟨e, hem, hb, h⟩ := one_bit hj
    rcases h with rfl | h
    · exact he e hem hb
    · by_cases hlt : e.on < i
      · rw [if_pos hlt] at h
        cases hoe : ops[e.on]? with
        | none => rw [bef_none ops hoe] at h; simp at h
        | some o' => exact ih e.on hlt o' hoe (hS e.on o' (he e hem hb) hoe) j h
      · rw [if_neg hlt] at h; simp at h

theorem EdgesIn.closed {ops : Array Oper} {S : Nat → Bool} (hS : EdgesIn ops S) : ClosedIn (beforeL ops.toList 0 []) S := by
  intro i j hi hj
  cases ho : ops[i]? with
  | none => rw [bef_none ops ho] at hj; simp at hj
  | some o => exact bef_done hS i o ho (hS i o hi ho) j hj

theorem backOk_spec : ∀ (l : List Oper) (i : Nat), backOk i l = true → ∀ k o, l[k]? = some o → ∀ e ∈ o.after.toList, Region.binds .any e = true → e.on < i + k
  | [], _, _, _, _, h => by simp at h
  | o :: l, i, hb, k, o', h => by
    unfold backOk at hb
    cases hc : (o.after.toList.all fun e => !(Region.binds .any e) || Nat.blt e.on i) with
    | false => rw [hc] at hb; cases hb
    | true =>
      rw [hc] at hb
      cases k with
      | zero =>
        simp only [List.getElem?_cons_zero, Option.some.injEq] at h
        subst h
        intro e he hbi
        have := List.all_eq_true.1 hc e he
        rw [hbi] at this
        have : Nat.blt e.on i = true := by simpa using this
        rw [Nat.blt_eq] at this
        omega
      | succ k =>
        intro e he hbi
        have := backOk_spec l (i + 1) hb k o' (by simpa using h) e he hbi
        omega

theorem drawnLen_spec (bef : List Nat) : ∀ (n m : Nat), drawnLen bef n ≤ m → m < n → waitsAll bef m = true
  | 0, _, _, h => by omega
  | n + 1, m, h1, h2 => by
    unfold drawnLen at h1
    cases hw : waitsAll bef n with
    | true =>
      rw [hw] at h1
      by_cases e : m = n
      · rw [e]; exact hw
      · exact drawnLen_spec bef n m h1 (by omega)
    | false =>
      rw [hw] at h1
      simp only [cond_false] at h1
      omega

theorem drawnLen_le (bef : List Nat) : ∀ (n : Nat), drawnLen bef n ≤ n
  | 0 => Nat.le_refl _
  | n + 1 => by
    unfold drawnLen
    cases waitsAll bef n
    · exact Nat.le_refl _
    · exact Nat.le_succ_of_le (drawnLen_le bef n)

end Go.Proofs.Mill
