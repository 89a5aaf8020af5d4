/- Parts of the proof: MillRun, MillBefore, MillDraw, MillExpo, MillNorm, MillFreezeV, MillCode, MillTurn, MillFunc, MillSpec. -/
import Derived.Test.YtcokmmhkajmkhaaMillAll2
import Derived.Scope
import Derived.RangeFuncRecord
import Derived.RangeFuncOwn
import Derived.RangeFuncLeaves
set_option linter.all false
/- The evaluator's run of operations in a row: what each read and wrote. -/
namespace Go.Proofs.Mill
open Go.RowKit

section
variable {V : Env} {fid nt n : Nat} {ops : Array Oper} {bef : List Nat} {σ0 : St} {txs : List (Nat × Tx)}

theorem txK_ok {ρ : Type} {o : Oper} {i : Nat} {done : List (Nat × Tx)} {σ : St} {k : List (Nat × Tx) → St → Option ρ} {r : ρ} (h : txK V fid nt ops bef o i done σ k = some r) :
    ∃ x : Tx, dstOk nt o.dst = true ∧ x.dst = o.dst ∧ txOk bef done i x = true ∧ (∀ τ : St, (∀ l ∈ x.rs, τ.get l = σ.get l) → (opRd V fid ops o).val τ = some (x.v, x.ws)) ∧
      ∃ σ', σ'.like (x.put σ) ∧ k ((i, x) :: done) σ' = some r := by
  unfold txK at h
  cases hd : dstOk nt o.dst with
  | false => rw [hd] at h; cases h
  | true =>
    rw [hd] at h
    simp only [cond_true] at h
    have act : ∀ {σ1 : St} {log : List Loc}, σ.like σ1 → ((evVal V fid o).runK σ1 log fun p rs =>
        bif txOk bef done i ⟨rs, o.dst, p.1, p.2⟩ then k ((i, ⟨rs, o.dst, p.1, p.2⟩) :: done) (σ1.put o.dst p.1 p.2) else none) = some r →
        ∃ x : Tx, x.dst = o.dst ∧ (∀ l ∈ log, l ∈ x.rs) ∧ txOk bef done i x = true ∧ (∀ τ : St, (∀ l ∈ x.rs, τ.get l = σ.get l) → (evVal V fid o).val τ = some (x.v, x.ws)) ∧
          ∃ σ', σ'.like (x.put σ) ∧ k ((i, x) :: done) σ' = some r := by
      intro σ1 log hl h
      obtain ⟨⟨v, ws⟩, rs, h1, h2, h3⟩ := Rd.runK_log h
      simp only at h1
      cases ht : txOk bef done i ⟨rs, o.dst, v, ws⟩ with
      | false => rw [ht] at h1; cases h1
      | true =>
        rw [ht] at h1
        refine ⟨⟨rs, o.dst, v, ws⟩, rfl, h2, ht, fun τ hτ => h3 τ fun l hl' => (hτ l hl').trans (hl l), _, ?_, h1⟩
        exact (Tx.put_like ⟨rs, o.dst, v, ws⟩ hl).symm
    have skip : ∀ {σ1 : St} {log : List Loc}, σ.like σ1 → (bif txOk bef done i ⟨log, o.dst, .tup [], []⟩ then k ((i, ⟨log, o.dst, .tup [], []⟩) :: done) (σ1.put o.dst (.tup []) []) else none) = some r →
        txOk bef done i ⟨log, o.dst, .tup [], []⟩ = true ∧ ∃ σ', σ'.like (Tx.put ⟨log, o.dst, .tup [], []⟩ σ) ∧ k ((i, ⟨log, o.dst, .tup [], []⟩) :: done) σ' = some r := by
      intro σ1 log hl h
      cases ht : txOk bef done i ⟨log, o.dst, .tup [], []⟩ with
      | false => rw [ht] at h; cases h
      | true =>
        rw [ht] at h
        exact ⟨rfl, _, (Tx.put_like ⟨log, o.dst, .tup [], []⟩ hl).symm, h⟩
    unfold opRd
    cases hg : o.guard with
    | none =>
      rw [hg] at h
      obtain ⟨x, h1, _, h2, h3, h4⟩ := act (St.like.refl σ) h
      exact ⟨x, rfl, h1, h2, h3, h4⟩
    | some g =>
      obtain ⟨j, want⟩ := g
      rw [hg] at h
      simp only at h ⊢
      cases hj : (ops[j]?).bind (·.dst) with
      | none => rw [hj] at h; cases h
      | some d =>
        rw [hj] at h
        simp only at h ⊢
        cases hb : look σ.tm d with
        | bool b =>
          rw [hb] at h
          simp only at h
          have pin := pin_like hb
          have rdg : ∀ {x : Tx}, .t d ∈ x.rs → (b == want) = true → (∀ τ : St, (∀ l ∈ x.rs, τ.get l = σ.get l) → (evVal V fid o).val τ = some (x.v, x.ws)) →
              ∀ τ : St, (∀ l ∈ x.rs, τ.get l = σ.get l) → (Rd.rd (.t d) fun | .bool b => bif b == want then evVal V fid o else .ret (.tup [], []) | .tup [] => .ret (.tup [], []) | _ => .fail : Rd (AV × Wr)).val τ = some (x.v, x.ws) := by
            intro x hm hbw hx τ hτ
            have e : τ.get (.t d) = .bool b := (hτ _ hm).trans hb
            simp only [Rd.val, e, hbw, cond_true]
            exact hx τ hτ
          have rds : (b == want) = false → ∀ τ : St, (∀ l ∈ [Loc.t d], τ.get l = σ.get l) →
              (Rd.rd (.t d) fun | .bool b => bif b == want then evVal V fid o else .ret (.tup [], []) | .tup [] => .ret (.tup [], []) | _ => .fail : Rd (AV × Wr)).val τ = some (.tup [], []) := by
            intro hbw τ hτ
            have e : τ.get (.t d) = .bool b := (hτ _ (by simp)).trans hb
            simp only [Rd.val, e, hbw, cond_false]
          cases b <;> cases want <;> simp only [cond_true, cond_false] at h
          · obtain ⟨x, h1, h0, h2, h3, h4⟩ := act pin h
            exact ⟨x, trivial, h1, h2, rdg (h0 _ (by simp)) rfl h3, h4⟩
          · obtain ⟨h2, h4⟩ := skip pin h
            exact ⟨⟨[.t d], o.dst, .tup [], []⟩, trivial, rfl, h2, rds rfl, h4⟩
          · obtain ⟨h2, h4⟩ := skip pin h
            exact ⟨⟨[.t d], o.dst, .tup [], []⟩, trivial, rfl, h2, rds rfl, h4⟩
          · obtain ⟨x, h1, h0, h2, h3, h4⟩ := act pin h
            exact ⟨x, trivial, h1, h2, rdg (h0 _ (by simp)) rfl h3, h4⟩
        | tup vs =>
          rw [hb] at h
          cases vs with
          | cons => cases h
          | nil =>
            obtain ⟨h2, h4⟩ := skip (St.like.refl σ) h
            refine ⟨⟨[.t d], o.dst, .tup [], []⟩, trivial, rfl, h2, fun τ hτ => ?_, h4⟩
            have e : τ.get (.t d) = .tup [] := (hτ _ (by simp)).trans hb
            simp only [Rd.val, e]
        | _ => rw [hb] at h; cases h

theorem txOk_spec {done : List (Nat × Tx)} {i : Nat} {x : Tx} (h : txOk bef done i x = true) : ∀ q ∈ done, (bef.getD i 0).testBit q.1 = true ∨ q.2.apart x = true := by
  intro q hq
  have := List.all_eq_true.1 h q hq
  simpa using this

theorem txsK_run {ρ : Type} : ∀ (l : List Oper) (i : Nat) (done : List (Nat × Tx)) (σ τ : St) (k : St → Option ρ) (r : ρ), txsK V fid nt ops bef l i done σ k = some r → σ.like τ →
    ∃ (txs : List (Nat × Tx)) (σn : St), txs.length = l.length ∧ k σn = some r ∧ σn.like (app txs τ) ∧
      ∀ (j : Nat) (p : Nat × Tx), txs[j]? = some p → p.1 = i + j ∧ (∃ o, l[j]? = some o ∧ dstOk nt o.dst = true ∧ p.2.dst = o.dst ∧
        ∀ τ' : St, (∀ l ∈ p.2.rs, τ'.get l = (app (txs.take j) τ).get l) → (opRd V fid ops o).val τ' = some (p.2.v, p.2.ws)) ∧
        (∀ q ∈ done, (bef.getD (i + j) 0).testBit q.1 = true ∨ q.2.apart p.2 = true) ∧
        ∀ (j' : Nat) (q : Nat × Tx), j' < j → txs[j']? = some q → (bef.getD (i + j) 0).testBit (i + j') = true ∨ q.2.apart p.2 = true
  | [], i, done, σ, τ, k, r, h, hl => ⟨[], σ, rfl, h, hl, fun j p hp => by simp at hp⟩
  | o :: l, i, done, σ, τ, k, r, h, hl => by
    obtain ⟨x, hd, hxd, hok, hval, σ', hl', hk⟩ := txK_ok h
    obtain ⟨txs, σn, hlen, hkn, hln, hall⟩ := txsK_run l (i + 1) ((i, x) :: done) σ' (x.put τ) k r hk (hl'.trans (x.put_like hl))
    refine ⟨(i, x) :: txs, σn, by simp [hlen], hkn, hln, fun j p hp => ?_⟩
    cases j with
    | zero =>
      simp only [List.getElem?_cons_zero, Option.some.injEq] at hp
      subst hp
      exact ⟨rfl, ⟨o, rfl, hd, hxd, fun τ' hτ => hval τ' fun l hl' => (hτ l hl').trans (hl l).symm⟩, txOk_spec hok, fun j' q hj => by omega⟩
    | succ j =>
      obtain ⟨h1, ⟨o', ho', h2, h3, h4⟩, h5, h6⟩ := hall j p (by simpa using hp)
      have e : i + 1 + j = i + (j + 1) := by omega
      rw [e] at h1 h5 h6
      refine ⟨h1, ⟨o', by simpa using ho', h2, h3, fun τ' hτ => h4 τ' hτ⟩, fun q hq => h5 q (List.mem_cons_of_mem _ hq), fun j' q hj hq => ?_⟩
      cases j' with
      | zero =>
        simp only [List.getElem?_cons_zero, Option.some.injEq] at hq
        subst hq
        exact h5 (i, x) (by simp)
      | succ j' =>
        have := h6 j' q (by omega) (by simpa using hq)
        rw [show i + 1 + j' = i + (j' + 1) by omega] at this
        exact this

theorem txRun_of {ρ : Type} {σ : St} {k : St → Option ρ} {r : ρ} (hn : n ≤ ops.size) (h : txsK V fid nt ops bef (ops.toList.take n) 0 [] σ k = some r) :
    ∃ (txs : List (Nat × Tx)) (σn : St), TxRun V fid nt ops bef n σ txs ∧ k σn = some r ∧ σn.like (app txs σ) := by
  obtain ⟨txs, σn, hlen, hk, hl, hall⟩ := txsK_run _ _ _ _ _ _ _ h (St.like.refl σ)
  have hlen' : txs.length = n := by rw [hlen]; simp [Nat.min_eq_left hn]
  refine ⟨txs, σn, ⟨hlen', fun i p hp => by simpa using (hall i p hp).1, fun i p hp => ?_, fun i j p q hji hp hq => by simpa using (hall i p hp).2.2.2 j q hji hq⟩, hk, hl⟩
  obtain ⟨o, ho, h1, h2, h3⟩ := (hall i p hp).2.1
  have hin : i < n := by have := (List.getElem?_eq_some_iff.1 hp).1; omega
  rw [List.getElem?_take_of_lt hin] at ho
  exact ⟨o, by simpa using ho, h1, h2, h3⟩

end
end Go.Proofs.Mill

/- What comes ahead of what in a region. -/
namespace Go.Proofs.Mill
open Go.RowKit Go.CheckFast

def befA (l : List Oper) (A : Array Nat) : Array Nat := l.foldl (fun acc o => acc.push (one (fun i => acc.getD i 0) o)) A

theorem befA_size : ∀ (l : List Oper) (A : Array Nat), (befA l A).size = A.size + l.length
  | [], A => by simp [befA]
  | o :: l, A => by
    show (befA l (A.push _)).size = _
    rw [befA_size l]
    simp; omega

theorem befA_old : ∀ (l : List Oper) (A : Array Nat) (j : Nat), j < A.size → (befA l A).getD j 0 = A.getD j 0
  | [], A, j, _ => rfl
  | o :: l, A, j, h => by
    show (befA l (A.push _)).getD j 0 = _
    rw [befA_old l _ j (by simp; omega)]
    simp [Array.getD_eq_getD_getElem?, Array.getElem?_push, Nat.ne_of_lt h]

theorem befA_at : ∀ (l : List Oper) (A : Array Nat) (k : Nat) (o : Oper), l[k]? = some o → (befA l A).getD (A.size + k) 0 = one (fun e => if e < A.size + k then (befA l A).getD e 0 else 0) o
  | [], _, _, _, h => by simp at h
  | o :: l, A, 0, o', h => by
    simp only [List.getElem?_cons_zero, Option.some.injEq] at h
    subst h
    have e : (fun e => if e < A.size + 0 then (befA (o :: l) A).getD e 0 else 0) = fun e => A.getD e 0 := by
      funext e
      by_cases he : e < A.size
      · rw [if_pos (by omega), befA_old _ _ _ he]
      · rw [if_neg (by omega)]
        simp [Array.getD, he]
    rw [e]
    show (befA l (A.push _)).getD _ 0 = _
    rw [befA_old l _ _ (by simp)]
    simp [Array.getD_eq_getD_getElem?]
  | o :: l, A, k + 1, o', h => by
    have := befA_at l (A.push (one (fun i => A.getD i 0) o)) k o' (by simpa using h)
    simp only [Array.size_push] at this
    rw [show A.size + 1 + k = A.size + (k + 1) by omega] at this
    exact this

theorem beforeL_befA (l : List Oper) : beforeL l 0 [] = (befA l #[]).toList := by
  have := beforeL_eq l #[]
  simpa [befA] using this

theorem one_bit {look : Nat → Nat} {o : Oper} {j : Nat} (h : (one look o).testBit j = true) : ∃ e ∈ o.after.toList, Region.binds .any e = true ∧ (j = e.on ∨ (look e.on).testBit j = true) := by
  unfold one at h
  rw [← Array.foldl_toList] at h
  have key : ∀ (l : List Edge) (s : Nat), (l.foldl (fun s e => if Region.binds .any e then s ||| 2 ^ e.on ||| look e.on else s) s).testBit j = true →
      s.testBit j = true ∨ ∃ e ∈ l, Region.binds .any e = true ∧ (j = e.on ∨ (look e.on).testBit j = true) := by
    intro l
    induction l with
    | nil => intro s h; exact .inl h
    | cons e l ih =>
      intro s h
      rw [List.foldl_cons] at h
      rcases ih _ h with h | ⟨e', he', h⟩
      · cases hb : Region.binds .any e with
        | false => rw [hb] at h; exact .inl (by simpa using h)
        | true =>
          rw [hb] at h
          simp only [if_true, Nat.testBit_or, Bool.or_eq_true] at h
          rcases h with (h | h) | h
          · exact .inl h
          · refine .inr ⟨e, by simp, hb, .inl ?_⟩
            rw [Nat.testBit_two_pow] at h
            exact (of_decide_eq_true h).symm
          · exact .inr ⟨e, by simp, hb, .inr h⟩
      · exact .inr ⟨e', by simp [he'], h⟩
  rcases key _ 0 h with h | h
  · simp at h
  · exact h

/-- The edges of what is done lead to what is done. -/
def EdgesIn (ops : Array Oper) (S : Nat → Bool) : Prop := ∀ i o, S i = true → ops[i]? = some o → ∀ e ∈ o.after.toList, Region.binds .any e = true → S e.on = true

theorem bef_at (ops : Array Oper) {i : Nat} {o : Oper} (h : ops[i]? = some o) :
    (beforeL ops.toList 0 []).getD i 0 = one (fun e => if e < i then (beforeL ops.toList 0 []).getD e 0 else 0) o := by
  have h1 := befA_at ops.toList #[] i o (by simpa using h)
  have e : ∀ j, (beforeL ops.toList 0 []).getD j 0 = (befA ops.toList #[]).getD j 0 := by
    intro j
    rw [beforeL_befA]
    simp [List.getD_eq_getElem?_getD, Array.getD_eq_getD_getElem?]
  rw [e]
  simp only [Nat.zero_add, List.size_toArray, List.length_nil] at h1
  rw [h1]
  congr 1
  funext j
  rw [e]

theorem bef_none (ops : Array Oper) {i : Nat} (h : ops[i]? = none) : (beforeL ops.toList 0 []).getD i 0 = 0 := by
  have h1 : ops.size ≤ i := by simpa using h
  rw [beforeL_befA, List.getD_eq_getElem?_getD, List.getElem?_eq_none (by
    have := befA_size ops.toList #[]
    simp at this
    simp; omega)]
  rfl

/-- Whatever comes ahead of an operation whose edges lead to what is done is done. -/
theorem bef_done {ops : Array Oper} {S : Nat → Bool} (hS : EdgesIn ops S) : ∀ (i : Nat) (o : Oper), ops[i]? = some o → (∀ e ∈ o.after.toList, Region.binds .any e = true → S e.on = true) →
    ∀ j, ((beforeL ops.toList 0 []).getD i 0).testBit j = true → S j = true := by
  intro i
  induction i using Nat.strongRecOn with
  | _ i ih =>
    intro o ho he j hj
    rw [bef_at ops ho] at hj
    obtain ⟨e, hem, hb, h⟩ := one_bit hj
    rcases h with rfl | h
    · exact he e hem hb
    · by_cases hlt : e.on < i
      · rw [if_pos hlt] at h
        cases hoe : ops[e.on]? with
        | none => rw [bef_none ops hoe] at h; simp at h
        | some o' => exact ih e.on hlt o' hoe (hS e.on o' (he e hem hb) hoe) j h
      · rw [if_neg hlt] at h; simp at h

theorem EdgesIn.closed {ops : Array Oper} {S : Nat → Bool} (hS : EdgesIn ops S) : ClosedIn (beforeL ops.toList 0 []) S := by
  intro i j hi hj
  cases ho : ops[i]? with
  | none => rw [bef_none ops ho] at hj; simp at hj
  | some o => exact bef_done hS i o ho (hS i o hi ho) j hj

theorem backOk_spec : ∀ (l : List Oper) (i : Nat), backOk i l = true → ∀ k o, l[k]? = some o → ∀ e ∈ o.after.toList, Region.binds .any e = true → e.on < i + k
  | [], _, _, _, _, h => by simp at h
  | o :: l, i, hb, k, o', h => by
    unfold backOk at hb
    cases hc : (o.after.toList.all fun e => !(Region.binds .any e) || Nat.blt e.on i) with
    | false => rw [hc] at hb; cases hb
    | true =>
      rw [hc] at hb
      cases k with
      | zero =>
        simp only [List.getElem?_cons_zero, Option.some.injEq] at h
        subst h
        intro e he hbi
        have := List.all_eq_true.1 hc e he
        rw [hbi] at this
        have : Nat.blt e.on i = true := by simpa using this
        rw [Nat.blt_eq] at this
        omega
      | succ k =>
        intro e he hbi
        have := backOk_spec l (i + 1) hb k o' (by simpa using h) e he hbi
        omega

theorem drawnLen_spec (bef : List Nat) : ∀ (n m : Nat), drawnLen bef n ≤ m → m < n → waitsAll bef m = true
  | 0, _, _, h => by omega
  | n + 1, m, h1, h2 => by
    unfold drawnLen at h1
    cases hw : waitsAll bef n with
    | true =>
      rw [hw] at h1
      by_cases e : m = n
      · rw [e]; exact hw
      · exact drawnLen_spec bef n m h1 (by omega)
    | false =>
      rw [hw] at h1
      simp only [cond_false] at h1
      omega

theorem drawnLen_le (bef : List Nat) : ∀ (n : Nat), drawnLen bef n ≤ n
  | 0 => Nat.le_refl _
  | n + 1 => by
    unfold drawnLen
    cases waitsAll bef n
    · exact Nat.le_refl _
    · exact Nat.le_succ_of_le (drawnLen_le bef n)

end Go.Proofs.Mill

/- Regions whose order is drawn. -/
namespace Go.Proofs.Mill
variable {ds : List Deferred}
open Go.RowKit Go.CheckFast

section
variable {V : Env} {J : Cx → Prop} {w0 w : World} {ok : Nat → Prop} {nt fid n : Nat} {σ τ : St} {a : Act} {o : Oper} {v : AV} {ws : Wr} {ops : Array Oper} {ro : Option Nat}

theorem opRd_holds {K : Act → World → Prop} {Q : Exit → Act → World → Prop} (hG : GoodEnv V) (hJ : Stays J) (hh : Holds J w0 ok nt ds σ a w) (hd : dstOk nt o.dst = true)
    (h : (opRd V fid ops o).val σ = some (v, ws)) (hn : ∀ a' w', Holds J w0 ok nt ds (σ.put o.dst v ws) a' w' → K a' w') : wpOne ro V.P ops o Q K a w := by
  have go : ∀ (h : (evVal V fid o).val σ = some (v, ws)), o.wpIn (wideR ro) 0 V.P a w K Q := fun h => evVal_holds hG hJ hh hd h hn
  unfold opRd at h
  split at h
  · rename_i hg
    exact wpOne_do (by simp [Region.wanted, hg]) (go h)
  · rename_i j want hg
    split at h
    · rename_i d hj
      simp only [Rd.val] at h
      change (match look σ.tm d with | .bool b => _ | .tup [] => _ | _ => _ : Rd (AV × Wr)).val σ = _ at h
      split at h
      · rename_i b hb
        obtain ⟨mu, hr, hj'⟩ := hh
        have hy := yielded_of hr hj hb
        cases hbw : b == want with
        | true =>
          rw [hbw] at h
          exact wpOne_do (by simpa [Region.wanted, hg, hy] using hbw) (go h)
        | false =>
          rw [hbw] at h
          refine wpOne_skip (by simpa [Region.wanted, hg, hy] using hbw) ?_
          have h2 := val_ret (show (Rd.ret (AV.tup [], ([] : Wr))).val σ = some (v, ws) from h)
          injection h2 with h2 h3
          subst h2 h3
          exact hn _ _ (Holds.skip ⟨mu, hr, hj'⟩ hd)
      · rename_i hb
        obtain ⟨mu, hr, hj'⟩ := hh
        have hy := yielded_skip hr hj hb
        refine wpOne_skip (by simp [Region.wanted, hg, hy]) ?_
        have h2 := val_ret (show (Rd.ret (AV.tup [], ([] : Wr))).val σ = some (v, ws) from h)
        injection h2 with h2 h3
        subst h2 h3
        exact hn _ _ (Holds.skip ⟨mu, hr, hj'⟩ hd)
      · simp [Rd.val] at h
    · simp [Rd.val] at h

theorem Holds.drawn (hJ : Stays J) (hh : Holds J w0 ok nt ds σ a w) (d : Nat) : Holds J w0 ok nt ds σ a { w with drawn := d } := by
  obtain ⟨mu, hr, hj⟩ := hh
  have hm : Mono (cx w σ.ob mu ok) (cx { w with drawn := d } σ.ob mu ok) := mono_of (fun b hb => ⟨hb, rfl⟩) (fun id => .inr (.inr (.inl ⟨rfl, rfl, fun _ _ => rfl⟩)))
  refine ⟨mu, ⟨⟨fun id => (hr.mem.obj id).keep hm rfl rfl (fun _ _ => rfl), hr.mem.inj, hr.mem.base, ?_, hr.mem.okn⟩, fun t ht => hm.v _ _ (hr.tm t ht), hr.far, hr.size, hr.defers, hm.marks hr.marks⟩, hJ _ _ hj hm⟩
  obtain ⟨h1, h2, h3, h4, h5⟩ := hr.mem.ext
  exact ⟨h1, h2, h3, h4, h5⟩

/-- What is listed. -/
def inSet (listed : Array Bool) (j : Nat) : Bool := listed.getD j false

theorem ready_spec {listed : Array Bool} (hs : listed.size = ops.size) {i : Nat} (h : i ∈ Region.ready .any ops listed) :
    i < ops.size ∧ inSet listed i = false ∧ ∃ o, ops[i]? = some o ∧ ∀ e ∈ o.after.toList, Region.binds .any e = true → inSet listed e.on = true := by
  unfold Region.ready at h
  simp only [List.mem_filter, List.mem_range, Bool.and_eq_true] at h
  obtain ⟨hi, h1, h2⟩ := h
  refine ⟨hi, ?_, ?_⟩
  · unfold inSet
    have hi' : i < listed.size := by omega
    rw [Array.getD_eq_getD_getElem?, Array.getElem?_eq_getElem hi'] at h1 ⊢
    simpa using h1
  · have hg : ops[i]? = some ops[i] := Array.getElem?_eq_getElem hi
    refine ⟨ops[i], hg, fun e he hb => ?_⟩
    rw [hg] at h2
    simp only [Option.map_some, Option.getD_some, Array.all_eq_true_iff_forall_mem] at h2
    have := h2 e (by simpa using he)
    rw [hb] at this
    simpa [inSet] using this

theorem ready_of {listed : Array Bool} (hs : listed.size = ops.size) {i : Nat} {o : Oper} (ho : ops[i]? = some o) (hn : inSet listed i = false)
    (he : ∀ e ∈ o.after.toList, Region.binds .any e = true → inSet listed e.on = true) : i ∈ Region.ready .any ops listed := by
  obtain ⟨hi, hg⟩ := Array.getElem?_eq_some_iff.1 ho
  unfold Region.ready
  simp only [List.mem_filter, List.mem_range, Bool.and_eq_true]
  refine ⟨hi, ?_, ?_⟩
  · unfold inSet at hn
    have hi' : i < listed.size := by omega
    rw [Array.getD_eq_getD_getElem?, Array.getElem?_eq_getElem hi'] at hn ⊢
    simpa using hn
  · rw [ho]
    simp only [Option.map_some, Option.getD_some, Array.all_eq_true_iff_forall_mem]
    intro e hem
    cases hb : Region.binds .any e with
    | false => simp
    | true => simpa [inSet] using he e (by simpa using hem) hb

theorem inSet_set (listed : Array Bool) {i : Nat} (hi : i < listed.size) (j : Nat) : inSet (listed.setIfInBounds i true) j = (inSet listed j || decide (j = i)) := by
  unfold inSet
  rw [Array.getD_eq_getD_getElem?, Array.getD_eq_getD_getElem?, Array.getElem?_setIfInBounds]
  by_cases h : i = j
  · subst h; simp [hi]
  · have : ¬ j = i := fun e => h e.symm
    simp [h, this]

theorem cnt_set (listed : Array Bool) {i : Nat} (hi : i < listed.size) (h : inSet listed i = false) : (listed.setIfInBounds i true).toList.count false + 1 = listed.toList.count false := by
  have hl : i < listed.toList.length := by simpa using hi
  have he : listed.toList[i] = false := by
    unfold inSet at h
    rw [Array.getD_eq_getD_getElem?, Array.getElem?_eq_getElem hi] at h
    simpa using h
  rw [Array.toList_setIfInBounds, List.count_set hl, he]
  have : 0 < listed.toList.count false := List.count_pos_iff.2 (he ▸ List.getElem_mem hl)
  have e : (true == false) = false := rfl
  rw [e]
  simp only [beq_self_eq_true, if_true, Bool.false_eq_true, if_false]
  omega

theorem cnt_zero {listed : Array Bool} (h : listed.toList.count false = 0) {j : Nat} (hj : j < listed.size) : inSet listed j = true := by
  rw [List.count_eq_zero] at h
  unfold inSet
  rw [Array.getD_eq_getD_getElem?, Array.getElem?_eq_getElem hj]
  cases hb : listed[j] with
  | true => rfl
  | false =>
    exfalso
    apply h
    rw [← hb]
    exact Array.mem_toList_iff.2 (Array.getElem_mem hj)

theorem cnt_pos {listed : Array Bool} {m : Nat} (h : listed.toList.count false = m + 1) : ∃ j, j < listed.size ∧ inSet listed j = false := by
  have : 0 < listed.toList.count false := by omega
  rw [List.count_pos_iff] at this
  obtain ⟨j, hj, hjv⟩ := List.getElem_of_mem this
  refine ⟨j, by simpa using hj, ?_⟩
  unfold inSet
  have hj' : j < listed.size := by simpa using hj
  rw [Array.getD_eq_getD_getElem?, Array.getElem?_eq_getElem hj']
  simpa using hjv

theorem inSet_lt {listed : Array Bool} {j : Nat} (h : inSet listed j = true) : j < listed.size := by
  apply Classical.byContradiction
  intro hn
  unfold inSet at h
  rw [Array.getD_eq_getD_getElem?, Array.getElem?_eq_none (by omega)] at h
  cases h

theorem wpOp_one {Q : Exit → Act → World → Prop} {K : Act → World → Prop} {i : Nat} (ho : ops[i]? = some o) (h : wpOne ro V.P ops o Q K a w) : wpOpIn (wideR ro) 0 V.P ops Q i K a w := by
  unfold wpOpIn
  rw [ho]
  exact h

/-- The rest, one by one. -/
theorem draw_tail {ρ : Type} {inl : Inl ρ} {k : St → Option ρ} {r : ρ} {Q : Exit → Act → World → Prop} (hG : GoodEnv V) (hI : InlOK V inl) (hJ : Stays J)
    (hback : backOk 0 ops.toList = true) (hwait : ∀ m, n ≤ m → m < ops.size → waitsAll (beforeL ops.toList 0 []) m = true)
    (hn : ∀ σ' a' w', Holds J w0 ok nt ds σ' a' w' → k σ' = some r → Q .normal a' w') :
    ∀ (fuel i : Nat) (listed : Array Bool) (σ : St) (a : Act) (w : World), n ≤ i → i ≤ ops.size → listed.size = ops.size → (∀ j, inSet listed j = decide (j < i)) → listed.toList.count false = fuel →
      Holds J w0 ok nt ds σ a w → opsK V inl fid nt ops (ops.toList.drop i) σ k = some r → wpAnyIn (wideR ro) 0 V.P .any ops Q fuel listed a w := by
  intro fuel
  induction fuel with
  | zero =>
    intro i listed σ a w hni his hs hset hc hh h
    have hi : i = ops.size := by
      apply Classical.byContradiction
      intro hne
      have hlt : i < listed.size := by omega
      have := cnt_zero hc hlt
      rw [hset i] at this
      simp at this
    refine ⟨?_, ?_⟩
    · rw [List.eq_nil_iff_forall_not_mem]
      intro j hj
      obtain ⟨h1, h2, _⟩ := ready_spec hs hj
      have := cnt_zero hc (j := j) (by omega)
      rw [h2] at this
      cases this
    · rw [hi, List.drop_eq_nil_of_le (by simp)] at h
      exact hn _ _ _ hh h
  | succ fuel ih =>
    intro i listed σ a w hni his hs hset hc hh h
    have hi : i < ops.size := by
      apply Classical.byContradiction
      intro hne
      obtain ⟨j, hj, hjf⟩ := cnt_pos hc
      rw [hset j] at hjf
      have := of_decide_eq_false hjf
      omega
    have ho : ops[i]? = some ops[i] := Array.getElem?_eq_getElem hi
    have hnot : inSet listed i = false := by rw [hset i]; simp
    have hedges : EdgesIn ops (inSet listed) := by
      intro j o' hj hoj e he hb
      rw [hset] at hj ⊢
      have hj := of_decide_eq_true hj
      have := backOk_spec _ _ hback j o' (by simpa using hoj) e he hb
      simp; omega
    have hr : i ∈ Region.ready .any ops listed := by
      refine ready_of hs ho hnot fun e he hb => ?_
      have := backOk_spec _ _ hback i ops[i] (by simp [ho]) e he hb
      rw [hset]; simp; omega
    refine ⟨fun e => (by rw [e] at hr; cases hr), fun j hj => ?_⟩
    obtain ⟨h1, h2, oj, hoj, hej⟩ := ready_spec hs hj
    have hji : j = i := by
      apply Classical.byContradiction
      intro hne
      rw [hset j] at h2
      have h2 := of_decide_eq_false h2
      have hw := hwait j (by omega) h1
      have hb := List.all_eq_true.1 hw i (List.mem_range.2 (by omega))
      have := bef_done hedges j oj hoj hej i hb
      rw [hnot] at this
      cases this
    subst hji
    refine wpOp_one ho ?_
    have hd : ops.toList.drop j = ops[j] :: ops.toList.drop (j + 1) := by
      rw [List.drop_eq_getElem_cons (by simpa using hi)]
      simp
    rw [hd] at h
    refine opK_ok hG hI hJ hh h fun σ' a' w' hh' h' => ?_
    refine ih (j + 1) _ σ' a' w' (by omega) (by omega) (by simp [hs]) (fun m => ?_) ?_ hh' h'
    · rw [inSet_set _ (by omega), hset m]
      by_cases h1 : m < j
      · simp [h1]; omega
      · by_cases h2 : m = j
        · simp [h2]
        · have : ¬ m < j + 1 := by omega
          simp [h1, h2, this]
    · have := cnt_set listed (i := j) (by omega) hnot
      omega

/-- The first ones, in any order. -/
theorem draw_head {ρ : Type} {inl : Inl ρ} {k : St → Option ρ} {r : ρ} {Q : Exit → Act → World → Prop} {σ0 σn : St} {txs : List (Nat × Tx)} (hG : GoodEnv V) (hI : InlOK V inl) (hJ : Stays J)
    (hback : backOk 0 ops.toList = true) (hwait : ∀ m, n ≤ m → m < ops.size → waitsAll (beforeL ops.toList 0 []) m = true) (hns : n ≤ ops.size)
    (hrun : TxRun V fid nt ops (beforeL ops.toList 0 []) n σ0 txs) (hln : σn.like (app txs σ0)) (hk : opsK V inl fid nt ops (ops.toList.drop n) σn k = some r)
    (hn : ∀ σ' a' w', Holds J w0 ok nt ds σ' a' w' → k σ' = some r → Q .normal a' w') :
    ∀ (fuel : Nat) (listed : Array Bool) (a : Act) (w : World), listed.size = ops.size → EdgesIn ops (inSet listed) → (∀ j, inSet listed j = true → j < n) → listed.toList.count false = fuel →
      Holds J w0 ok nt ds (canon txs σ0 (inSet listed)) a w → wpAnyIn (wideR ro) 0 V.P .any ops Q fuel listed a w := by
  intro fuel
  induction fuel with
  | zero =>
    intro listed a w hs hedges hlt hc hh
    refine draw_tail hG hI hJ hback hwait hn 0 n listed σn a w (Nat.le_refl _) hns hs (fun j => ?_) hc (hh.like ?_) hk
    · by_cases hj : j < n
      · rw [cnt_zero hc (by omega)]; simp [hj]
      · cases hb : inSet listed j with
        | false => simp [hj]
        | true => exact (hj (hlt j hb)).elim
    · have : txs.filter (fun p => inSet listed p.1) = txs := by
        rw [List.filter_eq_self]
        intro p hp
        obtain ⟨i, hi⟩ := List.getElem?_of_mem hp
        rw [hrun.idx i p hi]
        have := (List.getElem?_eq_some_iff.1 hi).1
        exact cnt_zero hc (by have := hrun.len; omega)
      unfold canon
      rw [this]
      exact hln.symm
  | succ fuel ih =>
    intro listed a w hs hedges hlt hc hh
    by_cases hall : ∀ j, j < n → inSet listed j = true
    · refine draw_tail hG hI hJ hback hwait hn (fuel + 1) n listed σn a w (Nat.le_refl _) hns hs (fun j => ?_) hc (hh.like ?_) hk
      · by_cases hj : j < n
        · rw [hall j hj]; simp [hj]
        · cases hb : inSet listed j with
          | false => simp [hj]
          | true => exact (hj (hlt j hb)).elim
      · have : txs.filter (fun p => inSet listed p.1) = txs := by
          rw [List.filter_eq_self]
          intro p hp
          obtain ⟨i, hi⟩ := List.getElem?_of_mem hp
          rw [hrun.idx i p hi]
          have := (List.getElem?_eq_some_iff.1 hi).1
          exact hall i (by have := hrun.len; omega)
        unfold canon
        rw [this]
        exact hln.symm
    · refine ⟨fun e => ?_, fun i hi => ?_⟩
      · exfalso
        have hex : ∃ j, j < n ∧ inSet listed j = false := by
          apply Classical.byContradiction
          intro hno
          apply hall
          intro j hj
          cases hb : inSet listed j with
          | true => rfl
          | false => exact (hno ⟨j, hj, hb⟩).elim
        have least : ∀ m, (∃ j, j < m ∧ inSet listed j = false) → ∃ j, inSet listed j = false ∧ (∀ i, i < j → inSet listed i = true) ∧ j < m := by
          intro m
          induction m with
          | zero => rintro ⟨j, hj, _⟩; omega
          | succ m ihm =>
            rintro ⟨j, hj, hjf⟩
            by_cases hlow : ∃ j, j < m ∧ inSet listed j = false
            · obtain ⟨j', h1, h2, h3⟩ := ihm hlow
              exact ⟨j', h1, h2, by omega⟩
            · refine ⟨m, ?_, fun i hi => ?_, by omega⟩
              · have : j = m := by
                  apply Classical.byContradiction
                  intro hne
                  exact hlow ⟨j, by omega, hjf⟩
                rw [← this]; exact hjf
              · cases hb : inSet listed i with
                | true => rfl
                | false => exact (hlow ⟨i, hi, hb⟩).elim
        obtain ⟨j, hjf, hbelow, hjn⟩ := least n hex
        have hjs : j < ops.size := by omega
        have hr : j ∈ Region.ready .any ops listed := ready_of hs (Array.getElem?_eq_getElem hjs) hjf fun e he hb =>
          hbelow _ (by have := backOk_spec _ _ hback j ops[j] (by simp [hjs]) e he hb; omega)
        rw [e] at hr
        cases hr
      · obtain ⟨h1, h2, o, ho, he⟩ := ready_spec hs hi
        have hbd := bef_done hedges i o ho he
        have hin : i < n := by
          apply Classical.byContradiction
          intro hnn
          apply hall
          intro j hj
          have hw := hwait i (by omega) h1
          exact hbd j (List.all_eq_true.1 hw j (List.mem_range.2 (by omega)))
        have hlen := hrun.len
        have hp : txs[i]? = some txs[i] := List.getElem?_eq_getElem (by omega)
        obtain ⟨o', ho', hd, hdst, hval⟩ := hrun.op i _ hp
        rw [ho] at ho'
        obtain rfl := Option.some.inj ho'
        have hv := hval (canon txs σ0 (inSet listed)) fun l hl => canon_reads hrun hedges.closed hp h2 hbd hl
        refine wpOp_one ho (opRd_holds hG hJ hh hd hv fun a' w' hh' => ?_)
        have hset : ∀ j, inSet (listed.setIfInBounds i true) j = (inSet listed j || decide (j = i)) := fun j => inSet_set _ (by omega) j
        refine ih _ a' w' (by simp [hs]) ?_ ?_ ?_ (hh'.like ?_)
        · intro j oj hj hoj e hem hb
          rw [hset] at hj ⊢
          simp only [Bool.or_eq_true, decide_eq_true_eq] at hj ⊢
          rcases hj with hj | hj
          · exact .inl (hedges j oj hj hoj e hem hb)
          · subst hj
            rw [ho] at hoj
            obtain rfl := Option.some.inj hoj
            exact .inl (he e hem hb)
        · intro j hj
          rw [hset] at hj
          simp only [Bool.or_eq_true, decide_eq_true_eq] at hj
          rcases hj with hj | hj
          · exact hlt j hj
          · omega
        · have := cnt_set listed (i := i) (by omega) h2
          omega
        · have := canon_step hrun hedges.closed hp h2 (S' := inSet (listed.setIfInBounds i true)) (fun j _ => hset j)
          unfold Tx.put at this
          rw [hdst] at this
          exact this

theorem regK_ok {ρ : Type} {inl : Inl ρ} {k : St → Option ρ} {r : ρ} {Q : Exit → Act → World → Prop} {id : Nat} {draw : Bool} (hG : GoodEnv V) (hI : InlOK V inl) (hJ : Stays J)
    (hh : Holds J w0 ok nt ds σ a w) (h : regK V inl fid nt ops draw σ k = some r) (hn : ∀ σ' a' w', Holds J w0 ok nt ds σ' a' w' → k σ' = some r → Q .normal a' w') : (Code.region id ops draw).wpIn (wideR ro) 0 V.P Q a w := by
  unfold regK at h
  cases draw with
  | false => exact wpIn_region_list (opsK_ok hG hI hJ _ hh h hn)
  | true =>
    simp only [cond_true] at h
    rw [forceL_eq, CheckFast.force_eq] at h
    cases hback : backOk 0 ops.toList with
    | false => rw [hback] at h; cases h
    | true =>
      rw [hback] at h
      simp only [cond_true] at h
      have hns : drawnLen (beforeL ops.toList 0 []) ops.toList.length ≤ ops.size := by
        have := drawnLen_le (beforeL ops.toList 0 []) ops.toList.length
        simpa using this
      have hwait : ∀ m, drawnLen (beforeL ops.toList 0 []) ops.toList.length ≤ m → m < ops.size → waitsAll (beforeL ops.toList 0 []) m = true :=
        fun m h1 h2 => drawnLen_spec _ _ m h1 (by simpa using h2)
      obtain ⟨txs, σn, hrun, hk, hln⟩ := txRun_of hns h
      have hnone : ∀ j, inSet (Array.replicate ops.size false) j = false := by
        intro j
        unfold inSet
        rw [Array.getD_eq_getD_getElem?, Array.getElem?_replicate]
        split <;> rfl
      refine wpIn_region_any hG.2.1 (draw_head hG hI hJ hback hwait hns hrun hln hk hn ops.size _ a _ (by simp) (fun j oj hj => by rw [hnone] at hj; cases hj)
        (fun j hj => by rw [hnone] at hj; cases hj) (by simp) ?_)
      have : txs.filter (fun p => inSet (Array.replicate ops.size false) p.1) = [] := by
        rw [List.filter_eq_nil_iff]
        intro p _
        rw [hnone]; simp
      unfold canon
      rw [this]
      exact hh.drawn hJ _

end
end Go.Proofs.Mill

/- Values that leave a frame's store, and come into another one. -/
namespace Go.Proofs.Mill
open Go.RowKit

def Alive (o : AV) : Prop := (∃ e τ, ∃ xs : List τ.den, o = .row e τ xs) ∨ ∃ cs, o = .box cs

/-- How a store goes on while values are taken out of it. -/
def Ev (ob ob' : List (Nat × AV)) : Prop := ∀ i, look ob' i = look ob i ∨ (Alive (look ob i) ∧ look ob' i = .dead) ∨ ∃ e τ, ∃ xs : List τ.den, look ob i = .row e τ xs ∧ look ob' i = .frz τ xs

theorem Ev.refl (ob : List (Nat × AV)) : Ev ob ob := fun _ => .inl rfl

theorem not_alive_dead : ¬ Alive .dead := by rintro (⟨_, _, _, h⟩ | ⟨_, h⟩) <;> cases h
theorem not_alive_frz {τ : Ty} {xs : List τ.den} : ¬ Alive (.frz τ xs) := by rintro (⟨_, _, _, h⟩ | ⟨_, h⟩) <;> cases h

theorem Ev.trans {a b c : List (Nat × AV)} (h : Ev a b) (k : Ev b c) : Ev a c := by
  intro i
  rcases h i with h1 | ⟨h1, h2⟩ | ⟨e, τ, xs, h1, h2⟩
  · rw [← h1]; exact k i
  · rcases k i with k1 | ⟨k1, _⟩ | ⟨_, _, _, k1, _⟩
    · exact .inr (.inl ⟨h1, k1.trans h2⟩)
    · rw [h2] at k1; exact (not_alive_dead k1).elim
    · rw [h2] at k1; cases k1
  · rcases k i with k1 | ⟨k1, _⟩ | ⟨_, _, _, k1, _⟩
    · exact .inr (.inr ⟨e, τ, xs, h1, k1.trans h2⟩)
    · rw [h2] at k1; exact (not_alive_frz k1).elim
    · rw [h2] at k1; cases k1

theorem Ev.dead {a b : List (Nat × AV)} (h : Ev a b) {i : Nat} (hd : look a i = .dead) : look b i = .dead := by
  rcases h i with h1 | ⟨h1, _⟩ | ⟨_, _, _, h1, _⟩
  · exact h1.trans hd
  · rw [hd] at h1; exact (not_alive_dead h1).elim
  · rw [hd] at h1; cases h1

theorem Ev.frz {a b : List (Nat × AV)} (h : Ev a b) {i : Nat} {τ : Ty} {xs : List τ.den} (hd : look a i = .frz τ xs) : look b i = .frz τ xs := by
  rcases h i with h1 | ⟨h1, _⟩ | ⟨_, _, _, h1, _⟩
  · exact h1.trans hd
  · rw [hd] at h1; exact (not_alive_frz h1).elim
  · rw [hd] at h1; cases h1

theorem Ev.alive {a b : List (Nat × AV)} (h : Ev a b) {i : Nat} (hd : Alive (look b i)) : look b i = look a i := by
  rcases h i with h1 | ⟨_, h2⟩ | ⟨_, _, _, _, h2⟩
  · exact h1
  · rw [h2] at hd; exact (not_alive_dead hd).elim
  · rw [h2] at hd; exact (not_alive_frz hd).elim

theorem Ev.kill {ob : List (Nat × AV)} {i : Nat} (h : Alive (look ob i)) : Ev ob ((i, .dead) :: ob) := by
  intro j
  by_cases e : i = j
  · subst e; exact .inr (.inl ⟨h, look_eq _ _ _⟩)
  · exact .inl (look_ne _ _ e)

/-- Two stores, the one that values leave and the one that they come into. -/
structure Cond (ob ob' : List (Nat × AV)) (ws : Wr) (os : List (Option Nat)) (c1 c2 : Cx) : Prop where
  dv : ∀ d v, c1.DV d v → c2.DV d v
  okb : ∀ b, c1.okb b → c2.okb b
  world : c2.w = c1.w
  frz : ∀ i τ (xs : List τ.den), look ob' i = .frz τ xs → c1.ob i = .frz τ xs
  old : ∀ i, look ob' i = .dead → Alive (look ob i) → c1.ob i = look ob i
  new : ∀ q ∈ ws.zip os, c2.ob q.1.1 = q.1.2 ∧ c2.mu q.1.1 = q.2.bind c1.mu

structure Moves (cs ys : List AV) (ob ob' : List (Nat × AV)) (ws : Wr) (os : List (Option Nat)) : Prop where
  ev : Ev ob ob'
  len : os.length = ws.length
  alive : ∀ i, some i ∈ os → Alive (look ob i) ∧ look ob' i = .dead
  nodup : (os.filterMap id).Nodup
  rows : ∀ p ∈ ws, Alive p.2
  sends : ∀ c1 c2, Cond ob ob' ws os c1 c2 → (∀ us, VL c1 cs us → VL c2 ys us) ∧ ((∀ i, ObjOK c1 i) → ∀ p ∈ ws, ObjOK c2 p.1)

theorem Moves.nil (ob : List (Nat × AV)) : Moves [] [] ob ob [] [] :=
  ⟨Ev.refl ob, rfl, fun _ h => (by cases h), List.nodup_nil, fun _ h => (by cases h), fun _ _ _ => ⟨fun us h => by rw [VL_nil h]; trivial, fun _ _ h => (by cases h)⟩⟩

theorem Cond.left {ob ob1 ob' : List (Nat × AV)} {ws1 ws2 : Wr} {os1 os2 : List (Option Nat)} {c1 c2 : Cx} (h1 : os1.length = ws1.length) (k : Ev ob1 ob')
    (h : Cond ob ob' (ws1 ++ ws2) (os1 ++ os2) c1 c2) : Cond ob ob1 ws1 os1 c1 c2 := by
  refine ⟨h.dv, h.okb, h.world, fun i τ xs hi => h.frz i τ xs (k.frz hi), fun i hd ha => h.old i (k.dead hd) ha, fun q hq => h.new q ?_⟩
  rw [List.zip_append h1.symm]
  exact List.mem_append_left _ hq

theorem Cond.right {ob ob1 ob' : List (Nat × AV)} {ws1 ws2 : Wr} {os1 os2 : List (Option Nat)} {c1 c2 : Cx} (h1 : os1.length = ws1.length) (k : Ev ob ob1)
    (h : Cond ob ob' (ws1 ++ ws2) (os1 ++ os2) c1 c2) : Cond ob1 ob' ws2 os2 c1 c2 := by
  refine ⟨h.dv, h.okb, h.world, h.frz, fun i hd ha => ?_, fun q hq => h.new q ?_⟩
  · have e := k.alive ha
    rw [e] at ha ⊢
    exact h.old i hd ha
  · rw [List.zip_append h1.symm]
    exact List.mem_append_right _ hq

theorem Moves.append {cs ys cs' ys' : List AV} {ob ob1 ob' : List (Nat × AV)} {ws1 ws2 : Wr} {os1 os2 : List (Option Nat)} (h : Moves cs ys ob ob1 ws1 os1) (k : Moves cs' ys' ob1 ob' ws2 os2) :
    Moves (cs ++ cs') (ys ++ ys') ob ob' (ws1 ++ ws2) (os1 ++ os2) := by
  refine ⟨h.ev.trans k.ev, by simp [h.len, k.len], fun i hi => ?_, ?_, fun p hp => ?_, fun c1 c2 hc => ?_⟩
  · rcases List.mem_append.1 hi with hi | hi
    · obtain ⟨h1, h2⟩ := h.alive i hi
      exact ⟨h1, k.ev.dead h2⟩
    · obtain ⟨h1, h2⟩ := k.alive i hi
      exact ⟨by rw [← h.ev.alive h1]; exact h1, h2⟩
  · rw [List.filterMap_append, List.nodup_append]
    refine ⟨h.nodup, k.nodup, fun x hx y hy e => ?_⟩
    subst e
    have hx : some x ∈ os1 := by simpa using hx
    have hy : some x ∈ os2 := by simpa using hy
    have := (k.alive x hy).1
    rw [(h.alive x hx).2] at this
    exact not_alive_dead this
  · rcases List.mem_append.1 hp with hp | hp
    · exact h.rows p hp
    · exact k.rows p hp
  · obtain ⟨a1, b1⟩ := h.sends c1 c2 (hc.left h.len k.ev)
    obtain ⟨a2, b2⟩ := k.sends c1 c2 (hc.right h.len h.ev)
    refine ⟨fun us hu => ?_, fun ho p hp => ?_⟩
    · obtain ⟨u1, u2, rfl, h1, h2⟩ := hu.split
      exact (a1 _ h1).append (a2 _ h2)
    · rcases List.mem_append.1 hp with hp | hp
      · exact b1 ho p hp
      · exact b2 ho p hp

/-- What is plain leaves as it is. -/
theorem Moves.plain {v x : AV} {ob : List (Nat × AV)} (h : ∀ c1 c2 : Cx, (∀ d v, c1.DV d v → c2.DV d v) → (∀ i τ (xs : List τ.den), look ob i = .frz τ xs → c1.ob i = .frz τ xs) → ∀ u, V c1 v u → V c2 x u) :
    Moves [v] [x] ob ob [] [] :=
  ⟨Ev.refl ob, rfl, fun _ h => (by cases h), List.nodup_nil, fun _ h => (by cases h), fun c1 c2 hc => ⟨fun us hu => by
    obtain ⟨u, us', rfl, h1, h2⟩ := VL_cons hu
    rw [VL_nil h2]
    exact ⟨h c1 c2 hc.dv hc.frz u h1, trivial⟩, fun _ _ h => (by cases h)⟩⟩

/-- What sees only what nobody writes leaves as it is. -/
theorem Moves.kept {v : AV} {ob : List (Nat × AV)} (h : ∀ c1 c2 : Cx, (∀ d v, c1.DV d v → c2.DV d v) → (∀ b, c1.okb b → c2.okb b) → c2.w = c1.w → ∀ u, V c1 v u → V c2 v u) : Moves [v] [v] ob ob [] [] :=
  ⟨Ev.refl ob, rfl, fun _ h => (by cases h), List.nodup_nil, fun _ h => (by cases h), fun c1 c2 hc => ⟨fun us hu => by
    obtain ⟨u, us', rfl, h1, h2⟩ := VL_cons hu
    rw [VL_nil h2]
    exact ⟨h c1 c2 hc.dv hc.okb hc.world u h1, trivial⟩, fun _ _ h => (by cases h)⟩⟩

mutual
theorem frozen_v {c1 c2 : Cx} (hd : ∀ d v, c1.DV d v → c2.DV d v) (hb : ∀ b, c1.okb b → c2.okb b ∧ c2.w.heap[b]? = c1.w.heap[b]?) : ∀ (v : AV) (u : Value), v.frozen = true → V c1 v u → V c2 v u
  | .int _ _, _, _, h => h
  | .bool _, _, _, h => h
  | .str _, _, _, h => h
  | .lst _ _, _, _, h => hd _ _ h
  | .emp, _, _, h => h
  | .cst _, _, _, h => h
  | .fn _ cs, _, hf, ⟨vs, e, h⟩ => ⟨vs, e, frozens_v hd hb cs vs.toList hf h⟩
  | .cptr cs _, _, hf, ⟨b, cur, e, h1, h2, h3, h4⟩ => ⟨b, cur, e, h1, (hb b h2).1, ((hb b h2).2).trans h3, frozens_v hd hb cs cur.toList hf h4⟩
  | .undef, _, hf, _ | .lstn _ _, _, hf, _ | .own _, _, hf, _ | .ownv _ _ _, _, hf, _ | .ptr _ _, _, hf, _ | .eptr _ _ _, _, hf, _ | .lptr _ _ _ _, _, hf, _ | .agg _, _, hf, _ | .tup _, _, hf, _ | .bfn _ _, _, hf, _
  | .ifc _ _, _, hf, _ | .box _, _, hf, _ | .row _ _ _, _, hf, _ | .frz _ _, _, hf, _ | .dead, _, hf, _ => by cases hf
theorem frozens_v {c1 c2 : Cx} (hd : ∀ d v, c1.DV d v → c2.DV d v) (hb : ∀ b, c1.okb b → c2.okb b ∧ c2.w.heap[b]? = c1.w.heap[b]?) : ∀ (vs : List AV) (us : List Value), AV.frozens vs = true → VL c1 vs us → VL c2 vs us
  | [], [], _, h => h
  | [], _ :: _, _, h => h
  | _ :: _, [], _, h => h
  | v :: vs, u :: us, hf, ⟨h1, h2⟩ => by
    simp only [AV.frozens] at hf
    cases hv : v.frozen with
    | false => rw [hv] at hf; cases hf
    | true =>
      rw [hv] at hf
      exact ⟨frozen_v hd hb v u hv h1, frozens_v hd hb vs us hf h2⟩
end

theorem DVs_to {c1 c2 : Cx} (h : ∀ d v, c1.DV d v → c2.DV d v) : ∀ {ds : List D} {vs : List Value}, c1.DVs ds vs → c2.DVs ds vs
  | [], [], _ => trivial
  | _ :: _, _ :: _, ⟨a, b⟩ => ⟨h _ _ a, DVs_to h b⟩

theorem expoCell_moves {κ : Kd} {v x : AV} {ob ob' : List (Nat × AV)} (h : expoCell κ v ob = some (x, ob')) (id : Nat) :
    ∃ os, Moves [v] [(impCell id x).1] ob ob' (impCell id x).2.1 os := by
  unfold expoCell at h
  split at h
  · rename_i e τ
    split at h
    · rename_i i
      split at h
      · rename_i e' ρ xs hl
        split at h
        case h_2 => cases h
        rename_i hh _
        cases hb : Nat.beq e' e with
        | false => rw [hb] at h; cases h
        | true =>
        rw [hb] at h
        have hb := Nat.eq_of_beq_eq_true hb
        subst hh hb
        simp only [cond_true, Option.some.injEq, Prod.mk.injEq] at h
        obtain ⟨rfl, rfl⟩ := h
        have ha : Alive (look ob i) := .inl ⟨_, _, _, hl⟩
        refine ⟨[some i], Ev.kill ha, rfl, fun j hj => ?_, by simp, fun p hp => ?_, fun c1 c2 hc => ?_⟩
        · simp only [List.mem_singleton, Option.some.injEq] at hj
          subst hj
          exact ⟨ha, look_eq _ _ _⟩
        · simp only [impCell, List.mem_singleton] at hp
          subst hp; exact .inl ⟨_, _, _, rfl⟩
        · have ho := hc.old i (look_eq _ _ _) ha
          rw [hl] at ho
          obtain ⟨hn1, hn2⟩ := hc.new ((id, .row e' ρ xs), some i) (by simp [impCell])
          simp only [Option.bind_some] at hn1 hn2
          refine ⟨fun us hu => ?_, fun hob p hp => ?_⟩
          · obtain ⟨u, us', rfl, h1, h2⟩ := VL_cons hu
            rw [VL_nil h2]
            refine ⟨?_, trivial⟩
            have h1 : OwnV c1 i u := h1
            show OwnV c2 id u
            unfold OwnV at h1 ⊢
            rw [ho] at h1
            rw [hn1]
            simp only at h1 ⊢
            rw [hn2]
            unfold RowAt at h1 ⊢
            rw [hc.world]
            exact h1
          · simp only [impCell, List.mem_singleton] at hp
            subst hp
            have h1 := hob i
            unfold ObjOK at h1 ⊢
            rw [ho] at h1
            rw [hn1]
            simp only at h1 ⊢
            rw [hn2]
            unfold RowAt at h1 ⊢
            rw [hc.world]
            rcases h1 with h1 | ⟨b, cap, cur, k1, k2, k3, k4, k5⟩
            · exact .inl h1
            · exact .inr ⟨b, cap, cur, k1, k2, k3, k4, DVs_to hc.dv k5⟩
      · cases h
    · simp only [Option.some.injEq, Prod.mk.injEq] at h
      obtain ⟨rfl, rfl⟩ := h
      refine ⟨[none], Ev.refl _, rfl, fun j hj => ?_, by simp, fun p hp => ?_, fun c1 c2 hc => ?_⟩
      · simp at hj
      · simp only [impCell, List.mem_singleton] at hp
        subst hp; exact .inl ⟨_, _, _, rfl⟩
      · obtain ⟨hn1, hn2⟩ := hc.new ((id, .row e τ []), none) (by simp [impCell])
        simp only [Option.bind_none] at hn1 hn2
        refine ⟨fun us hu => ?_, fun hob p hp => ?_⟩
        · obtain ⟨u, us', rfl, h1, h2⟩ := VL_cons hu
          rw [VL_nil h2]
          refine ⟨?_, trivial⟩
          simp only [V] at h1
          show OwnV c2 id u
          unfold OwnV
          rw [hn1]
          exact .inl ⟨hn2, rfl, none, h1⟩
        · simp only [impCell, List.mem_singleton] at hp
          subst hp
          unfold ObjOK
          rw [hn1]
          exact .inl ⟨hn2, rfl⟩
    · cases h
  · rename_i τ
    split at h
    · rename_i i
      split at h
      · rename_i e' ρ xs hl
        split at h
        case h_2 => cases h
        rename_i hh _
        subst hh
        simp only [Option.some.injEq, Prod.mk.injEq] at h
        obtain ⟨rfl, rfl⟩ := h
        have hev : Ev ob ((i, .frz ρ xs) :: ob) := by
          intro j
          by_cases e : i = j
          · subst e; exact .inr (.inr ⟨_, _, _, hl, look_eq _ _ _⟩)
          · exact .inl (look_ne _ _ e)
        refine ⟨[], hev, rfl, fun _ h => (by cases h), List.nodup_nil, fun _ h => (by cases h), fun c1 c2 hc => ⟨fun us hu => ?_, fun _ _ h => (by cases h)⟩⟩
        obtain ⟨u, us', rfl, h1, h2⟩ := VL_cons hu
        rw [VL_nil h2]
        refine ⟨hc.dv _ _ ?_, trivial⟩
        have h1 : OwnV c1 i u := h1
        unfold OwnV at h1
        rw [hc.frz i ρ xs (look_eq _ _ _)] at h1
        exact h1
      · rename_i ρ xs hl
        split at h
        case h_2 => cases h
        rename_i hh _
        subst hh
        simp only [Option.some.injEq, Prod.mk.injEq] at h
        obtain ⟨rfl, rfl⟩ := h
        refine ⟨[], Moves.plain fun c1 c2 hd hf u h1 => hd _ _ ?_⟩
        have h1 : OwnV c1 i u := h1
        unfold OwnV at h1
        rw [hf i ρ xs hl] at h1
        exact h1
      · cases h
    · split at h
      case h_2 => cases h
      rename_i hh _
      subst hh
      simp only [Option.some.injEq, Prod.mk.injEq] at h
      obtain ⟨rfl, rfl⟩ := h
      exact ⟨[], Moves.plain fun c1 c2 hd hf u h1 => hd _ _ h1⟩
    · simp only [Option.some.injEq, Prod.mk.injEq] at h
      obtain ⟨rfl, rfl⟩ := h
      refine ⟨[], Moves.plain fun c1 c2 hd hf u h1 => ?_⟩
      simp only [V] at h1
      subst h1
      exact DV.nil _ _ _ (fun _ => rfl)
    · cases h
  · split at h <;> first
      | (cases h; done)
      | (simp only [Option.some.injEq, Prod.mk.injEq] at h
         obtain ⟨rfl, rfl⟩ := h
         exact ⟨[], Moves.plain fun c1 c2 hd hf u h1 => by simpa only [impCell, V] using h1⟩)
      | (simp only [Option.some.injEq, Prod.mk.injEq] at h
         obtain ⟨rfl, rfl⟩ := h
         refine ⟨[], Moves.plain fun c1 c2 hd hf u h1 => ?_⟩
         obtain ⟨vs, e, hv⟩ := h1
         exact ⟨vs, e, by rw [VL_nil hv]; trivial⟩)
  · rename_i f
    split at h
    · rename_i g
      cases hb : Nat.beq g f with
      | false => rw [hb] at h; cases h
      | true =>
        rw [hb] at h
        have hb := Nat.eq_of_beq_eq_true hb
        subst hb
        simp only [cond_true, Option.some.injEq, Prod.mk.injEq] at h
        obtain ⟨rfl, rfl⟩ := h
        refine ⟨[], Moves.plain fun c1 c2 hd hf u h1 => ?_⟩
        obtain ⟨vs, e, hv⟩ := h1
        exact ⟨vs, e, by rw [VL_nil hv]; trivial⟩
    · cases h
  · cases h
  · split at h
    · rename_i f cs
      cases hb : AV.frozens cs with
      | false => rw [hb] at h; cases h
      | true =>
        rw [hb] at h
        simp only [cond_true, Option.some.injEq, Prod.mk.injEq] at h
        obtain ⟨rfl, rfl⟩ := h
        exact ⟨[], Moves.kept fun c1 c2 hd ho hw u h1 => frozen_v hd (fun b h => ⟨ho b h, by rw [hw]⟩) (.fn f cs) u hb h1⟩
    · cases h
  · cases h

theorem expoCells_moves : ∀ {ks : List Kd} {vs xs : List AV} {ob ob' : List (Nat × AV)}, expoCells ks vs ob = some (xs, ob') → ∀ id, ∃ os, Moves vs (impCells id xs).1 ob ob' (impCells id xs).2.1 os
  | [], [], xs, ob, ob', h, id => by
    simp only [expoCells, Option.some.injEq, Prod.mk.injEq] at h
    obtain ⟨rfl, rfl⟩ := h
    exact ⟨[], Moves.nil _⟩
  | κ :: ks, v :: vs, xs, ob, ob', h, id => by
    simp only [expoCells] at h
    split at h
    case h_2 => cases h
    rename_i x ob1 h1
    split at h
    case h_2 => cases h
    rename_i xs' ob2 h2
    simp only [Option.some.injEq, Prod.mk.injEq] at h
    obtain ⟨rfl, rfl⟩ := h
    obtain ⟨os1, m1⟩ := expoCell_moves h1 id
    obtain ⟨os2, m2⟩ := expoCells_moves h2 (impCell id x).2.2
    exact ⟨os1 ++ os2, m1.append m2⟩
  | [], _ :: _, _, _, _, h, _ => by simp [expoCells] at h
  | _ :: _, [], _, _, _, h, _ => by simp [expoCells] at h

theorem Moves.agg {cs ys : List AV} {ob ob' : List (Nat × AV)} {ws : Wr} {os : List (Option Nat)} (h : Moves cs ys ob ob' ws os) : Moves [.agg cs] [.agg ys] ob ob' ws os :=
  ⟨h.ev, h.len, h.alive, h.nodup, h.rows, fun c1 c2 hc => ⟨fun us hu => by
    obtain ⟨u, us', rfl, h1, h2⟩ := VL_cons hu
    rw [VL_nil h2]
    obtain ⟨vs, e, hv⟩ := h1
    exact ⟨⟨vs, e, (h.sends c1 c2 hc).1 _ hv⟩, trivial⟩, (h.sends c1 c2 hc).2⟩⟩

theorem Moves.tup {cs ys : List AV} {ob ob' : List (Nat × AV)} {ws : Wr} {os : List (Option Nat)} (h : Moves cs ys ob ob' ws os) : Moves [.tup cs] [.tup ys] ob ob' ws os :=
  ⟨h.ev, h.len, h.alive, h.nodup, h.rows, fun c1 c2 hc => ⟨fun us hu => by
    obtain ⟨u, us', rfl, h1, h2⟩ := VL_cons hu
    rw [VL_nil h2]
    obtain ⟨vs, e, hv⟩ := h1
    exact ⟨⟨vs, e, (h.sends c1 c2 hc).1 _ hv⟩, trivial⟩, (h.sends c1 c2 hc).2⟩⟩

theorem Moves.box {i n : Nat} {cs ys : List AV} {ob ob' : List (Nat × AV)} {ws : Wr} {os : List (Option Nat)} (hl : look ob i = .box cs) (h : Moves cs ys ((i, .dead) :: ob) ob' ws os) :
    Moves [.ptr i 0] [.ptr n 0] ob ob' ((n, .box ys) :: ws) (some i :: os) := by
  have ha : Alive (look ob i) := .inr ⟨_, hl⟩
  have hk := Ev.kill ha
  have hdead : look ob' i = .dead := h.ev.dead (look_eq _ _ _)
  refine ⟨hk.trans h.ev, by simp [h.len], fun j hj => ?_, ?_, fun p hp => ?_, fun c1 c2 hc => ?_⟩
  · rcases List.mem_cons.1 hj with hj | hj
    · obtain rfl := Option.some.inj hj
      exact ⟨ha, hdead⟩
    · obtain ⟨h1, h2⟩ := h.alive j hj
      exact ⟨by rw [← hk.alive h1]; exact h1, h2⟩
  · rw [show (some i :: os).filterMap id = i :: os.filterMap id from rfl, List.nodup_cons]
    refine ⟨fun hm => ?_, h.nodup⟩
    have hm : some i ∈ os := by simpa using hm
    have := (h.alive i hm).1
    rw [look_eq] at this
    exact not_alive_dead this
  · rcases List.mem_cons.1 hp with rfl | hp
    · exact .inr ⟨_, rfl⟩
    · exact h.rows p hp
  · have hc' : Cond ((i, .dead) :: ob) ob' ws os c1 c2 := hc.right (ws1 := [(n, .box ys)]) (os1 := [some i]) rfl hk
    obtain ⟨a1, b1⟩ := h.sends c1 c2 hc'
    have ho := hc.old i hdead ha
    rw [hl] at ho
    obtain ⟨hn1, hn2⟩ := hc.new ((n, .box ys), some i) (by simp)
    simp only [Option.bind_some] at hn1 hn2
    refine ⟨fun us hu => ?_, fun hob p hp => ?_⟩
    · obtain ⟨u, us', rfl, h1, h2⟩ := VL_cons hu
      rw [VL_nil h2]
      refine ⟨?_, trivial⟩
      have h1 : PtrV c1 i 0 u := h1
      show PtrV c2 n 0 u
      unfold PtrV at h1 ⊢
      rw [ho] at h1
      rw [hn1]
      simp only at h1 ⊢
      rw [hn2]
      exact h1
    · rcases List.mem_cons.1 hp with rfl | hp
      · have h1 := hob i
        unfold ObjOK at h1 ⊢
        rw [ho] at h1
        rw [hn1]
        simp only at h1 ⊢
        rw [hn2, hc.world]
        obtain ⟨b, cur, e, k1, k2, k3⟩ := h1
        exact ⟨b, cur, e, k1, k2, a1 _ k3⟩
      · exact b1 hob p hp

end Go.Proofs.Mill

/- A store that holds only what was taken along. -/
namespace Go.Proofs.Mill
open Go.RowKit

theorem look_mem : ∀ (ob : List (Nat × AV)) (i : Nat), look ob i ≠ .undef → ∃ p ∈ ob, p.1 = i
  | [], i, h => (h rfl).elim
  | (j, o) :: ob, i, h => by
    by_cases e : j = i
    · exact ⟨(j, o), by simp, e⟩
    · rw [look_ne _ _ e] at h
      obtain ⟨p, hp, he⟩ := look_mem ob i h
      exact ⟨p, by simp [hp], he⟩

/-- What was only lent is frozen. -/
theorem ev_freeze {w0 w : World} {ob ob' : List (Nat × AV)} {mu : Nat → Option Nat} {ok : Nat → Prop} (hm : Mem w0 (cx w ob mu ok)) (hev : Ev ob ob') :
    ∃ ob1 mu1, Mem w0 (cx w ob1 mu1 ok) ∧ Mono (cx w ob mu ok) (cx w ob1 mu1 ok) ∧ (∀ i τ (xs : List τ.den), look ob' i = .frz τ xs → look ob1 i = .frz τ xs) ∧
      (∀ i, look ob' i = .dead → look ob1 i = look ob i) := by
  let ws : Wr := ob'.filterMap fun p => match look ob p.1, look ob' p.1 with | .row _ _ _, .frz τ xs => some (p.1, .frz τ xs) | _, _ => none
  have hmem : ∀ p ∈ ws, ∃ e τ, ∃ xs : List τ.den, look ob p.1 = .row e τ xs ∧ look ob' p.1 = .frz τ xs ∧ p.2 = .frz τ xs := by
    intro p hp
    obtain ⟨q, hq, hqp⟩ := List.mem_filterMap.1 hp
    rcases hev q.1 with h1 | ⟨_, h2⟩ | ⟨e, τ, xs, h1, h2⟩
    · rw [h1] at hqp
      cases hl : look ob q.1 <;> rw [hl] at hqp <;> cases hqp
    · rw [h2] at hqp
      cases hl : look ob q.1 <;> rw [hl] at hqp <;> cases hqp
    · rw [h1, h2] at hqp
      simp only [Option.some.injEq] at hqp
      subst hqp
      exact ⟨e, τ, xs, h1, h2, rfl⟩
  have hfz : Fz ob ws := fun p hp => by
    obtain ⟨e, τ, xs, h1, _, h3⟩ := hmem p hp
    exact ⟨e, τ, xs, h1, h3⟩
  obtain ⟨mu1, hm1, hmono, hws, hothers⟩ := freezeAll hfz hm
  refine ⟨appOb ws ob, mu1, hm1, hmono, fun i τ xs hi => ?_, fun i hi => ?_⟩
  · rcases hev i with h1 | ⟨_, h2⟩ | ⟨e, σ, ys, h1, h2⟩
    · by_cases hin : ∃ p ∈ ws, p.1 = i
      · obtain ⟨p, hp, rfl⟩ := hin
        obtain ⟨e, σ, ys, k1, k2, k3⟩ := hmem p hp
        rw [h1, k1] at k2
        cases k2
      · rw [(hothers i fun p hp e => hin ⟨p, hp, e⟩).1, ← h1]
        exact hi
    · rw [hi] at h2; cases h2
    · rw [hi] at h2
      obtain ⟨p, hp, he⟩ := look_mem ob' i (by rw [hi]; intro h; cases h)
      have : (i, AV.frz τ xs) ∈ ws := by
        refine List.mem_filterMap.2 ⟨p, hp, ?_⟩
        rw [he, h1, hi]
      exact hws _ this
  · refine (hothers i fun p hp e => ?_).1
    obtain ⟨_, _, _, _, k2, _⟩ := hmem p hp
    rw [e, hi] at k2
    cases k2

theorem zip_find {ws : Wr} {os : List (Option Nat)} (hn : (ws.map (·.1)).Nodup) (hl : os.length = ws.length) (q : (Nat × AV) × Option Nat) (hq : q ∈ ws.zip os) :
    (ws.zip os).find? (fun x => x.1.1 == q.1.1) = some q := by
  induction ws generalizing os with
  | nil => simp at hq
  | cons p ws ih =>
    cases os with
    | nil => simp at hl
    | cons o os =>
      simp only [List.map_cons, List.nodup_cons] at hn
      rw [List.zip_cons_cons] at hq ⊢
      rcases List.mem_cons.1 hq with rfl | hq'
      · simp
      · have hne : p.1 ≠ q.1.1 := by
          intro e
          apply hn.1
          rw [e]
          exact List.mem_map.2 ⟨q.1, (List.of_mem_zip hq').1, rfl⟩
        rw [List.find?_cons_of_neg (by simpa using hne)]
        exact ih hn.2 (by simpa using hl) hq'

/-- **What was taken out, in a store of its own.** -/
theorem moves_mem {w0 w : World} {ob ob' ob2 : List (Nat × AV)} {mu : Nat → Option Nat} {ok : Nat → Prop} {cs ys : List AV} {ws : Wr} {os : List (Option Nat)}
    (hm : Mem w0 (cx w ob mu ok)) (h : Moves cs ys ob ob' ws os) (hn : (ws.map (·.1)).Nodup) (h2 : ∀ p ∈ ws, look ob2 p.1 = p.2) (h3 : ∀ i, (∀ p ∈ ws, p.1 ≠ i) → look ob2 i = .undef) :
    ∃ mu2, Mem w0 (cx w ob2 mu2 ok) ∧ (∀ us, VL (cx w ob mu ok) cs us → VL (cx w ob2 mu2 ok) ys us) ∧ ∀ b, (cx w ob mu ok).okb b → (cx w ob2 mu2 ok).okb b := by
  obtain ⟨ob1, mu1, hm1, hmono, hfrz, hdead⟩ := ev_freeze hm h.ev
  let mu2 : Nat → Option Nat := fun i => match (ws.zip os).find? (fun x => x.1.1 == i) with | some q => q.2.bind mu1 | none => none
  have hin : ∀ q ∈ ws.zip os, mu2 q.1.1 = q.2.bind mu1 := by
    intro q hq
    show (match (ws.zip os).find? (fun x => x.1.1 == q.1.1) with | some q => q.2.bind mu1 | none => none) = _
    rw [zip_find hn h.len q hq]
  have hof : ∀ i b, mu2 i = some b → ∃ q ∈ ws.zip os, q.1.1 = i ∧ ∃ j, q.2 = some j ∧ mu1 j = some b := by
    intro i b hb
    have hb : (match (ws.zip os).find? (fun x => x.1.1 == i) with | some q => q.2.bind mu1 | none => none) = some b := hb
    cases hf : (ws.zip os).find? (fun x => x.1.1 == i) with
    | none => rw [hf] at hb; cases hb
    | some q =>
      rw [hf] at hb
      have hq := List.mem_of_find?_eq_some hf
      have he := List.find?_some hf
      cases hq2 : q.2 with
      | none => simp only [hq2, Option.bind_none] at hb; cases hb
      | some j =>
        simp only [hq2, Option.bind_some] at hb
        exact ⟨q, hq, by simpa using he, j, hq2, hb⟩
  have hnone : ∀ i, (∀ p ∈ ws, p.1 ≠ i) → mu2 i = none := by
    intro i hi
    cases hb : mu2 i with
    | none => rfl
    | some b =>
      obtain ⟨q, hq, he, _⟩ := hof i b hb
      exact (hi q.1 (List.of_mem_zip hq).1 he).elim
  have hokb : ∀ b, (cx w ob1 mu1 ok).okb b → (cx w ob2 mu2 ok).okb b := by
    intro b hb
    refine ⟨hb.1, hb.2.1, fun i e => ?_⟩
    obtain ⟨_, _, _, j, _, hj⟩ := hof i b e
    exact hb.2.2 j hj
  have hc : Cond ob ob' ws os (cx w ob1 mu1 ok) (cx w ob2 mu2 ok) := by
    refine ⟨fun d v hd => DV.mono hokb (fun _ _ => rfl) hd, hokb, rfl, fun i τ xs hi => hfrz i τ xs hi, fun i hd _ => hdead i hd, fun q hq => ⟨h2 q.1 (List.of_mem_zip hq).1, hin q hq⟩⟩
  obtain ⟨s1, s2⟩ := h.sends _ _ hc
  refine ⟨mu2, ⟨fun i => ?_, fun i j b hi hj => ?_, fun i b hi => ?_, hm1.ext, hm.okn⟩, fun us hu => s1 us (hmono.vl _ _ hu), fun b hb => hokb b (hmono.blk b hb).1⟩
  · by_cases hi : ∃ p ∈ ws, p.1 = i
    · obtain ⟨p, hp, rfl⟩ := hi
      exact s2 hm1.obj p hp
    · have hi' : ∀ p ∈ ws, p.1 ≠ i := fun p hp e => hi ⟨p, hp, e⟩
      unfold ObjOK
      rw [show (cx w ob2 mu2 ok).ob i = .undef from h3 i hi']
      exact hnone i hi'
  · obtain ⟨q, hq, rfl, a, ha, hma⟩ := hof i b hi
    obtain ⟨q', hq', rfl, a', ha', hma'⟩ := hof j b hj
    have haa : a = a' := hm1.inj a a' b hma hma'
    subst haa
    have key : ∀ {ws : Wr} {os : List (Option Nat)}, (os.filterMap id).Nodup → ∀ {q q' : (Nat × AV) × Option Nat}, q ∈ ws.zip os → q' ∈ ws.zip os → q.2 = some a → q'.2 = some a → q.1.1 = q'.1.1 := by
      intro ws
      induction ws with
      | nil => intro os _ q q' hq; simp at hq
      | cons p ws ih =>
        intro os hnd q q' hq hq' h1 h2
        cases os with
        | nil => simp at hq
        | cons o os =>
          rw [List.zip_cons_cons] at hq hq'
          have tail : (os.filterMap id).Nodup := by
            cases o with
            | none => simpa using hnd
            | some o => simp only [List.filterMap_cons, id_eq, List.nodup_cons] at hnd; exact hnd.2
          have no : o = some a → ∀ {x : (Nat × AV) × Option Nat}, x ∈ ws.zip os → x.2 = some a → False := by
            intro ho x hx hxa
            subst ho
            simp only [List.filterMap_cons, id_eq, List.nodup_cons] at hnd
            apply hnd.1
            have := (List.of_mem_zip hx).2
            rw [hxa] at this
            simpa using this
          rcases List.mem_cons.1 hq with rfl | hq
          · rcases List.mem_cons.1 hq' with rfl | hq'
            · rfl
            · exact (no h1 hq' h2).elim
          · rcases List.mem_cons.1 hq' with rfl | hq'
            · exact (no h2 hq h1).elim
            · exact ih tail hq hq' h1 h2
    exact key h.nodup hq hq' ha ha'
  · obtain ⟨_, _, _, j, _, hj⟩ := hof i b hi
    exact hm1.base j b hj

theorem apartN_nodup : ∀ (ob : List (Nat × AV)), apartN ob = true → (ob.map (·.1)).Nodup
  | [], _ => by simp
  | p :: r, h => by
    unfold apartN at h
    cases hc : (r.all fun q => !(Nat.beq p.1 q.1)) with
    | false => rw [hc] at h; cases h
    | true =>
      rw [hc] at h
      rw [List.map_cons, List.nodup_cons]
      refine ⟨fun hm => ?_, apartN_nodup r h⟩
      obtain ⟨q, hq, he⟩ := List.mem_map.1 hm
      have := List.all_eq_true.1 hc q hq
      rw [he] at this
      simp at this

theorem look_list_in : ∀ (ob : List (Nat × AV)), (ob.map (·.1)).Nodup → ∀ p ∈ ob, look ob p.1 = p.2
  | [], _, _, h => by cases h
  | q :: ob, hn, p, h => by
    simp only [List.map_cons, List.nodup_cons] at hn
    rcases List.mem_cons.1 h with rfl | h
    · exact look_eq _ _ _
    · rw [look_ne _ _ (fun e => hn.1 (by rw [e]; exact List.mem_map.2 ⟨p, h, rfl⟩))]
      exact look_list_in ob hn.2 p h

theorem look_list_out (ob : List (Nat × AV)) (i : Nat) (h : ∀ p ∈ ob, p.1 ≠ i) : look ob i = .undef := by
  apply Classical.byContradiction
  intro hne
  obtain ⟨p, hp, he⟩ := look_mem ob i hne
  exact h p hp he

theorem expoCell_slot {κ : Kd} {v x : AV} {ob ob' : List (Nat × AV)} (h : expoCell κ v ob = some (x, ob')) (id : Nat) :
    (impSlot id x).1 = (impCell id x).1 ∧ (impSlot id x).2 = (impCell id x).2.1 := by
  unfold expoCell at h
  repeat' (split at h)
  all_goals first
    | (cases h; done)
    | (simp only [Option.some.injEq, Prod.mk.injEq] at h; obtain ⟨rfl, _⟩ := h; exact ⟨rfl, rfl⟩)
    | (generalize Nat.beq _ _ = b at h
       cases b
       · cases h
       · simp only [cond_true, Option.some.injEq, Prod.mk.injEq] at h; obtain ⟨rfl, _⟩ := h; exact ⟨rfl, rfl⟩)
    | (generalize AV.frozens _ = b at h
       cases b
       · cases h
       · simp only [cond_true, Option.some.injEq, Prod.mk.injEq] at h; obtain ⟨rfl, _⟩ := h; exact ⟨rfl, rfl⟩)

theorem expoSlot_moves {κ : Kd} {v x : AV} {ob ob' : List (Nat × AV)} (h : expoSlot κ v ob = some (x, ob')) (id : Nat) :
    ∃ os, Moves [v] [(impSlot id x).1] ob ob' (impSlot id x).2 os := by
  unfold expoSlot at h
  split at h
  · rename_i ks
    split at h
    · rename_i i
      split at h
      case h_2 => cases h
      rename_i cs hl
      split at h
      case h_2 => cases h
      rename_i xs ob1 hx
      simp only [Option.some.injEq, Prod.mk.injEq] at h
      obtain ⟨rfl, rfl⟩ := h
      obtain ⟨os, m⟩ := expoCells_moves hx (id + 1)
      exact ⟨some i :: os, m.box hl⟩
    · split at h
      case h_2 => cases h
      rename_i xs ob1 hx
      simp only [Option.some.injEq, Prod.mk.injEq] at h
      obtain ⟨rfl, rfl⟩ := h
      obtain ⟨os, m⟩ := expoCells_moves hx (id + 1)
      exact ⟨os, m.agg⟩
    · cases h
  · obtain ⟨os, m⟩ := expoCell_moves h id
    have hx := expoCell_slot h id
    rw [hx.1, hx.2]
    exact ⟨os, m⟩

end Go.Proofs.Mill

/- A value, and what it sees, becomes what nobody writes. -/
namespace Go.Proofs.Mill
variable {ds : List Deferred}
open Go.RowKit

section
variable {V : Env} {J : Cx → Prop} {w0 w : World} {ok : Nat → Prop} {nt : Nat} {σ : St} {a : Act}

/-- An object that is given up. -/
theorem mem_kill {ob : List (Nat × AV)} {mu : Nat → Option Nat} {id : Nat} (h : Mem w0 (cx w ob mu ok)) :
    Mem w0 (cx w ((id, .dead) :: ob) (upd mu id none) ok) ∧ Mono (cx w ob mu ok) (cx w ((id, .dead) :: ob) (upd mu id none) ok) := by
  have hmu : ∀ j b, upd mu id none j = some b → mu j = some b := by
    intro j b hj
    unfold upd at hj
    split at hj
    · cases hj
    · exact hj
  have hmono : Mono (cx w ob mu ok) (cx w ((id, .dead) :: ob) (upd mu id none) ok) := by
    refine mono_of (fun b hb => ⟨⟨hb.1, hb.2.1, fun j e => hb.2.2 j (hmu j b e)⟩, rfl⟩) (fun j => ?_)
    by_cases e : id = j
    · subst e; exact .inr (.inl (look_eq _ _ _))
    · exact .inr (.inr (.inl ⟨look_ne _ _ e, upd_ne _ _ (Ne.symm e), fun _ _ => rfl⟩))
  refine ⟨⟨fun j => ?_, fun i j b hi hj => h.inj i j b (hmu i b hi) (hmu j b hj), fun i b hi => h.base i b (hmu i b hi), h.ext, h.okn⟩, hmono⟩
  by_cases e : id = j
  · subst e
    unfold ObjOK
    rw [show (cx w ((id, .dead) :: ob) (upd mu id none) ok).ob id = .dead from look_eq _ _ _]
    exact upd_eq _ _ _
  · exact (h.obj j).keep hmono (look_ne _ _ e) (upd_ne _ _ (Ne.symm e)) (fun _ _ => rfl)

/-- What a value becomes. -/
def Frz (w0 w : World) (ok : Nat → Prop) (ob ob' : List (Nat × AV)) (P Q : Cx → Prop) : Prop :=
  ∀ mu, Mem w0 (cx w ob mu ok) → P (cx w ob mu ok) → ∃ mu', Mem w0 (cx w ob' mu' ok) ∧ Mono (cx w ob mu ok) (cx w ob' mu' ok) ∧ Q (cx w ob' mu' ok)

theorem freezeL_ok {g : AV → List (Nat × AV) → Option (AV × List (Nat × AV))}
    (hg : ∀ v ob x ob' u, g v ob = some (x, ob') → x.frozen = true ∧ Frz w0 w ok ob ob' (fun c => Mill.V c v u) (fun c => Mill.V c x u)) :
    ∀ (vs : List AV) (ob : List (Nat × AV)) (xs : List AV) (ob' : List (Nat × AV)) (us : List Value), freezeL g vs ob = some (xs, ob') → AV.frozens xs = true ∧ Frz w0 w ok ob ob' (fun c => VL c vs us) (fun c => VL c xs us)
  | [], ob, xs, ob', us, h => by
    simp only [freezeL, Option.some.injEq, Prod.mk.injEq] at h
    obtain ⟨rfl, rfl⟩ := h
    exact ⟨rfl, fun mu hm hv => ⟨mu, hm, Mono.refl _, hv⟩⟩
  | v :: vs, ob, xs, ob', us, h => by
    simp only [freezeL] at h
    split at h
    case h_2 => cases h
    rename_i x ob1 h1
    split at h
    case h_2 => cases h
    rename_i ys ob2 h2
    simp only [Option.some.injEq, Prod.mk.injEq] at h
    obtain ⟨rfl, rfl⟩ := h
    cases us with
    | nil =>
      have hx := (hg v ob x ob1 undef h1).1
      have hys := (freezeL_ok hg vs ob1 ys ob2 [] h2).1
      refine ⟨by simp only [AV.frozens, hx, cond_true]; exact hys, fun mu hm hv => hv.elim⟩
    | cons u us =>
      obtain ⟨hx, f1⟩ := hg v ob x ob1 u h1
      obtain ⟨hys, f2⟩ := freezeL_ok hg vs ob1 ys ob2 us h2
      refine ⟨by simp only [AV.frozens, hx, cond_true]; exact hys, fun mu hm hv => ?_⟩
      obtain ⟨mu1, m1, o1, v1⟩ := f1 mu hm hv.1
      obtain ⟨mu2, m2, o2, v2⟩ := f2 mu1 m1 (o1.vl _ _ hv.2)
      exact ⟨mu2, m2, o1.trans o2, o2.v _ _ v1, v2⟩

theorem freezeV_ok : ∀ (d : Nat) (v : AV) (ob : List (Nat × AV)) (x : AV) (ob' : List (Nat × AV)) (u : Value), freezeV d v ob = some (x, ob') →
    x.frozen = true ∧ Frz w0 w ok ob ob' (fun c => Mill.V c v u) (fun c => Mill.V c x u)
  | 0, _, _, _, _, _, h => by cases h
  | d + 1, v, ob, x, ob', u, h => by
    have same : ∀ {y : AV}, y.frozen = true → some (y, ob) = some (x, ob') → v = y → x.frozen = true ∧ Frz w0 w ok ob ob' (fun c => Mill.V c v u) (fun c => Mill.V c x u) := by
      intro y hy h e
      simp only [Option.some.injEq, Prod.mk.injEq] at h
      obtain ⟨rfl, rfl⟩ := h
      subst e
      exact ⟨hy, fun mu hm hv => ⟨mu, hm, Mono.refl _, hv⟩⟩
    unfold freezeV at h
    split at h
    · rename_i id off
      split at h
      case h_2 => cases h
      rename_i cs hl
      split at h
      case h_2 => cases h
      rename_i xs ob1 hx
      simp only [Option.some.injEq, Prod.mk.injEq] at h
      obtain ⟨rfl, rfl⟩ := h
      refine ⟨(freezeL_ok (w0 := w0) (w := w) (ok := ok) (freezeV_ok d) cs _ xs ob1 [] hx).1, fun mu hm hv => ?_⟩
      have hob := hm.obj id
      unfold ObjOK at hob
      have hv : PtrV (cx w ob mu ok) id off u := hv
      unfold PtrV at hv
      rw [show (cx w ob mu ok).ob id = .box cs from hl] at hob hv
      obtain ⟨b, cur, e, h1, h2, h3⟩ := hob
      obtain ⟨b', h1', rfl⟩ := hv
      rw [h1] at h1'
      obtain rfl := Option.some.inj h1'
      obtain ⟨m1, o1⟩ := mem_kill (id := id) hm
      obtain ⟨mu2, m2, o2, v2⟩ := (freezeL_ok (w0 := w0) (w := w) (ok := ok) (freezeV_ok d) cs _ xs ob1 cur.toList hx).2 _ m1 (o1.vl _ _ h3)
      have hob1 : (cx w ((id, .dead) :: ob) (upd mu id none) ok).okb b := by
        refine ⟨hm.okn b (hm.base id b h1), hm.lt h1, fun j e => ?_⟩
        have e : upd mu id none j = some b := e
        by_cases hj : j = id
        · subst hj
          rw [upd_eq] at e
          cases e
        · rw [upd_ne _ _ hj] at e
          exact hj (hm.inj j id b e h1)
      exact ⟨mu2, m2, o1.trans o2, b, cur, e, rfl, (o2.blk b hob1).1, h2, v2⟩
    · rename_i f cs
      split at h
      case h_2 => cases h
      rename_i xs ob1 hx
      simp only [Option.some.injEq, Prod.mk.injEq] at h
      obtain ⟨rfl, rfl⟩ := h
      refine ⟨(freezeL_ok (w0 := w0) (w := w) (ok := ok) (freezeV_ok d) cs _ xs ob1 [] hx).1, fun mu hm hv => ?_⟩
      obtain ⟨vs, rfl, hv⟩ := hv
      obtain ⟨mu2, m2, o2, v2⟩ := (freezeL_ok (w0 := w0) (w := w) (ok := ok) (freezeV_ok d) cs _ xs ob1 vs.toList hx).2 _ hm hv
      exact ⟨mu2, m2, o2, vs, rfl, v2⟩
    · rename_i id
      split at h
      · rename_i e τ xs hl
        simp only [Option.some.injEq, Prod.mk.injEq] at h
        obtain ⟨rfl, rfl⟩ := h
        refine ⟨rfl, fun mu hm hv => ?_⟩
        obtain ⟨mu1, m1, o1, hws, _⟩ := freezeAll (ws := [(id, .frz τ xs)]) (fun p hp => by
          simp only [List.mem_singleton] at hp
          subst hp
          exact ⟨e, τ, xs, hl, rfl⟩) hm
        refine ⟨mu1, m1, o1, ?_⟩
        have := o1.own id u hv
        unfold OwnV at this
        rw [show (cx w (appOb [(id, AV.frz τ xs)] ob) mu1 ok).ob id = .frz τ xs from look_eq _ _ _] at this
        exact this
      · rename_i τ xs hl
        simp only [Option.some.injEq, Prod.mk.injEq] at h
        obtain ⟨rfl, rfl⟩ := h
        refine ⟨rfl, fun mu hm hv => ⟨mu, hm, Mono.refl _, ?_⟩⟩
        have hv : OwnV (cx w ob mu ok) id u := hv
        unfold OwnV at hv
        rw [show (cx w ob mu ok).ob id = .frz τ xs from hl] at hv
        exact hv
      · cases h
    · exact same rfl h rfl
    · exact same rfl h rfl
    · exact same rfl h rfl
    · exact same rfl h rfl
    · exact same rfl h rfl
    · rename_i cs off
      cases hf : AV.frozens cs with
      | false => rw [hf] at h; cases h
      | true => rw [hf] at h; exact same (y := .cptr cs off) (by simp only [AV.frozen]; exact hf) h rfl
    · cases h

/-- A temporary's value, frozen. -/
theorem freeze_tmp {gt d : Nat} {gv : AV} {ob' : List (Nat × AV)} (hh : Holds J w0 ok nt ds σ a w) (h : freezeV d (look σ.tm gt) σ.ob = some (gv, ob')) : Holds T w0 ok nt ds ⟨(gt, gv) :: σ.tm, ob'⟩ a w := by
  obtain ⟨mu, hr, _⟩ := hh
  have hgt : gt < nt := by
    apply Classical.byContradiction
    intro hn
    rw [hr.far gt (by omega)] at h
    cases d <;> cases h
  obtain ⟨mu', m', o', v'⟩ := (freezeV_ok d _ _ _ _ (a.tmps.getD gt undef) h).2 mu hr.mem (hr.tm gt hgt)
  refine ⟨mu', ⟨m', fun t ht => ?_, fun t ht => ?_, hr.size, hr.defers, o'.marks hr.marks⟩, trivial⟩
  · show Mill.V _ (look ((gt, gv) :: σ.tm) t) _
    by_cases e : gt = t
    · subst e; rw [look_eq]; exact v'
    · rw [look_ne _ _ e]; exact o'.v _ _ (hr.tm t ht)
  · show look ((gt, gv) :: σ.tm) t = .undef
    rw [look_ne _ _ (by omega)]
    exact hr.far t ht

end
end Go.Proofs.Mill

/- Code, and functions. -/
namespace Go.Proofs.Mill
variable {ds : List Deferred}
open Go.RowKit

def Ex.to : Ex → Exit
  | .normal => .normal
  | .exit id => .exit id
  | .goto l => .goto l
  | .ret => .ret

section
variable {P : Program} {Q : Exit → Act → World → Prop} {a : Act} {w : World} {ro : Option Nat}

theorem stepR_scope {b : Frame} {k : List Item} {cs : List Frame} {c : Code} : step P (lone (b.atR a (.code (.scope c) :: k)) cs w) = .next (lone (b.atR a (.code c :: .inScope c :: k)) cs w) :=
  step_lone_go (by simp [stepG, stepG.exec, Frame.atR])
theorem stepR_inScope {b : Frame} {k : List Item} {cs : List Frame} {c : Code} : step P (lone (b.atR a (.inScope c :: k)) cs w) = .next (lone (b.atR a k) cs w) :=
  step_lone_go (by simp [stepG, stepG.exec, Frame.atR])

/-- A scope within which nobody jumps. -/
theorem wpIn_scope_straight {c : Code} (h : c.wpIn (wideR ro) 0 P (Exit.noGoto Q) a w) : (Code.scope c).wpIn (wideR ro) 0 P Q a w := by
  intro b k cs hro hb hr
  have h0 : (lone (b.atR a (.code (.scope c) :: k)) cs w).fenced P (wideR ro) := fenced_calm hb hr rfl
  obtain ⟨e, a₁, w₁, hq, harr⟩ := h b (.inScope c :: k) cs hro hb hr
  cases e with
  | normal => exact ⟨.normal, a₁, w₁, hq, .head h0 stepR_scope (StepsIn.trans harr (.one (fenced_calm hb hr rfl) stepR_inScope))⟩
  | exit id => exact ⟨.exit id, a₁, w₁, hq, .of_steps (.one h0 stepR_scope) ⟨fun k' hk => harr.1 k' (by simp [exitTo, hk]), fun hr hk => harr.2 hr (by simp [exitTo, hk])⟩⟩
  | goto l => exact hq.elim
  | ret => exact ⟨_, a₁, w₁, hq, .of_steps (.one h0 stepR_scope) harr⟩
  | panic ch => exact ⟨_, a₁, w₁, hq, .of_steps (.one h0 stepR_scope) harr⟩
  | outgrown => exact ⟨_, a₁, w₁, hq, .of_steps (.one h0 stepR_scope) harr⟩

/-- A loop, at the head of a round. -/
def loopIn (ro : Option Nat) (P : Program) (c : Code) (Q : Exit → Act → World → Prop) (a : Act) (w : World) : Prop :=
  ∀ (b : Frame) (k : List Item) (cs : List Frame), b.roundOf = ro → ∃ e a' w', Q e a' w' ∧ ArrivesIn (Machine.fenced P (wideR ro)) P (lone (b.atR a (.code c :: .inLoop c :: k)) cs w) b k cs e a' w'

theorem room_wideR {n : Nat} : (wideR ro).room n := fun _ h => by simp [Fence.wide] at h

theorem wp_of_loopIn {c : Code} (h : loopIn ro P c Q a w) : (Code.loop c).wpIn (wideR ro) 0 P Q a w :=
  fun b k cs hro hb hr => let ⟨e, a', w', hq, harr⟩ := h b k cs hro; ⟨e, a', w', hq, .of_steps (.one (fenced_calm hb hr rfl) stepR_loop) harr⟩

theorem loopIn_round {c : Code} (h : c.wpIn (wideR ro) 0 P (Exit.then (loopIn ro P c Q) Q) a w) : loopIn ro P c Q a w := by
  intro b k cs hro
  have hb : (wideR ro).fn b.fn := trivial
  have hr : (wideR ro).room (cs.length + 1 + 0) := room_wideR
  obtain ⟨e, a₁, w₁, hq, harr⟩ := h b (.inLoop c :: k) cs hro hb hr
  cases e with
  | normal =>
    obtain ⟨e₂, a₂, w₂, hq₂, harr₂⟩ := hq b k cs hro
    exact ⟨e₂, a₂, w₂, hq₂, .of_steps (StepsIn.trans harr (.one (fenced_calm hb hr rfl) stepR_inLoop)) harr₂⟩
  | exit id => exact ⟨_, a₁, w₁, hq, .pass (x := .inLoop c) rfl (fun _ _ => .inl (by simp)) harr⟩
  | goto l => exact ⟨_, a₁, w₁, hq, .pass (x := .inLoop c) rfl (fun _ _ => .inl (by simp)) harr⟩
  | ret => exact ⟨_, a₁, w₁, hq, .pass (x := .inLoop c) rfl (fun _ _ => .inl (by simp)) harr⟩
  | panic ch => exact ⟨_, a₁, w₁, hq, .pass (x := .inLoop c) rfl (fun _ _ => .inl (by simp)) harr⟩
  | outgrown => exact ⟨_, a₁, w₁, hq, .pass (x := .inLoop c) rfl (fun _ _ => .inl (by simp)) harr⟩

theorem loopIn_mono {c : Code} {Q' : Exit → Act → World → Prop} (h : loopIn ro P c Q a w) (hq : ∀ e a w, Q e a w → Q' e a w) : loopIn ro P c Q' a w :=
  fun b k cs hro => let ⟨e, a', w', q, r⟩ := h b k cs hro; ⟨e, a', w', hq _ _ _ q, r⟩
end

/-- The loops of a code, each with those within it. -/
def loopsOf : Code → List Code
  | .seq a b => loopsOf a ++ loopsOf b
  | .cond _ a b => loopsOf a ++ loopsOf b
  | .block _ c => loopsOf c
  | .loop c => c :: loopsOf c
  | .scope c => loopsOf c
  | .rangeFunc g ps x y => [.rangeFunc g ps x y]
  | _ => []

/-- A state that is known; marks of loops over functions may lie behind it. -/
def HoldsE (Δ : List Deferred → Prop) (J : Cx → Prop) (w0 : World) (ok : Nat → Prop) (nt : Nat) (σ : St) (a : Act) (w : World) : Prop := ∃ ds, Δ ds ∧ Holds J w0 ok nt ds σ a w

def anyD : List Deferred → Prop := fun _ => True

/-- A loop that is known does what is said of it. -/
def LoopOK0 (V : Env) (nt : Nat) (s : LSpec) (c : Code) : Prop :=
  ∀ (ro : Option Nat) (w0 : World) (ok : Nat → Prop) (hd : List AV) (x : s.σ) (y : s.ρ) (a : Act) (w : World), s.dec hd = some x → s.run x = some y → HoldsE anyD T w0 ok nt (build s.keep hd) a w →
    loopIn ro V.P c (fun e a' w' => e = (s.enc y).1.to ∧ HoldsE anyD T w0 ok nt (build (s.keepX (s.enc y).1) (s.enc y).2) a' w') a w

/-- So does a loop over a function; it is no round's. -/
def RangeOK (V : Env) (nt : Nat) (s : LSpec) (c : Code) : Prop :=
  ∀ (w0 : World) (ok : Nat → Prop) (hd : List AV) (x : s.σ) (y : s.ρ) (a : Act) (w : World), s.dec hd = some x → s.run x = some y → HoldsE anyD T w0 ok nt (build s.keep hd) a w →
    c.wpIn (wideR none) 0 V.P (fun e a' w' => e = (s.enc y).1.to ∧ HoldsE anyD T w0 ok nt (build (s.keepX (s.enc y).1) (s.enc y).2) a' w') a w

def LoopOK (V : Env) (nt : Nat) (s : LSpec) (c : Code) : Prop := match isRange c with | true => RangeOK V nt s c | false => LoopOK0 V nt s c

theorem LoopOK.loop {V : Env} {nt : Nat} {s : LSpec} {c : Code} (h : LoopOK V nt s c) (hr : isRange c = false) : LoopOK0 V nt s c := by
  unfold LoopOK at h; rw [hr] at h; exact h
theorem LoopOK.of0 {V : Env} {nt : Nat} {s : LSpec} {c : Code} (hr : isRange c = false) (h : LoopOK0 V nt s c) : LoopOK V nt s c := by
  unfold LoopOK; rw [hr]; exact h

theorem VL_slots {c : Cx} (f : Nat → Value) : ∀ (L : List (Nat × AV)), VL c (L.map (·.2)) ((L.map (·.1)).map f) → ∀ t, V c (look L t) (f t)
  | [], _, _ => trivial
  | (i, x) :: L, h, t => by
    by_cases e : i = t
    · subst e; rw [look_eq]; exact h.1
    · rw [look_ne _ _ e]; exact VL_slots f L h.2 t

theorem expoSlot_undef (κ : Kd) (ob : List (Nat × AV)) : expoSlot κ .undef ob = none := by
  cases κ <;> rfl

theorem expoSlots_moves : ∀ {ks : List (Nat × Kd)} {tm : List (Nat × AV)} {ob ob' : List (Nat × AV)} {xs : List AV}, expoSlots ks tm ob = some (xs, ob') →
    ∃ os, Moves (ks.map fun p => look tm p.1) ((build ks xs).tm.map (·.2)) ob ob' (build ks xs).ob os ∧ (build ks xs).tm.map (·.1) = ks.map (·.1) ∧ ∀ p ∈ ks, look tm p.1 ≠ .undef
  | [], tm, ob, ob', xs, h => by
    simp only [expoSlots, Option.some.injEq, Prod.mk.injEq] at h
    obtain ⟨rfl, rfl⟩ := h
    exact ⟨[], Moves.nil _, rfl, fun _ h => (by cases h)⟩
  | (t, κ) :: ks, tm, ob, ob', xs, h => by
    simp only [expoSlots] at h
    split at h
    case h_2 => cases h
    rename_i x ob1 h1
    split at h
    case h_2 => cases h
    rename_i xs' ob2 h2
    simp only [Option.some.injEq, Prod.mk.injEq] at h
    obtain ⟨rfl, rfl⟩ := h
    obtain ⟨os1, m1⟩ := expoSlot_moves h1 ((1024 + t) * 64)
    obtain ⟨os2, m2, e2, n2⟩ := expoSlots_moves h2
    refine ⟨os1 ++ os2, m1.append m2, ?_, fun p hp => ?_⟩
    · show t :: (build ks xs').tm.map (·.1) = t :: ks.map (·.1)
      rw [e2]
    · rcases List.mem_cons.1 hp with rfl | hp
      · intro hu
        simp only at hu
        rw [hu, expoSlot_undef] at h1
        cases h1
      · exact n2 p hp

section
variable {V : Env} {J : Cx → Prop} {w0 w : World} {ok : Nat → Prop} {nt fid rounds : Nat} {σ τ : St} {a : Act}

/-- **What a loop keeps.** -/
theorem norm_okJ {ks : List (Nat × Kd)} {hd : List AV} (hJB : ∀ c c' : Cx, (∀ b, c.okb b → c'.okb b) → c'.w = c.w → J c → J c') (hh : Holds J w0 ok nt ds σ a w) (h : norm ks σ = some hd) : Holds J w0 ok nt ds (build ks hd) a w := by
  obtain ⟨mu, hr, hj⟩ := hh
  unfold norm at h
  split at h
  case h_2 => cases h
  rename_i xs ob' hx
  cases hn : apartN (build ks xs).ob with
  | false => rw [hn] at h; cases h
  | true =>
    rw [hn] at h
    obtain rfl := Option.some.inj h
    obtain ⟨os, m, hk, hu⟩ := expoSlots_moves hx
    have hnd := apartN_nodup _ hn
    obtain ⟨mu2, hm2, hv, hokb⟩ := moves_mem hr.mem m hnd (look_list_in _ hnd) (fun i hi => look_list_out _ i hi)
    have hv' := hv (ks.map fun p => a.tmps.getD p.1 undef) (by
      have : ∀ (l : List (Nat × Kd)), VL (cx w σ.ob mu ok) (l.map fun p => look σ.tm p.1) (l.map fun p => a.tmps.getD p.1 undef) := by
        intro l
        induction l with
        | nil => trivial
        | cons p l ih => exact ⟨V_operand hr (.tmp p.1), ih⟩
      exact this ks)
    have hsl := VL_slots (fun t => a.tmps.getD t undef) (build ks xs).tm (by rw [hk, List.map_map]; exact hv')
    refine ⟨mu2, ⟨hm2, fun t _ => hsl t, fun t ht => ?_, hr.size, hr.defers, ⟨hr.marks.1, fun d hd => by obtain ⟨D, e, h0, h1, h2⟩ := hr.marks.2 d hd; exact ⟨D, e, h0, hokb D h1, h2⟩⟩⟩, hJB _ _ hokb rfl hj⟩
    refine look_list_out _ t fun p hp e => ?_
    have hp1 : p.1 ∈ ks.map (·.1) := by rw [← hk]; exact List.mem_map.2 ⟨p, hp, rfl⟩
    obtain ⟨q, hq, he⟩ := List.mem_map.1 hp1
    apply hu q hq
    rw [he, e]
    exact hr.far t ht

theorem norm_ok {ks : List (Nat × Kd)} {hd : List AV} (hh : Holds J w0 ok nt ds σ a w) (h : norm ks σ = some hd) : Holds T w0 ok nt ds (build ks hd) a w :=
  norm_okJ (J := T) (fun _ _ _ _ _ => trivial) (by obtain ⟨mu, hr, _⟩ := hh; exact ⟨mu, hr, trivial⟩) h

theorem evK_ok {ρ : Type} {L : Nat → Option LSpec} {inl : Inl ρ} (hG : GoodEnv V) (hI : InlOK V inl) (hJ : Stays J) (hLJ : ∀ id s, L id = some s → ∀ c, J c) {ro : Option Nat} {Δ : List Deferred → Prop} (hΔ : ∀ id s, L id = some s → ∀ ds, Δ ds) :
    ∀ (c : Code) {σ : St} {a : Act} {w : World} {k : Ex → St → Option ρ} {r : ρ} {Q : Exit → Act → World → Prop}, (∀ c' ∈ loopsOf c, ∀ s, L (firstRegion c') = some s → LoopOK V nt s c' ∧ (isRange c' = true → ro = none)) →
      HoldsE Δ J w0 ok nt σ a w → evK V L inl fid nt rounds c σ k = some r → (∀ e σ' a' w', HoldsE Δ J w0 ok nt σ' a' w' → k e σ' = some r → Q e.to a' w') → c.wpIn (wideR ro) 0 V.P Q a w := by
  intro c
  induction c with
  | skip => intro σ a w k r Q _ hh h hn; exact wpIn_skip (hn _ _ _ _ hh h)
  | label l => intro σ a w k r Q _ hh h hn; exact wpIn_label (hn _ _ _ _ hh h)
  | region id ops draw => intro σ a w k r Q _ hh h hn; obtain ⟨ds, hd, hh⟩ := hh; exact regK_ok hG hI hJ hh h fun σ' a' w' hh' h' => hn .normal σ' a' w' ⟨ds, hd, hh'⟩ h'
  | seq x y ihx ihy =>
    intro σ a w k r Q hl hh h hn
    refine wpIn_seq (ihx (fun c' hc => hl c' (List.mem_append_left _ hc)) hh h fun e σ' a' w' hh' h' => ?_)
    cases e with
    | normal => exact ihy (fun c' hc => hl c' (List.mem_append_right _ hc)) hh' h' hn
    | exit id => exact hn _ _ _ _ hh' h'
    | goto l => exact hn _ _ _ _ hh' h'
    | ret => exact hn _ _ _ _ hh' h'
  | cond c x y ihx ihy =>
    intro σ a w k r Q hl hh h hn
    simp only [evK] at h
    split at h
    case h_2 => cases h
    rename_i t ht
    obtain ⟨ds, hds, mu, hr, hj⟩ := hh
    have hc := V_operand hr c
    rw [ht] at hc
    simp only [Mill.V] at hc
    refine wpIn_cond hc ?_
    cases t with
    | true => exact ihx (fun c' hc => hl c' (List.mem_append_left _ hc)) ⟨ds, hds, mu, hr, hj⟩ h hn
    | false => exact ihy (fun c' hc => hl c' (List.mem_append_right _ hc)) ⟨ds, hds, mu, hr, hj⟩ h hn
  | block id c ih =>
    intro σ a w k r Q hl hh h hn
    refine wpIn_block (ih hl hh h fun e σ' a' w' hh' h' => ?_)
    cases e with
    | normal => exact hn _ _ _ _ hh' h'
    | exit id' =>
      show if id' = id then Q .normal a' w' else Q (.exit id') a' w'
      simp only at h'
      by_cases he : id' = id
      · subst he
        rw [if_pos rfl]
        rw [show Nat.beq id' id' = true by simp] at h'
        exact hn _ _ _ _ hh' h'
      · rw [if_neg he]
        have hf : Nat.beq id' id = false := by
          cases hb : Nat.beq id' id with
          | false => rfl
          | true => exact (he (Nat.eq_of_beq_eq_true hb)).elim
        rw [hf] at h'
        exact hn _ _ _ _ hh' h'
    | goto l => exact hn _ _ _ _ hh' h'
    | ret => exact hn _ _ _ _ hh' h'
  | loop c ih =>
    intro σ a w k r Q hl hh h hn
    refine wp_of_loopIn ?_
    simp only [evK] at h
    split at h
    · have hl' : ∀ c' ∈ loopsOf c, ∀ s, L (firstRegion c') = some s → LoopOK V nt s c' ∧ (isRange c' = true → ro = none) := fun c' hc => hl c' (List.mem_cons_of_mem _ hc)
      have key : ∀ (n : Nat) (σ : St) (a : Act) (w : World), HoldsE Δ J w0 ok nt σ a w → rollK (fun σ k => evK V L inl fid nt rounds c σ k) k n σ = some r → loopIn ro V.P c Q a w := by
        intro n
        induction n with
        | zero => intro σ a w _ h; cases h
        | succ n ihn =>
          intro σ a w hh h
          refine loopIn_round (ih hl' hh h fun e σ' a' w' hh' h' => ?_)
          cases e with
          | normal => exact ihn σ' a' w' hh' h'
          | exit id => exact hn _ _ _ _ hh' h'
          | goto l => exact hn _ _ _ _ hh' h'
          | ret => exact hn _ _ _ _ hh' h'
      exact key rounds σ a w hh h
    · rename_i s hs
      cases hir : isRange c with
      | true => rw [hir] at hs; cases hs
      | false =>
      rw [hir] at hs
      have hs : L (firstRegion c) = some s := hs
      split at h
      case h_1 => cases h
      rename_i hd hnorm
      split at h
      case h_1 => cases h
      rename_i x hdec
      split at h
      case h_1 => cases h
      rename_i y hrun
      rw [s.law] at h
      obtain ⟨ds, _, hh⟩ := hh
      refine loopIn_mono ((hl c (by simp [loopsOf]) s hs).1.loop hir ro w0 ok hd x y a w hdec hrun ⟨ds, trivial, norm_ok hh hnorm⟩) fun e a' w' he => ?_
      obtain ⟨rfl, ds', _, mu, hr, _⟩ := he
      exact hn _ _ _ _ ⟨ds', hΔ _ _ hs ds', mu, hr, hLJ _ _ hs _⟩ h
  | exit id => intro σ a w k r Q _ hh h hn; exact wpIn_exit (hn (.exit id) _ _ _ hh h)
  | goto l => intro σ a w k r Q _ hh h hn; exact wpIn_goto (hn (.goto l) _ _ _ hh h)
  | ret => intro σ a w k r Q _ hh h hn; exact wpIn_ret (hn .ret _ _ _ hh h)
  | rangeFunc g ps x y _ _ =>
    intro σ a w k r Q hl hh h hn
    cases g with
    | tmp gt =>
      simp only [evK] at h
      split at h
      case h_1 => cases h
      rename_i gv ob' hfz
      split at h
      case h_1 => cases h
      rename_i s hs
      split at h
      case h_1 => cases h
      rename_i hd hnorm
      split at h
      case h_1 => cases h
      rename_i z hdec
      split at h
      case h_1 => cases h
      rename_i y' hrun
      rw [s.law] at h
      obtain ⟨ds, _, hh⟩ := hh
      obtain ⟨hrg, hro⟩ := hl (.rangeFunc (.tmp gt) ps x y) (by simp [loopsOf]) s hs
      obtain rfl := hro rfl
      have hrg : RangeOK V nt s (.rangeFunc (.tmp gt) ps x y) := hrg
      refine wpIn_mono (hrg w0 ok hd z y' a w hdec hrun ⟨ds, trivial, norm_ok (freeze_tmp hh hfz) hnorm⟩) fun e a' w' he => ?_
      obtain ⟨rfl, ds', _, mu, hr, _⟩ := he
      exact hn _ _ _ _ ⟨ds', hΔ _ _ hs ds', mu, hr, hLJ _ _ hs _⟩ h
    | const v => simp [evK] at h
    | func f => simp [evK] at h
    | global g => simp [evK] at h
  | scope c ih =>
    intro σ a w k r Q hl hh h hn
    refine wpIn_scope_straight (ih hl hh h fun e σ' a' w' hh' h' => ?_)
    cases e with
    | normal => exact hn _ _ _ _ hh' h'
    | exit id' => exact hn _ _ _ _ hh' h'
    | goto l => cases h'
    | ret => exact hn _ _ _ _ hh' h'
  | refuse why => intro σ a w k r Q _ hh h hn; simp [evK] at h

end
end Go.Proofs.Mill

/- A block that holds no cells is turned; blocks are laid: the state is known as it was. -/
namespace Go.Proofs.Mill
variable {ds : List Deferred}
open Go.RowKit

/-- What was known of values stays so, where blocks of cells lie as they lay. -/
structure MonoC (c c' : Cx) : Prop extends Mono5 c c' where
  blkc : ∀ b cur e m, c.okb b → c.w.heap[b]? = some (.cells cur e m) → c'.okb b ∧ c'.w.heap[b]? = c.w.heap[b]?

mutual
theorem MonoC.v {c c' : Cx} (h : MonoC c c') : ∀ (x : AV) (v : Value), V c x v → V c' x v
  | .undef, _, _ => trivial
  | .int _ _, _, hv => hv
  | .bool _, _, hv => hv
  | .str _, _, hv => hv
  | .lst _ _, _, hv => h.dv _ _ hv
  | .lstn _ _, _, hv => ⟨h.dv _ _ hv.1, hv.2⟩
  | .emp, _, hv => hv
  | .own _, _, hv => h.own _ _ hv
  | .ownv _ _ _, _, hv => hv
  | .ptr _ _, _, hv => h.ptr _ _ _ hv
  | .eptr _ _ _, _, hv => h.eptr _ _ _ _ hv
  | .lptr _ _ _ _, _, hv => h.lptr _ _ _ _ _ hv
  | .cptr cs _, _, ⟨b, cur, e, h1, h2, h3, h4⟩ => ⟨b, cur, e, h1, (h.blkc b _ _ _ h2 h3).1, ((h.blkc b _ _ _ h2 h3).2).trans h3, h.vl cs cur.toList h4⟩
  | .agg cs, _, ⟨vs, e, hv⟩ => ⟨vs, e, h.vl cs vs.toList hv⟩
  | .tup cs, _, ⟨vs, e, hv⟩ => ⟨vs, e, h.vl cs vs.toList hv⟩
  | .fn _ caps, _, ⟨vs, e, hv⟩ => ⟨vs, e, h.vl caps vs.toList hv⟩
  | .bfn _ first, _, ⟨vs, e, hv⟩ => ⟨vs, e, h.vl first vs.toList hv⟩
  | .cst _, _, hv => hv
  | .ifc _ x, _, ⟨u, e, hv⟩ => ⟨u, e, h.v x u hv⟩
  | .box _, _, hv => hv
  | .row _ _ _, _, hv => hv
  | .frz _ _, _, hv => hv
  | .dead, _, hv => hv
theorem MonoC.vl {c c' : Cx} (h : MonoC c c') : ∀ (xs : List AV) (vs : List Value), VL c xs vs → VL c' xs vs
  | [], [], hv => hv
  | x :: xs, v :: vs, ⟨a, b⟩ => ⟨h.v x v a, h.vl xs vs b⟩
end

section
variable {w0 w w' : World} {ok : Nat → Prop} {nt : Nat} {σ : St} {a : Act} {mu : Nat → Option Nat} {ob : List (Nat × AV)} {r : Nat} {o : Obj}

theorem cell_turn (ht : Turned w w' fun k => k = r) (ho : w.heap[r]? = some o) (hc : o.isCells = false) {b n : Nat} {u : Value} (h : w.cell? ⟨b, n, none⟩ = some u) : w'.cell? ⟨b, n, none⟩ = some u := by
  have hb : ∃ o', w.heap[b]? = some o' := by
    cases hb : w.heap[b]? with
    | some o' => exact ⟨o', rfl⟩
    | none => simp [World.cell?, hb] at h
  obtain ⟨o', hb⟩ := hb
  have hne : b ≠ r := by
    rintro rfl
    rw [ho] at hb
    obtain rfl := Option.some.inj hb
    cases o <;> first | (cases hc; done) | simp [World.cell?, ho] at h
  rw [cell?_heap (ht.block b (Array.getElem?_eq_some_iff.1 hb).1 hne)]
  exact h

theorem heap_turn (ht : Turned w w' fun k => k = r) (ho : w.heap[r]? = some o) (hc : o.isCells = false) {b : Nat} {cur : Array Value} {e : TypeId} {m : Nat × Nat} (h : w.heap[b]? = some (.cells cur e m)) : w'.heap[b]? = some (.cells cur e m) := by
  have hne : b ≠ r := by
    rintro rfl
    rw [ho] at h
    obtain rfl := Option.some.inj h
    cases hc
  rw [ht.block b (Array.getElem?_eq_some_iff.1 h).1 hne]
  exact h

theorem turn_mono (ht : Turned w w' fun k => k = r) (ho : w.heap[r]? = some o) (hc : o.isCells = false) : MonoC (cx w ob mu ok) (cx w' ob mu ok) := by
  have hokb : ∀ b, (cx w ob mu ok).okb b → (cx w' ob mu ok).okb b := fun b h => ⟨h.1, Nat.lt_of_lt_of_le h.2.1 ht.size, h.2.2⟩
  have hdv : ∀ d v, (cx w ob mu ok).DV d v → (cx w' ob mu ok).DV d v := by
    intro d v h
    induction h with
    | int k n => exact .int k n
    | bool b => exact .bool b
    | str s => exact .str s
    | nil sz A c hA => exact .nil sz A c hA
    | lst sz rows b off c u hc' hsz hcell hdv hb ih =>
      exact .lst sz rows b off c u hc' hsz (fun j d hj => cell_turn ht ho hc (hcell j d hj)) (fun j d hj => ih j d hj) (hokb b hb)
  have hlp : ∀ τ xs i off v, LptrV (cx w ob mu ok) τ xs i off v → LptrV (cx w' ob mu ok) τ xs i off v := by
    rintro τ xs i off v ⟨hi, b, o', u, rfl, hb, hcl, hd⟩
    exact ⟨hi, b, o', u, rfl, hokb b hb, fun j d hj => cell_turn ht ho hc (hcl j d hj), fun j d hj => hdv _ _ (hd j d hj)⟩
  refine ⟨⟨hdv, fun id v h => ?_, fun id off v h => ?_, fun id i off v h => ?_, hlp⟩, fun b cur e m hb h => ⟨hokb b hb, ?_⟩⟩
  · unfold OwnV at h ⊢
    change (match look ob id with | .row e τ xs => _ | .frz τ xs => _ | .dead => _ | _ => _) at h
    show (match look ob id with | .row e τ xs => _ | .frz τ xs => _ | .dead => _ | _ => _)
    cases hob : look ob id <;> rw [hob] at h <;> try exact h
    case row e τ xs =>
      rcases h with h | ⟨b, cap, cur, h1, h2, h3, h4⟩
      · exact .inl h
      · exact .inr ⟨b, cap, cur, h1, ⟨heap_turn ht ho hc h2.1, h2.2⟩, h3, h4⟩
    case frz τ xs => exact hdv _ _ h
  · exact h
  · unfold EptrV at h ⊢
    change (match look ob id with | .row e τ xs => _ | .frz τ xs => _ | .dead => _ | _ => _) at h
    show (match look ob id with | .row e τ xs => _ | .frz τ xs => _ | .dead => _ | _ => _)
    cases hob : look ob id <;> rw [hob] at h <;> try exact h
    case frz τ xs => exact hlp _ _ _ _ _ h
  · exact (heap_turn ht ho hc h).trans h.symm

theorem mem_turn (hm : Mem w0 (cx w ob mu ok)) (ht : Turned w w' fun k => k = r) (ho : w.heap[r]? = some o) (hc : o.isCells = false) (hr : w0.heap.size ≤ r) : Mem w0 (cx w' ob mu ok) := by
  have hmono : MonoC (cx w ob mu ok) (cx w' ob mu ok) := turn_mono ht ho hc
  refine ⟨fun id => ?_, hm.inj, hm.base, ht.ext hm.ext (fun k e => by subst e; exact hr), hm.okn⟩
  have h := hm.obj id
  unfold ObjOK at h ⊢
  change (match look ob id with | .box cs => _ | .row e τ xs => _ | .undef => _ | .dead => _ | .frz _ _ => _ | _ => _) at h
  show (match look ob id with | .box cs => _ | .row e τ xs => _ | .undef => _ | .dead => _ | .frz _ _ => _ | _ => _)
  cases hob : look ob id <;> rw [hob] at h <;> try exact h
  case box cs =>
    obtain ⟨b, cur, e, h1, h2, h3⟩ := h
    exact ⟨b, cur, e, h1, heap_turn ht ho hc h2, hmono.vl _ _ h3⟩
  case row e τ xs =>
    rcases h with h | ⟨b, cap, cur, h1, h2, h3, h4, h5⟩
    · exact .inl h
    · exact .inr ⟨b, cap, cur, h1, ⟨heap_turn ht ho hc h2.1, h2.2⟩, h3, h4, DVs_to hmono.dv h5⟩

/-- A block that is no cells, and no mark's, is turned. -/
theorem R.turn (hr : R w0 ok nt ds σ a w mu) (ht : Turned w w' fun k => k = r) (ho : w.heap[r]? = some o) (hc : o.isCells = false) (hb : w0.heap.size ≤ r) (hd : ∀ d ∈ ds, d ≠ { target := .collected r, args := #[] }) : R w0 ok nt ds σ a w' mu := by
  have hmono : MonoC (cx w σ.ob mu ok) (cx w' σ.ob mu ok) := turn_mono ht ho hc
  refine ⟨mem_turn hr.mem ht ho hc hb, fun t h => hmono.v _ _ (hr.tm t h), hr.far, hr.size, hr.defers, hr.marks.1, fun d hdd => ?_⟩
  obtain ⟨D, e, h0, h1, h2⟩ := hr.marks.2 d hdd
  have hne : D ≠ r := by
    rintro rfl
    exact hd d hdd e
  exact ⟨D, e, h0, ⟨h1.1, Nat.lt_of_lt_of_le h1.2.1 ht.size, h1.2.2⟩, (ht.block D h1.2.1 hne).trans h2⟩

/-- Blocks are laid. -/
theorem grow_mono (ht : Turned w w' fun _ => False) (hm : Mem w0 (cx w ob mu ok)) : Mono (cx w ob mu ok) (cx w' ob mu ok) :=
  mono_of (fun b hb => ⟨⟨hb.1, Nat.lt_of_lt_of_le hb.2.1 ht.size, hb.2.2⟩, ht.block b hb.2.1 (fun x => x)⟩) (fun id => .inr (.inr (.inl ⟨rfl, rfl, fun b hb => ht.block b (hm.lt hb) (fun x => x)⟩)))

theorem mem_grow (ht : Turned w w' fun _ => False) (hm : Mem w0 (cx w ob mu ok)) : Mem w0 (cx w' ob mu ok) :=
  ⟨fun id => (hm.obj id).keep (grow_mono ht hm) rfl rfl (fun b hb => ht.block b (hm.lt hb) (fun x => x)), hm.inj, hm.base, ht.ext hm.ext (fun _ h => h.elim), hm.okn⟩

theorem R.grow (hr : R w0 ok nt ds σ a w mu) (ht : Turned w w' fun _ => False) : R w0 ok nt ds σ a w' mu :=
  hr.go (mem_grow ht hr.mem) (grow_mono ht hr.mem)

theorem turned_putObj (w : World) (r : Nat) (o : Obj) : Turned w (w.putObj r o) fun k => k = r :=
  ⟨rfl, rfl, rfl, by simp, fun k _ h => World.putObj_heap_other h⟩

end
end Go.Proofs.Mill

/- Functions: results, calls that are walked into, and what a function answers. -/
namespace Go.Proofs.Mill
variable {ds : List Deferred}
open Go.RowKit

section
variable {V : Env} {J : Cx → Prop} {w0 w : World} {ok : Nat → Prop} {nt fid rounds : Nat} {σ τ : St} {a : Act} {mu : Nat → Option Nat}

def resM (a : Act) : ResultVar → Sem Value
  | .tmp t => pure (a.tmps.getD t undef)
  | .cell b t => do loadVar t (← asAddr (a.tmps.getD b undef))

theorem rdAt_ptr {α : Type} {k : AV → Rd α} {r : α} {t : TypeId} {p : AV} {pv : Value} {c : Cx} (h : (rdAt V t p k).val σ = some r) (hp : Mill.V c p pv) : ∃ x, pv = .pointer (some x) := by
  cases p <;> try (simp [rdAt, Rd.val] at h; done)
  case ptr => exact PtrV.some hp
  case eptr => exact EptrV.some hp
  case lptr => obtain ⟨_, b, o, _, rfl, _⟩ := hp; exact ⟨_, rfl⟩
  case cptr => obtain ⟨_, _, _, rfl, _⟩ := hp; exact ⟨_, rfl⟩

theorem resRd_ok {α : Type} (hr : R w0 ok nt ds σ a w mu) : ∀ (l : List ResultVar) (k : List AV → Rd α) (r : α), (resRd V l k).val σ = some r →
    ∃ vs us, (k vs).val σ = some r ∧ (l.mapM (resM a)).run V.P w = .ok us w ∧ VL (cx w σ.ob mu ok) vs us
  | [], k, r, h => ⟨[], [], h, by simp, trivial⟩
  | .tmp t :: l, k, r, h => by
    obtain ⟨vs, us, h1, h2, h3⟩ := resRd_ok hr l _ r (show (resRd V l fun vs => k (look σ.tm t :: vs)).val σ = some r from h)
    refine ⟨_ :: vs, a.tmps.getD t undef :: us, h1, ?_, V_operand hr (.tmp t), h3⟩
    simp [List.mapM_cons, resM, h2]
  | .cell b t :: l, k, r, h => by
    have h : (rdAt V t (look σ.tm b) fun v => resRd V l fun vs => k (v :: vs)).val σ = some r := h
    obtain ⟨x, hx⟩ := rdAt_ptr h (V_operand hr (.tmp b))
    obtain ⟨v, u, h1, h2, h3⟩ := rdAt_ok h hr.mem (V_operand hr (.tmp b))
    obtain ⟨vs, us, h4, h5, h6⟩ := resRd_ok hr l _ r h1
    refine ⟨v :: vs, u :: us, h4, ?_, h3, h6⟩
    have hx' : a.tmps.getD b undef = .pointer (some x) := hx
    have h2' : (loadVar t x).run V.P w = .ok u w := by
      rw [show a.eval (.tmp b) = .pointer (some x) from hx] at h2
      simpa [Instr.loadAt, Instr.sureAddr] using h2
    simp [List.mapM_cons, resM, hx', asAddr, h2', h5]

theorem results_ok {fn : Func} {v : AV} (hr : R w0 ok nt ds σ a w mu) (h : (resRd V fn.results.toList fun vs => .ret (resOf vs)).val σ = some v) :
    ∃ u, (results fn a.tmps).run V.P w = .ok u w ∧ Mill.V (cx w σ.ob mu ok) v u := by
  obtain ⟨vs, us, h1, h2, h3⟩ := resRd_ok hr _ _ _ h
  have h1 := val_ret h1
  subst h1
  have e : results fn a.tmps = (List.toArray <$> fn.results.toList.mapM (resM a)) >>= fun vs => pure (if h : vs.size = 1 then vs[0] else .tuple vs) := by
    unfold results
    rw [Array.mapM_eq_mapM_toList]
    congr 2
    first
      | done
      | (congr 1; funext x; cases x <;> rfl)
      | (funext x; cases x <;> rfl)
  refine ⟨if h : us.toArray.size = 1 then us.toArray[0] else .tuple us.toArray, ?_, ?_⟩
  · rw [e]
    simp [h2]
  · unfold resOf
    split
    · rename_i v
      obtain ⟨u, us', rfl, hv, hn⟩ := VL_cons h3
      rw [VL_nil hn]
      exact hv
    · rename_i hne
      have hl := h3.length
      rw [dif_neg]
      · exact ⟨us.toArray, rfl, h3⟩
      · intro h1
        have h1 : us.length = 1 := by simpa using h1
        rw [← hl] at h1
        obtain ⟨x, hx⟩ := List.length_eq_one_iff.1 h1
        exact hne x hx

theorem look_params : ∀ (args : List AV) (i t : Nat), look (paramsFrom i args) t = if i ≤ t then args.getD (t - i) .undef else .undef
  | [], i, t => by simp [paramsFrom, look]
  | v :: args, i, t => by
    show look ((i, v) :: paramsFrom (i + 1) args) t = _
    by_cases e : i = t
    · subst e; rw [look_eq]; simp
    · rw [look_ne _ _ e, look_params args (i + 1) t]
      by_cases h : i ≤ t
      · rw [if_pos (by omega), if_pos h]
        have : t - i = (t - (i + 1)) + 1 := by omega
        rw [this]
        simp
      · rw [if_neg (by omega), if_neg h]

theorem params_R {args : List AV} {vals : Array Value} {ob : List (Nat × AV)} (hm : Mem w0 (cx w ob mu ok)) (hv : VL (cx w ob mu ok) args vals.toList) (hl : args.length ≤ nt) :
    R w0 ok nt [] ⟨paramsFrom 0 args, ob⟩ { tmps := vals ++ Array.replicate (nt - vals.size) undef, defers := [] } w mu := by
  have hlen : args.length = vals.size := by have := hv.length; simpa using this
  refine ⟨hm, fun t ht => ?_, fun t ht => ?_, ?_, rfl, Marks.nil _ _⟩
  · show Mill.V _ (look (paramsFrom 0 args) t) ((vals ++ Array.replicate (nt - vals.size) undef).getD t undef)
    rw [look_params, if_pos (Nat.zero_le _), Nat.sub_zero]
    by_cases h : t < args.length
    · obtain ⟨u, hu, huv⟩ := hv.get t args[t] (List.getElem?_eq_getElem h)
      have e1 : args.getD t .undef = args[t] := by simp [List.getD_eq_getElem?_getD, h]
      have e2 : (vals ++ Array.replicate (nt - vals.size) undef).getD t undef = u := by
        rw [Array.getD_eq_getD_getElem?, Array.getElem?_append_left (by omega)]
        have : vals[t]? = some u := by simpa using hu
        rw [this]; rfl
      rw [e1, e2]
      exact huv
    · rw [List.getD_eq_getElem?_getD, List.getElem?_eq_none (by omega)]
      trivial
  · show look (paramsFrom 0 args) t = .undef
    rw [look_params, if_pos (Nat.zero_le _), List.getD_eq_getElem?_getD, List.getElem?_eq_none (by omega)]
    rfl
  · simp; omega

/-- The marks are taken off, one by one. -/
theorem leaves_ok {n : Nat} {fn : Func} {Rr : Ending → World → Prop} : ∀ (ds : List Deferred) (a : Act) (w : World), R w0 ok nt ds σ a w mu →
    (∀ (a1 : Act) (w1 : World), a1.tmps = a.tmps → R w0 ok nt [] σ a1 w1 mu → (ds = [] → w1 = w) → ∃ u, (results fn a.tmps).run V.P w1 = .ok u w1 ∧ Rr (.returned u) w1) →
    LeavesInM (wideR none) n V.P fn a.tmps Rr ds .returning w
  | [], a, w, hr, hfin => by
    obtain ⟨u, h1, h2⟩ := hfin a w rfl hr (fun _ => rfl)
    exact ⟨u, h1, h2⟩
  | d :: ds, a, w, hr, hfin => by
    obtain ⟨D, rfl, h0, h1, h2⟩ := hr.marks.2 d (by simp)
    have hnd := List.nodup_cons.1 hr.marks.1
    have hr1 : R w0 ok nt ds σ { a with defers := ds } w mu := ⟨hr.mem, hr.tm, hr.far, hr.size, rfl, hnd.2, fun d hd => hr.marks.2 d (List.mem_cons_of_mem _ hd)⟩
    have hr2 := hr1.turn (turned_putObj w D (.deferred none)) h2 rfl h0 (fun d hd e => hnd.1 (by rw [← e]; exact hd))
    exact ⟨by simp, .inl ⟨D, _, rfl, run_takeDeferred h2, leaves_ok ds { a with defers := ds } _ hr2 fun a1 w1 ht hr' _ => hfin a1 w1 ht hr' (fun h => by cases h)⟩⟩

/-- **A function's run.** -/
theorem fnK_ok {ρ : Type} {L : Nat → Option LSpec} {inl : Inl ρ} {f : FuncId} {args : List AV} {ob : List (Nat × AV)} {k : AV → List (Nat × AV) → Option ρ} {r : ρ} {vals : Array Value}
    (hG : GoodEnv V) (hI : InlOK V inl) (hJ : Stays J) (hLJ : ∀ id s, L id = some s → ∀ c, J c)
    (hL : ∀ fn c, V.P.funcs[f]? = some fn → fn.body = some c → ∀ c' ∈ loopsOf c, ∀ s, L (firstRegion c') = some s → LoopOK V fn.ntmps s c')
    (hm : Mem w0 (cx w ob mu ok)) (hv : VL (cx w ob mu ok) args vals.toList) (hj : J (cx w ob mu ok)) (h : fnK V L inl rounds f fid args ob k = some r) :
    Calls V.P f vals w fun e w' => ∃ v u ob' mu', e = .returned u ∧ Mem w0 (cx w' ob' mu' ok) ∧ J (cx w' ob' mu' ok) ∧ Mill.V (cx w' ob' mu' ok) v u ∧ k v ob' = some r := by
  unfold fnK at h
  split at h
  case h_2 => cases h
  rename_i fn hf
  split at h
  case h_2 => cases h
  rename_i c hc
  cases hle : Nat.ble args.length fn.ntmps with
  | false => rw [hle] at h; cases h
  | true =>
    rw [hle] at h
    simp only [cond_true] at h
    have hle := Nat.le_of_ble_eq_true hle
    let Δ : List Deferred → Prop := fun ds => ds = [] ∨ ∀ c, J c
    refine (callsIn_wide (n := 0)).1 (callsIn_of_wp_marks (F := Fence.wide) (n := 0) hf hc trivial (evK_ok (Δ := Δ) (ro := none) hG hI hJ hLJ (fun id s hs ds => .inr (hLJ id s hs)) c (fun c' hc' s hs => ⟨hL fn c hf hc c' hc' s hs, fun _ => rfl⟩)
      ⟨[], .inl rfl, mu, params_R hm hv hle, hj⟩ h fun e σ' a' w' hh' h' => ?_))
    obtain ⟨ds', hds, mu', hr', hj'⟩ := hh'
    have fin : (resRd V fn.results.toList fun vs => .ret (resOf vs)).runK σ' [] (fun v _ => k v σ'.ob) = some r → LeavesInM (wideR none) 0 V.P fn a'.tmps
        (fun e w' => ∃ v u ob' mu', e = .returned u ∧ Mem w0 (cx w' ob' mu' ok) ∧ J (cx w' ob' mu' ok) ∧ Mill.V (cx w' ob' mu' ok) v u ∧ k v ob' = some r) a'.defers .returning w' := by
      intro h
      obtain ⟨v, _, h1, h2⟩ := Rd.runK_val h
      rw [hr'.defers]
      refine leaves_ok ds' a' w' hr' fun a1 w1 ht hr1 he => ?_
      obtain ⟨u, hu, huv⟩ := results_ok hr1 h1
      rw [ht] at hu
      refine ⟨u, hu, v, u, σ'.ob, mu', rfl, hr1.mem, ?_, huv, h2⟩
      rcases hds with hds | hds
      · rw [he hds]; exact hj'
      · exact hds _
    cases e with
    | normal => exact fin h'
    | ret => exact fin h'
    | exit id => cases h'
    | goto l => cases h'

theorem loops_none {f : FuncId} : ∀ fn c, V.P.funcs[f]? = some fn → fn.body = some c → ∀ c' ∈ loopsOf c, ∀ s, (fun _ => none : Nat → Option LSpec) (firstRegion c') = some s → LoopOK V fn.ntmps s c' :=
  fun _ _ _ _ _ _ _ h => by cases h

/-- **Calls that are walked into.** -/
theorem inlK_ok {ρ : Type} (hG : GoodEnv V) : ∀ (d : Nat), InlOK V (inlK (ρ := ρ) V rounds d)
  | 0 => fun _ _ _ _ _ _ h => by cases h
  | d + 1 => fun f fid args ob k r h => by
    simp only [inlK] at h
    cases he : V.ent f with
    | false => rw [he] at h; cases h
    | true =>
      rw [he] at h
      simp only [cond_true] at h
      refine ⟨hG.2.2.1 f he, fun w0 ok w mu vals hm hv => ?_⟩
      exact fnK_ok (J := fun c => Mono (cx w ob mu ok) c) hG (inlK_ok hG d) (fun c c' h1 h2 => h1.trans h2) (fun id s hs => by cases hs) loops_none hm hv (Mono.refl _) h

theorem Stays.triv : Stays T := fun _ _ _ _ => trivial

theorem expoVal_moves {κ : Kd} {v x : AV} {ob ob' : List (Nat × AV)} (h : expoVal κ v ob = some (x, ob')) (id : Nat) :
    ∃ os, Moves [v] [(impVal id x).1] ob ob' (impVal id x).2.1 os := by
  unfold expoVal at h
  split at h
  · split at h
    case h_2 => cases h
    split at h
    case h_2 => cases h
    rename_i xs ob1 hx
    simp only [Option.some.injEq, Prod.mk.injEq] at h
    obtain ⟨rfl, rfl⟩ := h
    obtain ⟨os, m⟩ := expoCells_moves hx id
    exact ⟨os, m.agg⟩
  · obtain ⟨os, m⟩ := expoCell_moves h id
    have hx : (impVal id x).1 = (impCell id x).1 ∧ (impVal id x).2.1 = (impCell id x).2.1 := by
      unfold expoCell at h
      repeat' (split at h)
      all_goals first
        | (cases h; done)
        | (simp only [Option.some.injEq, Prod.mk.injEq] at h; obtain ⟨rfl, _⟩ := h; exact ⟨rfl, rfl⟩)
        | (generalize Nat.beq _ _ = b at h
           cases b
           · cases h
           · simp only [cond_true, Option.some.injEq, Prod.mk.injEq] at h; obtain ⟨rfl, _⟩ := h; exact ⟨rfl, rfl⟩)
        | (generalize AV.frozens _ = b at h
           cases b
           · cases h
           · simp only [cond_true, Option.some.injEq, Prod.mk.injEq] at h; obtain ⟨rfl, _⟩ := h; exact ⟨rfl, rfl⟩)
    rw [hx.1, hx.2]
    exact ⟨os, m⟩

theorem expoVals_moves : ∀ {ks : List Kd} {vs xs : List AV} {ob ob' : List (Nat × AV)}, expoVals ks vs ob = some (xs, ob') → ∀ id, ∃ os, Moves vs (impVals id xs).1 ob ob' (impVals id xs).2.1 os
  | [], [], xs, ob, ob', h, id => by
    simp only [expoVals, Option.some.injEq, Prod.mk.injEq] at h
    obtain ⟨rfl, rfl⟩ := h
    exact ⟨[], Moves.nil _⟩
  | κ :: ks, v :: vs, xs, ob, ob', h, id => by
    simp only [expoVals] at h
    split at h
    case h_2 => cases h
    rename_i x ob1 h1
    split at h
    case h_2 => cases h
    rename_i xs' ob2 h2
    simp only [Option.some.injEq, Prod.mk.injEq] at h
    obtain ⟨rfl, rfl⟩ := h
    obtain ⟨os1, m1⟩ := expoVal_moves h1 id
    obtain ⟨os2, m2⟩ := expoVals_moves h2 (impVal id x).2.2
    exact ⟨os1 ++ os2, m1.append m2⟩
  | [], _ :: _, _, _, _, h, _ => by simp [expoVals] at h
  | _ :: _, [], _, _, _, h, _ => by simp [expoVals] at h

theorem expoRes_moves {ks : List Kd} {v r : AV} {ob : List (Nat × AV)} (h : expoRes ks v ob = some r) (id : Nat) : ∃ ob' os, Moves [v] [(impRes id r).1] ob ob' (impRes id r).2 os := by
  unfold expoRes at h
  split at h
  · split at h
    case h_2 => cases h
    rename_i xs ob1 hx
    obtain rfl := Option.some.inj h
    obtain ⟨os, m⟩ := expoVals_moves hx id
    exact ⟨ob1, os, m.tup⟩
  · rename_i hnt
    split at h
    case h_2 => cases h
    rename_i κ
    split at h
    case h_2 => cases h
    rename_i x ob1 hx
    obtain rfl := Option.some.inj h
    obtain ⟨os, m⟩ := expoVal_moves hx id
    have hx' : (impRes id x).1 = (impVal id x).1 ∧ (impRes id x).2 = (impVal id x).2.1 := by
      have : ∀ cs, x ≠ .tup cs := by
        rintro cs rfl
        unfold expoVal expoCell at hx
        repeat' (split at hx)
        all_goals first
          | (cases hx; done)
          | (simp only [Option.some.injEq, Prod.mk.injEq] at hx; cases hx.1; done)
          | (simp only [Option.some.injEq, Prod.mk.injEq] at hx; exact hnt _ hx.1.symm)
          | (generalize Nat.beq _ _ = b at hx
             cases b
             · cases hx
             · simp only [cond_true, Option.some.injEq, Prod.mk.injEq] at hx; cases hx.1)
          | (generalize AV.frozens _ = b at hx
             cases b
             · cases hx
             · simp only [cond_true, Option.some.injEq, Prod.mk.injEq] at hx; cases hx.1)
      cases x <;> first | exact ⟨rfl, rfl⟩ | exact (this _ rfl).elim
    rw [hx'.1, hx'.2]
    exact ⟨ob1, os, m⟩

/-- **What a function answers.** -/
theorem runFn_ok {ρ : Type} {L : Nat → Option LSpec} {f : FuncId} {depth : Nat} {rk : List Kd} {args : List AV} {k : AV → Option ρ} {r : ρ} {vals : Array Value} (hG : GoodEnv V)
    (hL : ∀ fn c, V.P.funcs[f]? = some fn → fn.body = some c → ∀ c' ∈ loopsOf c, ∀ s, L (firstRegion c') = some s → LoopOK V fn.ntmps s c')
    (hv : VL (pcx w ok) args vals.toList) (h : runFn V L rounds depth f rk args k = some r) :
    Calls V.P f vals w fun e w' => ∃ v u, e = .returned u ∧ Below w.heap.size w w' ∧ Res w ok w' v u ∧ k v = some r := by
  unfold runFn at h
  have hm : Mem w (cx w [] (fun _ => none) fun b => ok b ∨ w.heap.size ≤ b) :=
    ⟨fun _ => rfl, fun _ _ _ h => (by cases h), fun _ _ h => (by cases h), Below.refl _ _, fun b hb => .inr hb⟩
  have hv' : VL (cx w [] (fun _ => none) fun b => ok b ∨ w.heap.size ≤ b) args vals.toList := by
    have hmono : Mono (pcx w ok) (cx w [] (fun _ => none) fun b => ok b ∨ w.heap.size ≤ b) := mono_of (fun b hb => ⟨⟨.inl hb.1, hb.2.1, hb.2.2⟩, rfl⟩) (fun id => .inl rfl)
    exact hmono.vl _ _ hv
  refine (fnK_ok (J := T) hG (inlK_ok hG depth) Stays.triv (fun _ _ _ _ => trivial) hL hm hv' trivial h).mono fun e w' he => ?_
  obtain ⟨v, u, ob', mu', rfl, hm', _, hv, hk⟩ := he
  split at hk
  case h_2 => cases hk
  rename_i r' hx
  refine ⟨r', u, rfl, hm'.ext, fun base => ?_, hk⟩
  obtain ⟨ob2, os, m⟩ := expoRes_moves hx base
  obtain ⟨n, hfr⟩ := impRes_fresh base r'
  obtain ⟨mu2, hm2, hv2, _⟩ := moves_mem hm' m hfr.2.2.2 (ob2 := appOb (impRes base r').2 []) (fun p hp => look_appOb_in _ _ p hfr.2.2.2 hp) (fun i hi => by rw [look_appOb_not _ _ _ hi]; rfl)
  exact ⟨mu2, hm2, (hv2 [u] ⟨hv, trivial⟩).1⟩

end
end Go.Proofs.Mill

/- From a function that the kernel computes to what the function does; loops by their rounds. -/
namespace Go.Proofs.Mill
variable {ds : List Deferred}
open Go.RowKit

/-- Rounds, till one ends. -/
inductive Loops {σ ρ : Type} (step : σ → Option (σ ⊕ ρ)) : σ → ρ → Prop
  | done (x : σ) (y : ρ) (h : step x = some (.inr y)) : Loops step x y
  | more (x x' : σ) (y : ρ) (h : step x = some (.inl x')) (k : Loops step x' y) : Loops step x y

/-- So many rounds at most. -/
def whileN {σ ρ : Type} (step : σ → Option (σ ⊕ ρ)) : Nat → σ → Option ρ
  | 0, _ => none
  | n + 1, x => match step x with
    | some (.inl x') => whileN step n x'
    | some (.inr y) => some y
    | none => none

theorem whileN_loops {σ ρ : Type} {step : σ → Option (σ ⊕ ρ)} : ∀ (n : Nat) (x : σ) (y : ρ), whileN step n x = some y → Loops step x y
  | 0, _, _, h => by cases h
  | n + 1, x, y, h => by
    unfold whileN at h
    split at h
    · rename_i x' hs
      exact .more x x' y hs (whileN_loops n x' y h)
    · rename_i z hs
      obtain rfl := Option.some.inj h
      exact .done x z hs
    · cases h

open Classical in
/-- What a loop comes to. -/
noncomputable def whileM {σ ρ : Type} (step : σ → Option (σ ⊕ ρ)) (x : σ) : Option ρ :=
  match whileN step 4096 x with
  | some y => some y
  | none => if h : ∃ y, Loops step x y then some (Classical.choose h) else none

theorem Loops.det {σ ρ : Type} {step : σ → Option (σ ⊕ ρ)} {x : σ} {y z : ρ} (h : Loops step x y) : Loops step x z → y = z := by
  intro k
  induction h with
  | done x y h =>
    cases k with
    | done _ _ k => rw [h] at k; cases k; rfl
    | more _ _ _ k _ => rw [h] at k; cases k
  | more x x' y h _ ih =>
    cases k with
    | done _ _ k => rw [h] at k; cases k
    | more _ _ _ k k2 => rw [h] at k; cases k; exact ih k2

theorem whileM_some {σ ρ : Type} {step : σ → Option (σ ⊕ ρ)} {x : σ} {y : ρ} : whileM step x = some y ↔ Loops step x y := by
  unfold whileM
  cases hw : whileN step 4096 x with
  | some z =>
    have hz := whileN_loops _ _ _ hw
    exact ⟨fun h => by obtain rfl := Option.some.inj h; exact hz, fun h => congrArg some (hz.det h)⟩
  | none =>
  simp only
  constructor
  · intro h
    split at h
    · rename_i hx
      obtain rfl := Option.some.inj h
      exact Classical.choose_spec hx
    · cases h
  · intro h
    rw [dif_pos ⟨y, h⟩]
    exact congrArg some ((Classical.choose_spec (⟨y, h⟩ : ∃ y, Loops step x y)).det h)

theorem whileM_eq {σ ρ : Type} (step : σ → Option (σ ⊕ ρ)) (x : σ) : whileM step x = match step x with
    | some (.inl x') => whileM step x'
    | some (.inr y) => some y
    | none => none := by
  cases h : step x with
  | none =>
    simp only
    cases hw : whileM step x with
    | none => rfl
    | some y =>
      cases whileM_some.1 hw with
      | done _ _ k => rw [h] at k; cases k
      | more _ _ _ k _ => rw [h] at k; cases k
  | some z =>
    cases z with
    | inr y => exact whileM_some.2 (.done x y h)
    | inl x' =>
      simp only
      cases hw : whileM step x' with
      | some y => exact whileM_some.2 (.more x x' y h (whileM_some.1 hw))
      | none =>
        cases hx : whileM step x with
        | none => rfl
        | some y =>
          cases whileM_some.1 hx with
          | done _ _ k => rw [h] at k; cases k
          | more _ _ _ k k2 =>
            rw [h] at k
            cases k
            rw [whileM_some.2 k2] at hw
            cases hw

/-- What a round comes to: a new head, or the loop's end. -/
def roundOut {σ ρ : Type} (keep : List (Nat × Kd)) (keepX : Ex → List (Nat × Kd)) (dec : List AV → Option σ) (dex : Ex → List AV → Option ρ) (e : Ex) (τ : St) : Option (σ ⊕ ρ) :=
  match e with
  | .normal => (match norm keep τ with
    | none => none
    | some hd => match dec hd with | some x => some (.inl x) | none => none)
  | e => (match norm (keepX e) τ with
    | none => none
    | some hd => match dex e hd with | some y => some (.inr y) | none => none)

/-- Is there no loop over a function in it? -/
def noRange (c : Code) : Bool := !(isRange c) && (loopsOf c).all fun c' => !(isRange c')

theorem noRange_ok {c : Code} (h : noRange c = true) : isRange c = false ∧ ∀ c' ∈ loopsOf c, isRange c' = false := by
  unfold noRange at h
  simp only [Bool.and_eq_true, Bool.not_eq_true', List.all_eq_true] at h
  exact h

theorem norm_okE {w0 w : World} {ok : Nat → Prop} {nt : Nat} {σ : St} {a : Act} {Δ : List Deferred → Prop} {J : Cx → Prop} {ks : List (Nat × Kd)} {hd : List AV} (hh : HoldsE Δ J w0 ok nt σ a w) (h : norm ks σ = some hd) : HoldsE anyD T w0 ok nt (build ks hd) a w := by
  obtain ⟨ds, _, hh⟩ := hh
  exact ⟨ds, trivial, norm_ok hh h⟩

/-- **A loop, from its rounds.** -/
theorem loop_ok {V : Env} {L : Nat → Option LSpec} {nt fid rounds depth : Nat} {s : LSpec} {c : Code} {step : s.σ → Option (s.σ ⊕ s.ρ)} {hdOf : s.σ → List AV} {dex : Ex → List AV → Option s.ρ}
    (hG : GoodEnv V) (hdec : ∀ hd x, s.dec hd = some x → hd = hdOf x) (hdex : ∀ e hd y, dex e hd = some y → e ≠ .normal ∧ s.enc y = (e, hd)) (hrun : ∀ x, s.run x = whileM step x)
    (hin : ∀ c' ∈ loopsOf c, ∀ s, L (firstRegion c') = some s → LoopOK V nt s c')
    (hstep : ∀ x, evK V L (inlK V rounds depth) fid nt rounds c (build s.keep (hdOf x)) (roundOut s.keep s.keepX s.dec dex) = step x) (hr : noRange c = true) : LoopOK V nt s c := by
  obtain ⟨hr1, hr2⟩ := noRange_ok hr
  have hin : ∀ (ro : Option Nat), ∀ c' ∈ loopsOf c, ∀ s, L (firstRegion c') = some s → LoopOK V nt s c' ∧ (isRange c' = true → ro = none) := fun ro c' hc' s hs => ⟨hin c' hc' s hs, fun e => by rw [hr2 c' hc'] at e; cases e⟩
  refine .of0 hr1 ?_
  intro ro w0 ok hd x y a w hd1 hy hh
  rw [hrun, whileM_some] at hy
  rw [hdec _ _ hd1] at hh
  clear hd1
  induction hy generalizing a w with
  | done x y h =>
    rw [← hstep x] at h
    refine loopIn_round (evK_ok (J := T) (Δ := anyD) hG (inlK_ok hG depth) Stays.triv (fun _ _ _ _ => trivial) (fun _ _ _ _ => trivial) c (hin ro) hh h fun e σ' a' w' hh' h' => ?_)
    have fin : ∀ e hd' z, norm (s.keepX e) σ' = some hd' → dex e hd' = some z → some (Sum.inr z : s.σ ⊕ s.ρ) = some (.inr y) → e.to = (s.enc y).1.to ∧ HoldsE anyD T w0 ok nt (build (s.keepX (s.enc y).1) (s.enc y).2) a' w' := by
      intro e hd' z hn hz h'
      cases h'
      obtain ⟨_, h2⟩ := hdex _ _ _ hz
      rw [h2]
      exact ⟨rfl, norm_okE hh' hn⟩
    unfold roundOut at h'
    cases e with
    | normal => simp only at h'; (repeat' (split at h')) <;> cases h'
    | exit id => simp only at h'; split at h' <;> first | (cases h'; done) | (rename_i hd' hn; split at h' <;> first | (rename_i z hz; exact fin _ _ z hn hz h') | cases h')
    | goto l => simp only at h'; split at h' <;> first | (cases h'; done) | (rename_i hd' hn; split at h' <;> first | (rename_i z hz; exact fin _ _ z hn hz h') | cases h')
    | ret => simp only at h'; split at h' <;> first | (cases h'; done) | (rename_i hd' hn; split at h' <;> first | (rename_i z hz; exact fin _ _ z hn hz h') | cases h')
  | more x x' y h k ih =>
    rw [← hstep x] at h
    refine loopIn_round (evK_ok (J := T) (Δ := anyD) hG (inlK_ok hG depth) Stays.triv (fun _ _ _ _ => trivial) (fun _ _ _ _ => trivial) c (hin ro) hh h fun e σ' a' w' hh' h' => ?_)
    unfold roundOut at h'
    cases e with
    | normal =>
      simp only at h'
      split at h'
      · cases h'
      rename_i hd' hn
      split at h'
      · rename_i z hz
        cases h'
        have := norm_okE hh' hn
        rw [hdec _ _ hz] at this
        exact ih a' w' this
      · cases h'
    | exit id => simp only at h'; (repeat' (split at h')) <;> cases h'
    | goto l => simp only at h'; (repeat' (split at h')) <;> cases h'
    | ret => simp only at h'; (repeat' (split at h')) <;> cases h'

/-- The loops of a function's body, by their first regions. -/
def fnLoop (P : Program) (f : FuncId) (id : Nat) : Code :=
  match (P.funcs[f]?).bind (·.body) with
  | some c => ((loopsOf c).find? fun c' => Nat.beq (firstRegion c') id).getD .skip
  | none => .skip

def noTwice : List Nat → Bool
  | [] => true
  | x :: r => bif r.all fun y => !(Nat.beq x y) then noTwice r else false

def fnApart (P : Program) (f : FuncId) : Bool :=
  match (P.funcs[f]?).bind (·.body) with
  | some c => noTwice ((loopsOf c).map firstRegion)
  | none => true

theorem find_of_noTwice : ∀ (l : List Code), noTwice (l.map firstRegion) = true → ∀ c ∈ l, (l.find? fun c' => Nat.beq (firstRegion c') (firstRegion c)) = some c
  | [], _, _, h => by cases h
  | x :: l, hn, c, h => by
    simp only [List.map_cons, noTwice] at hn
    cases hc : ((l.map firstRegion).all fun y => !(Nat.beq (firstRegion x) y)) with
    | false => rw [hc] at hn; cases hn
    | true =>
      rw [hc] at hn
      rcases List.mem_cons.1 h with rfl | h
      · rw [List.find?_cons_of_pos (by simp)]
      · have hne := List.all_eq_true.1 hc (firstRegion c) (List.mem_map.2 ⟨c, h, rfl⟩)
        have hne' : Nat.beq (firstRegion x) (firstRegion c) = false := by simpa using hne
        rw [List.find?_cons_of_neg (by rw [hne']; simp)]
        exact find_of_noTwice l hn c h

/-- Loops that are known, for a function: each of its numbers. -/
theorem loops_of {V : Env} {L : Nat → Option LSpec} {f : FuncId} {nt : Nat} (ha : fnApart V.P f = true) (hnt : ∀ fn, V.P.funcs[f]? = some fn → fn.ntmps = nt)
    (h : ∀ id s, L id = some s → LoopOK V nt s (fnLoop V.P f id)) :
    ∀ fn c, V.P.funcs[f]? = some fn → fn.body = some c → ∀ c' ∈ loopsOf c, ∀ s, L (firstRegion c') = some s → LoopOK V fn.ntmps s c' := by
  intro fn c hf hc c' hc' s hs
  have h1 := h _ s hs
  unfold fnLoop at h1
  unfold fnApart at ha
  rw [hf] at h1 ha
  simp only [Option.bind_some, hc] at h1 ha
  rw [find_of_noTwice _ ha c' hc'] at h1
  rw [hnt fn hf]
  exact h1

theorem loopsOf_sub : ∀ (c : Code) (c' : Code), c' ∈ loopsOf c → ∀ d ∈ loopsOf c', d ∈ loopsOf c := by
  intro c
  induction c with
  | seq a b iha ihb =>
    intro c' h d hd
    rcases List.mem_append.1 h with h | h
    · exact List.mem_append_left _ (iha c' h d hd)
    · exact List.mem_append_right _ (ihb c' h d hd)
  | cond x a b iha ihb =>
    intro c' h d hd
    rcases List.mem_append.1 h with h | h
    · exact List.mem_append_left _ (iha c' h d hd)
    · exact List.mem_append_right _ (ihb c' h d hd)
  | block id c ih => intro c' h d hd; exact ih c' h d hd
  | loop c ih =>
    intro c' h d hd
    rcases List.mem_cons.1 h with rfl | h
    · exact List.mem_cons_of_mem _ hd
    · exact List.mem_cons_of_mem _ (ih c' h d hd)
  | scope c ih => intro c' h d hd; exact ih c' h d hd
  | rangeFunc g ps x y _ _ =>
    intro c' h d hd
    obtain rfl := List.mem_singleton.1 h
    exact hd
  | _ => intro c' h; cases h

/-- The loops within a loop of a function. -/
theorem inner_of {V : Env} {L : Nat → Option LSpec} {f : FuncId} {nt id : Nat} (ha : fnApart V.P f = true)
    (h : ∀ c' ∈ loopsOf (fnLoop V.P f id), ∀ s, L (firstRegion c') = some s → LoopOK V nt s (fnLoop V.P f (firstRegion c'))) :
    ∀ c' ∈ loopsOf (fnLoop V.P f id), ∀ s, L (firstRegion c') = some s → LoopOK V nt s c' := by
  intro c' hc' s hs
  have h1 := h c' hc' s hs
  have : fnLoop V.P f (firstRegion c') = c' := by
    unfold fnLoop at hc' ⊢
    unfold fnApart at ha
    cases hb : (V.P.funcs[f]?).bind (·.body) with
    | none => rw [hb] at hc'; cases hc'
    | some c =>
      rw [hb] at hc' ha
      simp only at hc' ha ⊢
      have hm : c' ∈ loopsOf c := by
        cases hf : (loopsOf c).find? fun c' => Nat.beq (firstRegion c') id with
        | none => rw [hf] at hc'; cases hc'
        | some d =>
          rw [hf] at hc'
          exact loopsOf_sub c d (List.mem_of_find?_eq_some hf) c' hc'
      rw [find_of_noTwice _ ha c' hm]
      rfl
  rw [this] at h1
  exact h1

/-- **A function, from the function that the kernel computes.** -/
theorem spec_ok {V : Env} {L : Nat → Option LSpec} {f : FuncId} {rounds depth : Nat} {rk : List Kd} {s : Spec} {argsOf : s.α → List AV} {dres : AV → Option s.β} (hG : GoodEnv V)
    (hL : ∀ fn c, V.P.funcs[f]? = some fn → fn.body = some c → ∀ c' ∈ loopsOf c, ∀ s, L (firstRegion c') = some s → LoopOK V fn.ntmps s c')
    (hdec : ∀ avs a, s.dec avs = some a → avs = argsOf a) (hdres : ∀ r b, dres r = some b → r = s.enc b)
    (heq : ∀ a, runFn V L rounds depth f rk (argsOf a) dres = s.fn a) : SpecOK V.P f s := by
  intro w0 ok avs args a b hd hb hv
  rw [hdec _ _ hd] at hv
  refine (runFn_ok hG hL hv ((heq a).trans hb)).mono fun e w' he => ?_
  obtain ⟨v, u, rfl, h1, h2, h3⟩ := he
  rw [hdres _ _ h3] at h2
  exact ⟨u, rfl, h1, h2⟩

end Go.Proofs.Mill
