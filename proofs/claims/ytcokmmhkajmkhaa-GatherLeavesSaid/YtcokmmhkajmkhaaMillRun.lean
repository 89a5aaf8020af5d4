/- The evaluator's run of operations in a row: what each read and wrote. -/
import Derived.Test.YtcokmmhkajmkhaaMillTx
set_option linter.all false
namespace Go.Proofs.Mill
open Go.RowKit

section
variable {V : Env} {fid nt n : Nat} {ops : Array Oper} {bef : List Nat} {σ0 : St} {txs : List (Nat × Tx)}

theorem txK_ok {ρ : Type} {o : Oper} {i : Nat} {done : List (Nat × Tx)} {σ : St} {k : List (Nat × Tx) → St → Option ρ} {r : ρ} (h : txK V fid nt ops bef o i done σ k = some r) :
    ∃ x : Tx, dstOk nt o.dst = true ∧ x.dst = o.dst ∧ txOk bef done i x = true ∧ (∀ τ : St, (∀ l ∈ x.rs, τ.get l = σ.get l) → (opRd V fid ops o).val τ = some (x.v, x.ws)) ∧
      ∃ σ', σ'.like (x.put σ) ∧ k ((i, x) :: done) σ' = some r := by
  unfold txK at h
  cases hd : dstOk nt o.dst with
  | false => rw [hd] at h; cases h
  | true =>
    rw [hd] at h
    simp only [cond_true] at h
    have act : ∀ {σ1 : St} {log : List Loc}, σ.like σ1 → ((evVal V fid o).runK σ1 log fun p rs =>
        bif txOk bef done i ⟨rs, o.dst, p.1, p.2⟩ then k ((i, ⟨rs, o.dst, p.1, p.2⟩) :: done) (σ1.put o.dst p.1 p.2) else none) = some r →
        ∃ x : Tx, x.dst = o.dst ∧ (∀ l ∈ log, l ∈ x.rs) ∧ txOk bef done i x = true ∧ (∀ τ : St, (∀ l ∈ x.rs, τ.get l = σ.get l) → (evVal V fid o).val τ = some (x.v, x.ws)) ∧
          ∃ σ', σ'.like (x.put σ) ∧ k ((i, x) :: done) σ' = some r := by
      intro σ1 log hl h
      obtain ⟨⟨v, ws⟩, rs, h1, h2, h3⟩ := Rd.runK_log h
      simp only at h1
      cases ht : txOk bef done i ⟨rs, o.dst, v, ws⟩ with
      | false => rw [ht] at h1; cases h1
      | true =>
        rw [ht] at h1
        refine ⟨⟨rs, o.dst, v, ws⟩, rfl, h2, ht, fun τ hτ => h3 τ fun l hl' => (hτ l hl').trans (hl l), _, ?_, h1⟩
        exact (Tx.put_like ⟨rs, o.dst, v, ws⟩ hl).symm
    have skip : ∀ {σ1 : St} {log : List Loc}, σ.like σ1 → (bif txOk bef done i ⟨log, o.dst, .tup [], []⟩ then k ((i, ⟨log, o.dst, .tup [], []⟩) :: done) (σ1.put o.dst (.tup []) []) else none) = some r →
        txOk bef done i ⟨log, o.dst, .tup [], []⟩ = true ∧ ∃ σ', σ'.like (Tx.put ⟨log, o.dst, .tup [], []⟩ σ) ∧ k ((i, ⟨log, o.dst, .tup [], []⟩) :: done) σ' = some r := by
      intro σ1 log hl h
      cases ht : txOk bef done i ⟨log, o.dst, .tup [], []⟩ with
      | false => rw [ht] at h; cases h
      | true =>
        rw [ht] at h
        exact ⟨rfl, _, (Tx.put_like ⟨log, o.dst, .tup [], []⟩ hl).symm, h⟩
    unfold opRd
    cases hg : o.guard with
    | none =>
      rw [hg] at h
      obtain ⟨x, h1, _, h2, h3, h4⟩ := act (St.like.refl σ) h
      exact ⟨x, rfl, h1, h2, h3, h4⟩
    | some g =>
      obtain ⟨j, want⟩ := g
      rw [hg] at h
      simp only at h ⊢
      cases hj : (ops[j]?).bind (·.dst) with
      | none => rw [hj] at h; cases h
      | some d =>
        rw [hj] at h
        simp only at h ⊢
        cases hb : look σ.tm d with
        | bool b =>
          rw [hb] at h
          simp only at h
          have pin := pin_like hb
          have rdg : ∀ {x : Tx}, .t d ∈ x.rs → (b == want) = true → (∀ τ : St, (∀ l ∈ x.rs, τ.get l = σ.get l) → (evVal V fid o).val τ = some (x.v, x.ws)) →
              ∀ τ : St, (∀ l ∈ x.rs, τ.get l = σ.get l) → (Rd.rd (.t d) fun | .bool b => bif b == want then evVal V fid o else .ret (.tup [], []) | .tup [] => .ret (.tup [], []) | _ => .fail : Rd (AV × Wr)).val τ = some (x.v, x.ws) := by
            intro x hm hbw hx τ hτ
            have e : τ.get (.t d) = .bool b := (hτ _ hm).trans hb
            simp only [Rd.val, e, hbw, cond_true]
            exact hx τ hτ
          have rds : (b == want) = false → ∀ τ : St, (∀ l ∈ [Loc.t d], τ.get l = σ.get l) →
              (Rd.rd (.t d) fun | .bool b => bif b == want then evVal V fid o else .ret (.tup [], []) | .tup [] => .ret (.tup [], []) | _ => .fail : Rd (AV × Wr)).val τ = some (.tup [], []) := by
            intro hbw τ hτ
            have e : τ.get (.t d) = .bool b := (hτ _ (by simp)).trans hb
            simp only [Rd.val, e, hbw, cond_false]
          cases b <;> cases want <;> simp only [cond_true, cond_false] at h
          · obtain ⟨x, h1, h0, h2, h3, h4⟩ := act pin h
            exact ⟨x, trivial, h1, h2, rdg (h0 _ (by simp)) rfl h3, h4⟩
          · obtain ⟨h2, h4⟩ := skip pin h
            exact ⟨⟨[.t d], o.dst, .tup [], []⟩, trivial, rfl, h2, rds rfl, h4⟩
          · obtain ⟨h2, h4⟩ := skip pin h
            exact ⟨⟨[.t d], o.dst, .tup [], []⟩, trivial, rfl, h2, rds rfl, h4⟩
          · obtain ⟨x, h1, h0, h2, h3, h4⟩ := act pin h
            exact ⟨x, trivial, h1, h2, rdg (h0 _ (by simp)) rfl h3, h4⟩
        | tup vs =>
          rw [hb] at h
          cases vs with
          | cons => cases h
          | nil =>
            obtain ⟨h2, h4⟩ := skip (St.like.refl σ) h
            refine ⟨⟨[.t d], o.dst, .tup [], []⟩, trivial, rfl, h2, fun τ hτ => ?_, h4⟩
            have e : τ.get (.t d) = .tup [] := (hτ _ (by simp)).trans hb
            simp only [Rd.val, e]
        | _ => rw [hb] at h; cases h

theorem txOk_spec {done : List (Nat × Tx)} {i : Nat} {x : Tx} (h : txOk bef done i x = true) : ∀ q ∈ done, (bef.getD i 0).testBit q.1 = true ∨ q.2.apart x = true := by
  intro q hq
  have := List.all_eq_true.1 h q hq
  simpa using this

theorem txsK_run {ρ : Type} : ∀ (l : List Oper) (i : Nat) (done : List (Nat × Tx)) (σ τ : St) (k : St → Option ρ) (r : ρ), txsK V fid nt ops bef l i done σ k = some r → σ.like τ →
    ∃ (txs : List (Nat × Tx)) (σn : St), txs.length = l.length ∧ k σn = some r ∧ σn.like (app txs τ) ∧
      ∀ (j : Nat) (p : Nat × Tx), txs[j]? = some p → p.1 = i + j ∧ (∃ o, l[j]? = some o ∧ dstOk nt o.dst = true ∧ p.2.dst = o.dst ∧
        ∀ τ' : St, (∀ l ∈ p.2.rs, τ'.get l = (app (txs.take j) τ).get l) → (opRd V fid ops o).val τ' = some (p.2.v, p.2.ws)) ∧
        (∀ q ∈ done, (bef.getD (i + j) 0).testBit q.1 = true ∨ q.2.apart p.2 = true) ∧
        ∀ (j' : Nat) (q : Nat × Tx), j' < j → txs[j']? = some q → (bef.getD (i + j) 0).testBit (i + j') = true ∨ q.2.apart p.2 = true
  | [], i, done, σ, τ, k, r, h, hl => ⟨[], σ, rfl, h, hl, fun j p hp => by simp at hp⟩
  | o :: l, i, done, σ, τ, k, r, h, hl => by
    obtain ⟨x, hd, hxd, hok, hval, σ', hl', hk⟩ := txK_ok h
    obtain ⟨txs, σn, hlen, hkn, hln, hall⟩ := txsK_run l (i + 1) ((i, x) :: done) σ' (x.put τ) k r hk (hl'.trans (x.put_like hl))
    refine ⟨(i, x) :: txs, σn, by simp [hlen], hkn, hln, fun j p hp => ?_⟩
    cases j with
    | zero =>
      simp only [List.getElem?_cons_zero, Option.some.injEq] at hp
      subst hp
      exact ⟨rfl, ⟨o, rfl, hd, hxd, fun τ' hτ => hval τ' fun l hl' => (hτ l hl').trans (hl l).symm⟩, txOk_spec hok, fun j' q hj => by omega⟩
    | succ j =>
      obtain ⟨h1, ⟨o', ho', h2, h3, h4⟩, h5, h6⟩ := hall j p (by simpa using hp)
      have e : i + 1 + j = i + (j + 1) := by omega
      rw [e] at h1 h5 h6
      refine ⟨h1, ⟨o', by simpa using ho', h2, h3, fun τ' hτ => h4 τ' hτ⟩, fun q hq => h5 q (List.mem_cons_of_mem _ hq), fun j' q hj hq => ?_⟩
      cases j' with
      | zero =>
        simp only [List.getElem?_cons_zero, Option.some.injEq] at hq
        subst hq
        exact h5 (i, x) (by simp)
      | succ j' =>
        have := h6 j' q (by omega) (by simpa using hq)
        rw [show i + 1 + j' = i + (j' + 1) by omega] at this
        exact this

theorem txRun_of {ρ : Type} {σ : St} {k : St → Option ρ} {r : ρ} (hn : n ≤ ops.size) (h : txsK V fid nt ops bef (ops.toList.take n) 0 [] σ k = some r) :
    ∃ (txs : List (Nat × Tx)) (σn : St), TxRun V fid nt ops bef n σ txs ∧ k σn = some r ∧ σn.like (app txs σ) := by
  obtain ⟨txs, σn, hlen, hk, hl, hall⟩ := txsK_run _ _ _ _ _ _ _ h (St.like.refl σ)
  have hlen' : txs.length = n := by rw [hlen]; simp [Nat.min_eq_left hn]
  refine ⟨txs, σn, ⟨hlen', fun i p hp => by simpa using (hall i p hp).1, fun i p hp => ?_, fun i j p q hji hp hq => by simpa using (hall i p hp).2.2.2 j q hji hq⟩, hk, hl⟩
  obtain ⟨o, ho, h1, h2, h3⟩ := (hall i p hp).2.1
  have hin : i < n := by have := (List.getElem?_eq_some_iff.1 hp).1; omega
  rw [List.getElem?_take_of_lt hin] at ho
  exact ⟨o, by simpa using ho, h1, h2, h3⟩

end
end Go.Proofs.Mill
