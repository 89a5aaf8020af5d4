/- Parts of the proof: MillTx, MillRun, MillBefore, MillDraw, MillExpo, MillNorm, MillFreezeV, MillCode, MillTurn. -/
import Derived.Test.YtaopdopnecognaaGreatMillAll2
import Derived.Scope
import Derived.RangeFuncRecord
import Derived.RangeFuncOwn
set_option linter.all false
/- Operations whose order is drawn: what they read and write; any order comes to the same. -/
namespace Go.Proofs.Mill
open Go.RowKit

theorem Loc.beq_eq {a b : Loc} : Loc.beq a b = true ↔ a = b := by
  cases a <;> cases b <;> simp [Loc.beq]

theorem Loc.mem_iff (l : Loc) : ∀ (L : List Loc), l.mem L = true ↔ l ∈ L
  | [] => by simp [Loc.mem]
  | a :: L => by
    unfold Loc.mem
    cases h : Loc.beq a l with
    | true => simp [Loc.beq_eq.1 h]
    | false =>
      have hne : l ≠ a := fun e => by
        rw [e] at h
        have := Loc.beq_eq.2 (rfl : a = a)
        rw [h] at this; cases this
      simp [Loc.mem_iff l L, hne]

/-- A reading that says what it reads. -/
theorem Rd.runK_log {α ρ : Type} {k : α → List Loc → Option ρ} {σ : St} {r : ρ} : ∀ {x : Rd α} {log : List Loc}, x.runK σ log k = some r →
    ∃ a log', k a log' = some r ∧ (∀ l ∈ log, l ∈ log') ∧ ∀ τ : St, (∀ l ∈ log', τ.get l = σ.get l) → x.val τ = some a
  | .ret a, log, h => ⟨a, log, h, fun _ h => h, fun _ _ => rfl⟩
  | .rd l f, log, h => by
    obtain ⟨a, log', h1, h2, h3⟩ := Rd.runK_log (x := f (σ.get l)) h
    refine ⟨a, log', h1, fun x hx => h2 x (List.mem_cons_of_mem _ hx), fun τ hτ => ?_⟩
    show (f (τ.get l)).val τ = some a
    rw [hτ l (h2 l (by simp))]
    exact h3 τ hτ
  | .ask b t e, log, h => by
    cases b
    · exact Rd.runK_log (x := e) h
    · exact Rd.runK_log (x := t) h
  | .call x f, log, h => by
    cases x with
    | none => simp [Rd.runK] at h
    | some y => exact Rd.runK_log (x := f y) h
  | .fail, log, h => by simp [Rd.runK] at h

def Tx.put (x : Tx) (σ : St) : St := σ.put x.dst x.v x.ws

theorem look_appOb_has : ∀ (ws : Wr) (ob ob' : List (Nat × AV)) (id : Nat), (look ob id = look ob' id ∨ ∃ p ∈ ws, p.1 = id) → look (appOb ws ob) id = look (appOb ws ob') id
  | [], _, _, _, h => by
    rcases h with h | ⟨p, hp, _⟩
    · exact h
    · cases hp
  | p :: ws, ob, ob', id, h => by
    show look (appOb ws (p :: ob)) id = look (appOb ws (p :: ob')) id
    refine look_appOb_has ws _ _ id ?_
    by_cases e : p.1 = id
    · left; subst e; obtain ⟨i, o⟩ := p; rw [look_eq, look_eq]
    · rcases h with h | ⟨q, hq, he⟩
      · left; obtain ⟨i, o⟩ := p; rw [look_ne _ _ e, look_ne _ _ e]; exact h
      · rcases List.mem_cons.1 hq with rfl | hq
        · exact (e he).elim
        · exact .inr ⟨q, hq, he⟩

theorem Tx.put_in (x : Tx) (l : Loc) (h : l ∈ x.wl) (σ τ : St) : (x.put σ).get l = (x.put τ).get l := by
  obtain ⟨rs, dst, v, ws⟩ := x
  cases l with
  | m n =>
    have hm : ∃ p ∈ ws, p.1 = n := by
      cases dst <;> simp [Tx.wl] at h <;> obtain ⟨b, hb⟩ := h <;> exact ⟨_, hb, rfl⟩
    show look (St.put σ dst v ws).ob n = look (St.put τ dst v ws).ob n
    rw [put_ob, put_ob]
    exact look_appOb_has _ _ _ _ (.inr hm)
  | t n =>
    cases dst with
    | none => simp [Tx.wl] at h
    | some d =>
      simp [Tx.wl] at h
      subst h
      show look ((n, v) :: σ.tm) n = look ((n, v) :: τ.tm) n
      rw [look_eq, look_eq]

theorem Tx.put_out (x : Tx) (l : Loc) (h : l ∉ x.wl) (σ : St) : (x.put σ).get l = σ.get l := by
  obtain ⟨rs, dst, v, ws⟩ := x
  cases l with
  | m n =>
    have hm : ∀ p ∈ ws, p.1 ≠ n := by
      rintro ⟨i, o⟩ hp rfl
      apply h
      cases dst <;> simp [Tx.wl] <;> exact ⟨_, hp⟩
    show look (St.put σ dst v ws).ob n = look σ.ob n
    rw [put_ob]
    exact look_appOb_not _ _ _ hm
  | t n =>
    cases dst with
    | none => rfl
    | some d =>
      have hn : d ≠ n := by rintro rfl; apply h; simp [Tx.wl]
      show look ((d, v) :: σ.tm) n = look σ.tm n
      rw [look_ne _ _ hn]

theorem Tx.put_like (x : Tx) {σ τ : St} (h : σ.like τ) : (x.put σ).like (x.put τ) := by
  intro l
  by_cases hl : l ∈ x.wl
  · exact x.put_in l hl σ τ
  · rw [x.put_out l hl, x.put_out l hl]; exact h l

def app (L : List (Nat × Tx)) (σ : St) : St := L.foldl (fun σ p => p.2.put σ) σ

theorem app_append (L L' : List (Nat × Tx)) (σ : St) : app (L ++ L') σ = app L' (app L σ) := by simp [app]

theorem app_like : ∀ (L : List (Nat × Tx)) {σ τ : St}, σ.like τ → (app L σ).like (app L τ)
  | [], _, _, h => h
  | p :: L, _, _, h => app_like L (p.2.put_like h)

theorem app_get (l : Loc) : ∀ (L : List (Nat × Tx)) (σ τ : St), σ.get l = τ.get l → (app L σ).get l = (app (L.filter fun p => l.mem p.2.wl) τ).get l
  | [], _, _, h => h
  | p :: L, σ, τ, h => by
    show (app L (p.2.put σ)).get l = _
    cases hw : l.mem p.2.wl with
    | true =>
      rw [List.filter_cons_of_pos (by simpa using hw)]
      exact app_get l L _ (p.2.put τ) (p.2.put_in l ((Loc.mem_iff _ _).1 hw) σ τ)
    | false =>
      rw [List.filter_cons_of_neg (by simp [hw])]
      refine app_get l L _ τ ?_
      rw [p.2.put_out l (fun hm => by rw [(Loc.mem_iff _ _).2 hm] at hw; cases hw)]
      exact h

theorem app_skip (l : Loc) (L : List (Nat × Tx)) (σ : St) (h : ∀ p ∈ L, l ∉ p.2.wl) : (app L σ).get l = σ.get l := by
  rw [app_get l L σ σ rfl]
  have : L.filter (fun p => l.mem p.2.wl) = [] := by
    rw [List.filter_eq_nil_iff]
    intro p hp hm
    exact h p hp ((Loc.mem_iff _ _).1 hm)
  rw [this]; rfl

theorem apart_spec {x y : Tx} (h : x.apart y = true) : (∀ l ∈ x.wl, l ∉ y.rs) ∧ (∀ l ∈ y.wl, l ∉ x.rs) ∧ (∀ l ∈ x.wl, l ∉ y.wl) := by
  simp only [Tx.apart, Bool.and_eq_true, apartL, List.all_eq_true] at h
  have key : ∀ {L : List Loc} {l : Loc}, (!l.mem L) = true → l ∉ L := by
    intro L l h hm
    rw [(Loc.mem_iff _ _).2 hm] at h
    cases h
  exact ⟨fun l hl => key (h.1.1 l hl), fun l hl => key (h.1.2 l hl), fun l hl => key (h.2 l hl)⟩

/-- What is known of the operations, done one after the other. -/
structure TxRun (V : Env) (fid nt : Nat) (ops : Array Oper) (bef : List Nat) (n : Nat) (σ0 : St) (txs : List (Nat × Tx)) : Prop where
  len : txs.length = n
  idx : ∀ (i : Nat) (p : Nat × Tx), txs[i]? = some p → p.1 = i
  op : ∀ (i : Nat) (p : Nat × Tx), txs[i]? = some p → ∃ o, ops[i]? = some o ∧ dstOk nt o.dst = true ∧ p.2.dst = o.dst ∧
    ∀ τ : St, (∀ l ∈ p.2.rs, τ.get l = (app (txs.take i) σ0).get l) → (opRd V fid ops o).val τ = some (p.2.v, p.2.ws)
  free : ∀ (i j : Nat) (p q : Nat × Tx), j < i → txs[i]? = some p → txs[j]? = some q → (bef.getD i 0).testBit j = true ∨ q.2.apart p.2 = true

section
variable {V : Env} {fid nt n : Nat} {ops : Array Oper} {bef : List Nat} {σ0 : St} {txs : List (Nat × Tx)}

/-- A set of operations that are done: with each those that come ahead of it. -/
def ClosedIn (bef : List Nat) (S : Nat → Bool) : Prop := ∀ i j, S i = true → (bef.getD i 0).testBit j = true → S j = true

def canon (txs : List (Nat × Tx)) (σ0 : St) (S : Nat → Bool) : St := app (txs.filter fun p => S p.1) σ0

theorem filter_take : ∀ (L : List (Nat × Tx)) (i0 m : Nat), (∀ k p, L[k]? = some p → p.1 = i0 + k) → L.filter (fun p => decide (p.1 < i0 + m)) = L.take m
  | [], _, _, _ => by simp
  | p :: L, i0, m, h => by
    have h0 := h 0 p rfl
    have hL : ∀ k q, L[k]? = some q → q.1 = (i0 + 1) + k := fun k q hq => by have := h (k + 1) q (by simpa using hq); omega
    cases m with
    | zero =>
      rw [List.take_zero, List.filter_eq_nil_iff]
      intro q hq
      obtain ⟨k, hk⟩ := List.getElem?_of_mem hq
      have := h k q hk
      simp; omega
    | succ m =>
      rw [List.filter_cons_of_pos (by simp; omega), List.take_succ_cons]
      have := filter_take L (i0 + 1) m hL
      rw [← this]
      congr 1
      apply List.filter_congr
      intro q hq
      have : (q.1 < i0 + (m + 1)) ↔ (q.1 < i0 + 1 + m) := by omega
      simp [this]

theorem canon_reads (h : TxRun V fid nt ops bef n σ0 txs) {S : Nat → Bool} (hS : ClosedIn bef S) {i : Nat} {p : Nat × Tx} (hp : txs[i]? = some p) (hi : S i = false)
    (hb : ∀ j, (bef.getD i 0).testBit j = true → S j = true) {l : Loc} (hl : l ∈ p.2.rs) : (canon txs σ0 S).get l = (app (txs.take i) σ0).get l := by
  have ht := filter_take txs 0 i (fun k q hq => by simpa using h.idx k q hq)
  rw [Nat.zero_add] at ht
  rw [← ht, canon, app_get l _ σ0 σ0 rfl, app_get l (txs.filter fun p => decide (p.1 < i)) σ0 σ0 rfl, List.filter_filter, List.filter_filter]
  congr 2
  apply List.filter_congr
  intro q hq
  obtain ⟨j, hj⟩ := List.getElem?_of_mem hq
  have hqi := h.idx j q hj
  cases hw : l.mem q.2.wl with
  | false => simp
  | true =>
    have hw := (Loc.mem_iff _ _).1 hw
    simp only [Bool.true_and]
    rw [hqi]
    rcases Nat.lt_trichotomy j i with hlt | heq | hgt
    · rcases h.free i j p q hlt hp hj with hf | hf
      · rw [hb j hf]; simp [hlt]
      · exact ((apart_spec hf).1 l hw hl).elim
    · subst heq; rw [hi]; simp
    · have hS' : S j = false := by
        rcases h.free j i q p hgt hj hp with hf | hf
        · cases hs : S j with
          | false => rfl
          | true => rw [hS j i hs hf] at hi; cases hi
        · exact ((apart_spec hf).2.1 l hw hl).elim
      rw [hS']
      have : ¬ j < i := by omega
      simp [this]

theorem canon_step (h : TxRun V fid nt ops bef n σ0 txs) {S S' : Nat → Bool} (hS : ClosedIn bef S) {i : Nat} {p : Nat × Tx} (hp : txs[i]? = some p) (hi : S i = false)
    (hS' : ∀ j, j < n → S' j = (S j || decide (j = i))) : (p.2.put (canon txs σ0 S)).like (canon txs σ0 S') := by
  intro l
  have hmem : ∀ q ∈ txs, q.1 = i → q = p := by
    intro q hq he
    obtain ⟨j, hj⟩ := List.getElem?_of_mem hq
    have := h.idx j q hj
    have hji : j = i := by omega
    subst hji
    rw [hj] at hp
    exact Option.some.inj hp
  have hlt : ∀ q ∈ txs, q.1 < n := by
    intro q hq
    obtain ⟨j, hj⟩ := List.getElem?_of_mem hq
    have h1 := h.idx j q hj
    have h2 := (List.getElem?_eq_some_iff.1 hj).1
    have := h.len
    omega
  by_cases hw : l ∈ p.2.wl
  · obtain ⟨hil, hpe⟩ := List.getElem?_eq_some_iff.1 hp
    have hsplit : txs = txs.take i ++ p :: txs.drop (i + 1) := by
      rw [← hpe, List.getElem_cons_drop, List.take_append_drop]
    have hpost : ∀ q ∈ txs.drop (i + 1), ∃ j, i < j ∧ txs[j]? = some q := by
      intro q hq
      obtain ⟨k, hk⟩ := List.getElem?_of_mem hq
      rw [List.getElem?_drop] at hk
      exact ⟨i + 1 + k, by omega, hk⟩
    have hpp : p.1 = i := h.idx i p hp
    have e : canon txs σ0 S' = app ((txs.drop (i + 1)).filter fun q => S' q.1) (p.2.put (app ((txs.take i).filter fun q => S' q.1) σ0)) := by
      unfold canon
      conv => lhs; rw [hsplit]
      rw [List.filter_append, List.filter_cons_of_pos (by rw [hpp, hS' i (by have := h.len; omega)]; simp), app_append]
      rfl
    rw [e, app_skip]
    · exact p.2.put_in l hw _ _
    · intro q hq hm
      rw [List.mem_filter] at hq
      obtain ⟨j, hij, hj⟩ := hpost q hq.1
      have hqj := h.idx j q hj
      have hjn : j < n := by
        have := (List.getElem?_eq_some_iff.1 hj).1
        have := h.len
        omega
      have hsj : S' j = true := by simpa [hqj] using hq.2
      rw [hS' j hjn] at hsj
      have hne : ¬ j = i := by omega
      simp [hne] at hsj
      rcases h.free j i q p hij hj hp with hf | hf
      · rw [hS j i hsj hf] at hi; cases hi
      · exact (apart_spec hf).2.2 l hw hm
  · rw [p.2.put_out l hw, canon, canon, app_get l _ σ0 σ0 rfl, app_get l (txs.filter fun p => S' p.1) σ0 σ0 rfl, List.filter_filter, List.filter_filter]
    congr 2
    apply List.filter_congr
    intro q hq
    rw [hS' q.1 (hlt q hq)]
    by_cases hqi : q.1 = i
    · have := hmem q hq hqi
      subst this
      have : l.mem q.2.wl = false := by
        cases hh : l.mem q.2.wl with
        | false => rfl
        | true => exact (hw ((Loc.mem_iff _ _).1 hh)).elim
      simp [this]
    · simp [hqi]

end
end Go.Proofs.Mill

/- The evaluator's run of operations in a row: what each read and wrote. -/
namespace Go.Proofs.Mill
open Go.RowKit

section
variable {V : Env} {fid nt n : Nat} {ops : Array Oper} {bef : List Nat} {σ0 : St} {txs : List (Nat × Tx)}

theorem txK_ok {ρ : Type} {o : Oper} {i : Nat} {done : List (Nat × Tx)} {σ : St} {k : List (Nat × Tx) → St → Option ρ} {r : ρ} (h : txK V fid nt ops bef o i done σ k = some r) :
    ∃ x : Tx, dstOk nt o.dst = true ∧ x.dst = o.dst ∧ txOk bef done i x = true ∧ (∀ τ : St, (∀ l ∈ x.rs, τ.get l = σ.get l) → (opRd V fid ops o).val τ = some (x.v, x.ws)) ∧
      ∃ σ', σ'.like (x.put σ) ∧ k ((i, x) :: done) σ' = some r := by
  unfold txK at h
  cases hd : dstOk nt o.dst with
  | false => rw [hd] at h; cases h
  | true =>
    rw [hd] at h
    simp only [cond_true] at h
    have act : ∀ {σ1 : St} {log : List Loc}, σ.like σ1 → ((evVal V fid o).runK σ1 log fun p rs =>
        bif txOk bef done i ⟨rs, o.dst, p.1, p.2⟩ then k ((i, ⟨rs, o.dst, p.1, p.2⟩) :: done) (σ1.put o.dst p.1 p.2) else none) = some r →
        ∃ x : Tx, x.dst = o.dst ∧ (∀ l ∈ log, l ∈ x.rs) ∧ txOk bef done i x = true ∧ (∀ τ : St, (∀ l ∈ x.rs, τ.get l = σ.get l) → (evVal V fid o).val τ = some (x.v, x.ws)) ∧
          ∃ σ', σ'.like (x.put σ) ∧ k ((i, x) :: done) σ' = some r := by
      intro σ1 log hl h
      obtain ⟨⟨v, ws⟩, rs, h1, h2, h3⟩ := Rd.runK_log h
      simp only at h1
      cases ht : txOk bef done i ⟨rs, o.dst, v, ws⟩ with
      | false => rw [ht] at h1; cases h1
      | true =>
        rw [ht] at h1
        refine ⟨⟨rs, o.dst, v, ws⟩, rfl, h2, ht, fun τ hτ => h3 τ fun l hl' => (hτ l hl').trans (hl l), _, ?_, h1⟩
        exact (Tx.put_like ⟨rs, o.dst, v, ws⟩ hl).symm
    have skip : ∀ {σ1 : St} {log : List Loc}, σ.like σ1 → (bif txOk bef done i ⟨log, o.dst, .tup [], []⟩ then k ((i, ⟨log, o.dst, .tup [], []⟩) :: done) (σ1.put o.dst (.tup []) []) else none) = some r →
        txOk bef done i ⟨log, o.dst, .tup [], []⟩ = true ∧ ∃ σ', σ'.like (Tx.put ⟨log, o.dst, .tup [], []⟩ σ) ∧ k ((i, ⟨log, o.dst, .tup [], []⟩) :: done) σ' = some r := by
      intro σ1 log hl h
      cases ht : txOk bef done i ⟨log, o.dst, .tup [], []⟩ with
      | false => rw [ht] at h; cases h
      | true =>
        rw [ht] at h
        exact ⟨rfl, _, (Tx.put_like ⟨log, o.dst, .tup [], []⟩ hl).symm, h⟩
    unfold opRd
    cases hg : o.guard with
    | none =>
      rw [hg] at h
      obtain ⟨x, h1, _, h2, h3, h4⟩ := act (St.like.refl σ) h
      exact ⟨x, rfl, h1, h2, h3, h4⟩
    | some g =>
      obtain ⟨j, want⟩ := g
      rw [hg] at h
      simp only at h ⊢
      cases hj : (ops[j]?).bind (·.dst) with
      | none => rw [hj] at h; cases h
      | some d =>
        rw [hj] at h
        simp only at h ⊢
        cases hb : look σ.tm d with
        | bool b =>
          rw [hb] at h
          simp only at h
          have pin := pin_like hb
          have rdg : ∀ {x : Tx}, .t d ∈ x.rs → (b == want) = true → (∀ τ : St, (∀ l ∈ x.rs, τ.get l = σ.get l) → (evVal V fid o).val τ = some (x.v, x.ws)) →
              ∀ τ : St, (∀ l ∈ x.rs, τ.get l = σ.get l) → (Rd.rd (.t d) fun | .bool b => bif b == want then evVal V fid o else .ret (.tup [], []) | .tup [] => .ret (.tup [], []) | _ => .fail : Rd (AV × Wr)).val τ = some (x.v, x.ws) := by
            intro x hm hbw hx τ hτ
            have e : τ.get (.t d) = .bool b := (hτ _ hm).trans hb
            simp only [Rd.val, e, hbw, cond_true]
            exact hx τ hτ
          have rds : (b == want) = false → ∀ τ : St, (∀ l ∈ [Loc.t d], τ.get l = σ.get l) →
              (Rd.rd (.t d) fun | .bool b => bif b == want then evVal V fid o else .ret (.tup [], []) | .tup [] => .ret (.tup [], []) | _ => .fail : Rd (AV × Wr)).val τ = some (.tup [], []) := by
            intro hbw τ hτ
            have e : τ.get (.t d) = .bool b := (hτ _ (by simp)).trans hb
            simp only [Rd.val, e, hbw, cond_false]
          cases b <;> cases want <;> simp only [cond_true, cond_false] at h
          · obtain ⟨x, h1, h0, h2, h3, h4⟩ := act pin h
            exact ⟨x, trivial, h1, h2, rdg (h0 _ (by simp)) rfl h3, h4⟩
          · obtain ⟨h2, h4⟩ := skip pin h
            exact ⟨⟨[.t d], o.dst, .tup [], []⟩, trivial, rfl, h2, rds rfl, h4⟩
          · obtain ⟨h2, h4⟩ := skip pin h
            exact ⟨⟨[.t d], o.dst, .tup [], []⟩, trivial, rfl, h2, rds rfl, h4⟩
          · obtain ⟨x, h1, h0, h2, h3, h4⟩ := act pin h
            exact ⟨x, trivial, h1, h2, rdg (h0 _ (by simp)) rfl h3, h4⟩
        | tup vs =>
          rw [hb] at h
          cases vs with
          | cons => cases h
          | nil =>
            obtain ⟨h2, h4⟩ := skip (St.like.refl σ) h
            refine ⟨⟨[.t d], o.dst, .tup [], []⟩, trivial, rfl, h2, fun τ hτ => ?_, h4⟩
            have e : τ.get (.t d) = .tup [] := (hτ _ (by simp)).trans hb
            simp only [Rd.val, e]
        | _ => rw [hb] at h; cases h

theorem txOk_spec {done : List (Nat × Tx)} {i : Nat} {x : Tx} (h : txOk bef done i x = true) : ∀ q ∈ done, (bef.getD i 0).testBit q.1 = true ∨ q.2.apart x = true := by
  intro q hq
  have := List.all_eq_true.1 h q hq
  simpa using this

theorem txsK_run {ρ : Type} : ∀ (l : List Oper) (i : Nat) (done : List (Nat × Tx)) (σ τ : St) (k : St → Option ρ) (r : ρ), txsK V fid nt ops bef l i done σ k = some r → σ.like τ →
    ∃ (txs : List (Nat × Tx)) (σn : St), txs.length = l.length ∧ k σn = some r ∧ σn.like (app txs τ) ∧
      ∀ (j : Nat) (p : Nat × Tx), txs[j]? = some p → p.1 = i + j ∧ (∃ o, l[j]? = some o ∧ dstOk nt o.dst = true ∧ p.2.dst = o.dst ∧
        ∀ τ' : St, (∀ l ∈ p.2.rs, τ'.get l = (app (txs.take j) τ).get l) → (opRd V fid ops o).val τ' = some (p.2.v, p.2.ws)) ∧
        (∀ q ∈ done, (bef.getD (i + j) 0).testBit q.1 = true ∨ q.2.apart p.2 = true) ∧
        ∀ (j' : Nat) (q : Nat × Tx), j' < j → txs[j']? = some q → (bef.getD (i + j) 0).testBit (i + j') = true ∨ q.2.apart p.2 = true
  | [], i, done, σ, τ, k, r, h, hl => ⟨[], σ, rfl, h, hl, fun j p hp => by simp at hp⟩
  | o :: l, i, done, σ, τ, k, r, h, hl => by
    obtain ⟨x, hd, hxd, hok, hval, σ', hl', hk⟩ := txK_ok h
    obtain ⟨txs, σn, hlen, hkn, hln, hall⟩ := txsK_run l (i + 1) ((i, x) :: done) σ' (x.put τ) k r hk (hl'.trans (x.put_like hl))
    refine ⟨(i, x) :: txs, σn, by simp [hlen], hkn, hln, fun j p hp => ?_⟩
    cases j with
    | zero =>
      simp only [List.getElem?_cons_zero, Option.some.injEq] at hp
      subst hp
      exact ⟨rfl, ⟨o, rfl, hd, hxd, fun τ' hτ => hval τ' fun l hl' => (hτ l hl').trans (hl l).symm⟩, txOk_spec hok, fun j' q hj => by omega⟩
    | succ j =>
      obtain ⟨h1, ⟨o', ho', h2, h3, h4⟩, h5, h6⟩ := hall j p (by simpa using hp)
      have e : i + 1 + j = i + (j + 1) := by omega
      rw [e] at h1 h5 h6
      refine ⟨h1, ⟨o', by simpa using ho', h2, h3, fun τ' hτ => h4 τ' hτ⟩, fun q hq => h5 q (List.mem_cons_of_mem _ hq), fun j' q hj hq => ?_⟩
      cases j' with
      | zero =>
        simp only [List.getElem?_cons_zero, Option.some.injEq] at hq
        subst hq
        exact h5 (i, x) (by simp)
      | succ j' =>
        have := h6 j' q (by omega) (by simpa using hq)
        rw [show i + 1 + j' = i + (j' + 1) by omega] at this
        exact this

theorem txRun_of {ρ : Type} {σ : St} {k : St → Option ρ} {r : ρ} (hn : n ≤ ops.size) (h : txsK V fid nt ops bef (ops.toList.take n) 0 [] σ k = some r) :
    ∃ (txs : List (Nat × Tx)) (σn : St), TxRun V fid nt ops bef n σ txs ∧ k σn = some r ∧ σn.like (app txs σ) := by
  obtain ⟨txs, σn, hlen, hk, hl, hall⟩ := txsK_run _ _ _ _ _ _ _ h (St.like.refl σ)
  have hlen' : txs.length = n := by rw [hlen]; simp [Nat.min_eq_left hn]
  refine ⟨txs, σn, ⟨hlen', fun i p hp => by simpa using (hall i p hp).1, fun i p hp => ?_, fun i j p q hji hp hq => by simpa using (hall i p hp).2.2.2 j q hji hq⟩, hk, hl⟩
  obtain ⟨o, ho, h1, h2, h3⟩ := (hall i p hp).2.1
  have hin : i < n := by have := (List.getElem?_eq_some_iff.1 hp).1; omega
  rw [List.getElem?_take_of_lt hin] at ho
  exact ⟨o, by simpa using ho, h1, h2, h3⟩

end
end Go.Proofs.Mill

/- What comes ahead of what in a region. -/
namespace Go.Proofs.Mill
open Go.RowKit Go.CheckFast

def befA (l : List Oper) (A : Array Nat) : Array Nat := l.foldl (fun acc o => acc.push (one (fun i => acc.getD i 0) o)) A

theorem befA_size : ∀ (l : List Oper) (A : Array Nat), (befA l A).size = A.size + l.length
  | [], A => by simp [befA]
  | o :: l, A => by
    show (befA l (A.push _)).size = _
    rw [befA_size l]
    simp; omega

theorem befA_old : ∀ (l : List Oper) (A : Array Nat) (j : Nat), j < A.size → (befA l A).getD j 0 = A.getD j 0
  | [], A, j, _ => rfl
  | o :: l, A, j, h => by
    show (befA l (A.push _)).getD j 0 = _
    rw [befA_old l _ j (by simp; omega)]
    simp [Array.getD_eq_getD_getElem?, Array.getElem?_push, Nat.ne_of_lt h]

theorem befA_at : ∀ (l : List Oper) (A : Array Nat) (k : Nat) (o : Oper), l[k]? = some o → (befA l A).getD (A.size + k) 0 = one (fun e => if e < A.size + k then (befA l A).getD e 0 else 0) o
  | [], _, _, _, h => by simp at h
  | o :: l, A, 0, o', h => by
    simp only [List.getElem?_cons_zero, Option.some.injEq] at h
    subst h
    have e : (fun e => if e < A.size + 0 then (befA (o :: l) A).getD e 0 else 0) = fun e => A.getD e 0 := by
      funext e
      by_cases he : e < A.size
      · rw [if_pos (by omega), befA_old _ _ _ he]
      · rw [if_neg (by omega)]
        simp [Array.getD, he]
    rw [e]
    show (befA l (A.push _)).getD _ 0 = _
    rw [befA_old l _ _ (by simp)]
    simp [Array.getD_eq_getD_getElem?]
  | o :: l, A, k + 1, o', h => by
    have := befA_at l (A.push (one (fun i => A.getD i 0) o)) k o' (by simpa using h)
    simp only [Array.size_push] at this
    rw [show A.size + 1 + k = A.size + (k + 1) by omega] at this
    exact this

theorem beforeL_befA (l : List Oper) : beforeL l 0 [] = (befA l #[]).toList := by
  have := beforeL_eq l #[]
  simpa [befA] using this

theorem one_bit {look : Nat → Nat} {o : Oper} {j : Nat} (h : (one look o).testBit j = true) : ∃ e ∈ o.after.toList, Region.binds .any e = true ∧ (j = e.on ∨ (look e.on).testBit j = true) := by
  unfold one at h
  rw [← Array.foldl_toList] at h
  have key : ∀ (l : List Edge) (s : Nat), (l.foldl (fun s e => if Region.binds .any e then s ||| 2 ^ e.on ||| look e.on else s) s).testBit j = true →
      s.testBit j = true ∨ ∃ e ∈ l, Region.binds .any e = true ∧ (j = e.on ∨ (look e.on).testBit j = true) := by
    intro l
    induction l with
    | nil => intro s h; exact .inl h
    | cons e l ih =>
      intro s h
      rw [List.foldl_cons] at h
      rcases ih _ h with h | ⟨e', he', h⟩
      · cases hb : Region.binds .any e with
        | false => rw [hb] at h; exact .inl (by simpa using h)
        | true =>
          rw [hb] at h
          simp only [if_true, Nat.testBit_or, Bool.or_eq_true] at h
          rcases h with (h | h) | h
          · exact .inl h
          · refine .inr ⟨e, by simp, hb, .inl ?_⟩
            rw [Nat.testBit_two_pow] at h
            exact (of_decide_eq_true h).symm
          · exact .inr ⟨e, by simp, hb, .inr h⟩
      · exact .inr ⟨e', by simp [he'], h⟩
  rcases key _ 0 h with h | h
  · simp at h
  · exact h

/-- The edges of what is done lead to what is done. -/
def EdgesIn (ops : Array Oper) (S : Nat → Bool) : Prop := ∀ i o, S i = true → ops[i]? = some o → ∀ e ∈ o.after.toList, Region.binds .any e = true → S e.on = true

theorem bef_at (ops : Array Oper) {i : Nat} {o : Oper} (h : ops[i]? = some o) :
    (beforeL ops.toList 0 []).getD i 0 = one (fun e => if e < i then (beforeL ops.toList 0 []).getD e 0 else 0) o := by
  have h1 := befA_at ops.toList #[] i o (by simpa using h)
  have e : ∀ j, (beforeL ops.toList 0 []).getD j 0 = (befA ops.toList #[]).getD j 0 := by
    intro j
    rw [beforeL_befA]
    simp [List.getD_eq_getElem?_getD, Array.getD_eq_getD_getElem?]
  rw [e]
  simp only [Nat.zero_add, List.size_toArray, List.length_nil] at h1
  rw [h1]
  congr 1
  funext j
  rw [e]

theorem bef_none (ops : Array Oper) {i : Nat} (h : ops[i]? = none) : (beforeL ops.toList 0 []).getD i 0 = 0 := by
  have h1 : ops.size ≤ i := by simpa using h
  rw [beforeL_befA, List.getD_eq_getElem?_getD, List.getElem?_eq_none (by
    have := befA_size ops.toList #[]
    simp at this
    simp; omega)]
  rfl

/-- Whatever comes ahead of an operation whose edges lead to what is done is done. -/
theorem bef_done {ops : Array Oper} {S : Nat → Bool} (hS : EdgesIn ops S) : ∀ (i : Nat) (o : Oper), ops[i]? = some o → (∀ e ∈ o.after.toList, Region.binds .any e = true → S e.on = true) →
    ∀ j, ((beforeL ops.toList 0 []).getD i 0).testBit j = true → S j = true := by
  intro i
  induction i using Nat.strongRecOn with
  | _ i ih =>
    intro o ho he j hj
    rw [bef_at ops ho] at hj
    obtain ⟨e, hem, hb, h⟩ := one_bit hj
    rcases h with rfl | h
    · exact he e hem hb
    · by_cases hlt : e.on < i
      · rw [if_pos hlt] at h
        cases hoe : ops[e.on]? with
        | none => rw [bef_none ops hoe] at h; simp at h
        | some o' => exact ih e.on hlt o' hoe (hS e.on o' (he e hem hb) hoe) j h
      · rw [if_neg hlt] at h; simp at h

theorem EdgesIn.closed {ops : Array Oper} {S : Nat → Bool} (hS : EdgesIn ops S) : ClosedIn (beforeL ops.toList 0 []) S := by
  intro i j hi hj
  cases ho : ops[i]? with
  | none => rw [bef_none ops ho] at hj; simp at hj
  | some o => exact bef_done hS i o ho (hS i o hi ho) j hj

theorem backOk_spec : ∀ (l : List Oper) (i : Nat), backOk i l = true → ∀ k o, l[k]? = some o → ∀ e ∈ o.after.toList, Region.binds .any e = true → e.on < i + k
  | [], _, _, _, _, h => by simp at h
  | o :: l, i, hb, k, o', h => by
    unfold backOk at hb
    cases hc : (o.after.toList.all fun e => !(Region.binds .any e) || Nat.blt e.on i) with
    | false => rw [hc] at hb; cases hb
    | true =>
      rw [hc] at hb
      cases k with
      | zero =>
        simp only [List.getElem?_cons_zero, Option.some.injEq] at h
        subst h
        intro e he hbi
        have := List.all_eq_true.1 hc e he
        rw [hbi] at this
        have : Nat.blt e.on i = true := by simpa using this
        rw [Nat.blt_eq] at this
        omega
      | succ k =>
        intro e he hbi
        have := backOk_spec l (i + 1) hb k o' (by simpa using h) e he hbi
        omega

theorem drawnLen_spec (bef : List Nat) : ∀ (n m : Nat), drawnLen bef n ≤ m → m < n → waitsAll bef m = true
  | 0, _, _, h => by omega
  | n + 1, m, h1, h2 => by
    unfold drawnLen at h1
    cases hw : waitsAll bef n with
    | true =>
      rw [hw] at h1
      by_cases e : m = n
      · rw [e]; exact hw
      · exact drawnLen_spec bef n m h1 (by omega)
    | false =>
      rw [hw] at h1
      simp only [cond_false] at h1
      omega

theorem drawnLen_le (bef : List Nat) : ∀ (n : Nat), drawnLen bef n ≤ n
  | 0 => Nat.le_refl _
  | n + 1 => by
    unfold drawnLen
    cases waitsAll bef n
    · exact Nat.le_refl _
    · exact Nat.le_succ_of_le (drawnLen_le bef n)

end Go.Proofs.Mill

/- Regions whose order is drawn. -/
namespace Go.Proofs.Mill
variable {ds : List Deferred}
open Go.RowKit Go.CheckFast

section
variable {V : Env} {J : Cx → Prop} {w0 w : World} {ok : Nat → Prop} {nt fid n : Nat} {σ τ : St} {a : Act} {o : Oper} {v : AV} {ws : Wr} {ops : Array Oper} {ro : Option Nat}

theorem opRd_holds {K : Act → World → Prop} {Q : Exit → Act → World → Prop} (hG : GoodEnv V) (hJ : Stays J) (hh : Holds J w0 ok nt ds σ a w) (hd : dstOk nt o.dst = true)
    (h : (opRd V fid ops o).val σ = some (v, ws)) (hn : ∀ a' w', Holds J w0 ok nt ds (σ.put o.dst v ws) a' w' → K a' w') : wpOne ro V.P ops o Q K a w := by
  have go : ∀ (h : (evVal V fid o).val σ = some (v, ws)), o.wpIn (wideR ro) 0 V.P a w K Q := fun h => evVal_holds hG hJ hh hd h hn
  unfold opRd at h
  split at h
  · rename_i hg
    exact wpOne_do (by simp [Region.wanted, hg]) (go h)
  · rename_i j want hg
    split at h
    · rename_i d hj
      simp only [Rd.val] at h
      change (match look σ.tm d with | .bool b => _ | .tup [] => _ | _ => _ : Rd (AV × Wr)).val σ = _ at h
      split at h
      · rename_i b hb
        obtain ⟨mu, hr, hj'⟩ := hh
        have hy := yielded_of hr hj hb
        cases hbw : b == want with
        | true =>
          rw [hbw] at h
          exact wpOne_do (by simpa [Region.wanted, hg, hy] using hbw) (go h)
        | false =>
          rw [hbw] at h
          refine wpOne_skip (by simpa [Region.wanted, hg, hy] using hbw) ?_
          have h2 := val_ret (show (Rd.ret (AV.tup [], ([] : Wr))).val σ = some (v, ws) from h)
          injection h2 with h2 h3
          subst h2 h3
          exact hn _ _ (Holds.skip ⟨mu, hr, hj'⟩ hd)
      · rename_i hb
        obtain ⟨mu, hr, hj'⟩ := hh
        have hy := yielded_skip hr hj hb
        refine wpOne_skip (by simp [Region.wanted, hg, hy]) ?_
        have h2 := val_ret (show (Rd.ret (AV.tup [], ([] : Wr))).val σ = some (v, ws) from h)
        injection h2 with h2 h3
        subst h2 h3
        exact hn _ _ (Holds.skip ⟨mu, hr, hj'⟩ hd)
      · simp [Rd.val] at h
    · simp [Rd.val] at h

theorem Holds.drawn (hJ : Stays J) (hh : Holds J w0 ok nt ds σ a w) (d : Nat) : Holds J w0 ok nt ds σ a { w with drawn := d } := by
  obtain ⟨mu, hr, hj⟩ := hh
  have hm : Mono (cx w σ.ob mu ok) (cx { w with drawn := d } σ.ob mu ok) := mono_of (fun b hb => ⟨hb, rfl⟩) (fun id => .inr (.inr (.inl ⟨rfl, rfl, fun _ _ => rfl⟩))) (fun _ _ h => ⟨h, rfl⟩)
  refine ⟨mu, ⟨⟨fun id => (hr.mem.obj id).keep hm rfl rfl (fun _ _ => rfl), hr.mem.inj, hr.mem.base, ?_, hr.mem.okn⟩, fun t ht => hm.v _ _ (hr.tm t ht), hr.far, hr.size, hr.defers, hm.marks hr.marks⟩, hJ _ _ hj hm⟩
  obtain ⟨h1, h2, h3, h4, h5⟩ := hr.mem.ext
  exact ⟨h1, h2, h3, h4, h5⟩

/-- What is listed. -/
def inSet (listed : Array Bool) (j : Nat) : Bool := listed.getD j false

theorem ready_spec {listed : Array Bool} (hs : listed.size = ops.size) {i : Nat} (h : i ∈ Region.ready .any ops listed) :
    i < ops.size ∧ inSet listed i = false ∧ ∃ o, ops[i]? = some o ∧ ∀ e ∈ o.after.toList, Region.binds .any e = true → inSet listed e.on = true := by
  unfold Region.ready at h
  simp only [List.mem_filter, List.mem_range, Bool.and_eq_true] at h
  obtain ⟨hi, h1, h2⟩ := h
  refine ⟨hi, ?_, ?_⟩
  · unfold inSet
    have hi' : i < listed.size := by omega
    rw [Array.getD_eq_getD_getElem?, Array.getElem?_eq_getElem hi'] at h1 ⊢
    simpa using h1
  · have hg : ops[i]? = some ops[i] := Array.getElem?_eq_getElem hi
    refine ⟨ops[i], hg, fun e he hb => ?_⟩
    rw [hg] at h2
    simp only [Option.map_some, Option.getD_some, Array.all_eq_true_iff_forall_mem] at h2
    have := h2 e (by simpa using he)
    rw [hb] at this
    simpa [inSet] using this

theorem ready_of {listed : Array Bool} (hs : listed.size = ops.size) {i : Nat} {o : Oper} (ho : ops[i]? = some o) (hn : inSet listed i = false)
    (he : ∀ e ∈ o.after.toList, Region.binds .any e = true → inSet listed e.on = true) : i ∈ Region.ready .any ops listed := by
  obtain ⟨hi, hg⟩ := Array.getElem?_eq_some_iff.1 ho
  unfold Region.ready
  simp only [List.mem_filter, List.mem_range, Bool.and_eq_true]
  refine ⟨hi, ?_, ?_⟩
  · unfold inSet at hn
    have hi' : i < listed.size := by omega
    rw [Array.getD_eq_getD_getElem?, Array.getElem?_eq_getElem hi'] at hn ⊢
    simpa using hn
  · rw [ho]
    simp only [Option.map_some, Option.getD_some, Array.all_eq_true_iff_forall_mem]
    intro e hem
    cases hb : Region.binds .any e with
    | false => simp
    | true => simpa [inSet] using he e (by simpa using hem) hb

theorem inSet_set (listed : Array Bool) {i : Nat} (hi : i < listed.size) (j : Nat) : inSet (listed.setIfInBounds i true) j = (inSet listed j || decide (j = i)) := by
  unfold inSet
  rw [Array.getD_eq_getD_getElem?, Array.getD_eq_getD_getElem?, Array.getElem?_setIfInBounds]
  by_cases h : i = j
  · subst h; simp [hi]
  · have : ¬ j = i := fun e => h e.symm
    simp [h, this]

theorem cnt_set (listed : Array Bool) {i : Nat} (hi : i < listed.size) (h : inSet listed i = false) : (listed.setIfInBounds i true).toList.count false + 1 = listed.toList.count false := by
  have hl : i < listed.toList.length := by simpa using hi
  have he : listed.toList[i] = false := by
    unfold inSet at h
    rw [Array.getD_eq_getD_getElem?, Array.getElem?_eq_getElem hi] at h
    simpa using h
  rw [Array.toList_setIfInBounds, List.count_set hl, he]
  have : 0 < listed.toList.count false := List.count_pos_iff.2 (he ▸ List.getElem_mem hl)
  have e : (true == false) = false := rfl
  rw [e]
  simp only [beq_self_eq_true, if_true, Bool.false_eq_true, if_false]
  omega

theorem cnt_zero {listed : Array Bool} (h : listed.toList.count false = 0) {j : Nat} (hj : j < listed.size) : inSet listed j = true := by
  rw [List.count_eq_zero] at h
  unfold inSet
  rw [Array.getD_eq_getD_getElem?, Array.getElem?_eq_getElem hj]
  cases hb : listed[j] with
  | true => rfl
  | false =>
    exfalso
    apply h
    rw [← hb]
    exact Array.mem_toList_iff.2 (Array.getElem_mem hj)

theorem cnt_pos {listed : Array Bool} {m : Nat} (h : listed.toList.count false = m + 1) : ∃ j, j < listed.size ∧ inSet listed j = false := by
  have : 0 < listed.toList.count false := by omega
  rw [List.count_pos_iff] at this
  obtain ⟨j, hj, hjv⟩ := List.getElem_of_mem this
  refine ⟨j, by simpa using hj, ?_⟩
  unfold inSet
  have hj' : j < listed.size := by simpa using hj
  rw [Array.getD_eq_getD_getElem?, Array.getElem?_eq_getElem hj']
  simpa using hjv

theorem inSet_lt {listed : Array Bool} {j : Nat} (h : inSet listed j = true) : j < listed.size := by
  apply Classical.byContradiction
  intro hn
  unfold inSet at h
  rw [Array.getD_eq_getD_getElem?, Array.getElem?_eq_none (by omega)] at h
  cases h

theorem wpOp_one {Q : Exit → Act → World → Prop} {K : Act → World → Prop} {i : Nat} (ho : ops[i]? = some o) (h : wpOne ro V.P ops o Q K a w) : wpOpIn (wideR ro) 0 V.P ops Q i K a w := by
  unfold wpOpIn
  rw [ho]
  exact h

/-- The rest, one by one. -/
theorem draw_tail {ρ : Type} {inl : Inl ρ} {k : St → Option ρ} {r : ρ} {Q : Exit → Act → World → Prop} (hG : GoodEnv V) (hI : InlOK V inl) (hJ : Stays J)
    (hback : backOk 0 ops.toList = true) (hwait : ∀ m, n ≤ m → m < ops.size → waitsAll (beforeL ops.toList 0 []) m = true)
    (hn : ∀ σ' a' w', Holds J w0 ok nt ds σ' a' w' → k σ' = some r → Q .normal a' w') :
    ∀ (fuel i : Nat) (listed : Array Bool) (σ : St) (a : Act) (w : World), n ≤ i → i ≤ ops.size → listed.size = ops.size → (∀ j, inSet listed j = decide (j < i)) → listed.toList.count false = fuel →
      Holds J w0 ok nt ds σ a w → opsK V inl fid nt ops (ops.toList.drop i) σ k = some r → wpAnyIn (wideR ro) 0 V.P .any ops Q fuel listed a w := by
  intro fuel
  induction fuel with
  | zero =>
    intro i listed σ a w hni his hs hset hc hh h
    have hi : i = ops.size := by
      apply Classical.byContradiction
      intro hne
      have hlt : i < listed.size := by omega
      have := cnt_zero hc hlt
      rw [hset i] at this
      simp at this
    refine ⟨?_, ?_⟩
    · rw [List.eq_nil_iff_forall_not_mem]
      intro j hj
      obtain ⟨h1, h2, _⟩ := ready_spec hs hj
      have := cnt_zero hc (j := j) (by omega)
      rw [h2] at this
      cases this
    · rw [hi, List.drop_eq_nil_of_le (by simp)] at h
      exact hn _ _ _ hh h
  | succ fuel ih =>
    intro i listed σ a w hni his hs hset hc hh h
    have hi : i < ops.size := by
      apply Classical.byContradiction
      intro hne
      obtain ⟨j, hj, hjf⟩ := cnt_pos hc
      rw [hset j] at hjf
      have := of_decide_eq_false hjf
      omega
    have ho : ops[i]? = some ops[i] := Array.getElem?_eq_getElem hi
    have hnot : inSet listed i = false := by rw [hset i]; simp
    have hedges : EdgesIn ops (inSet listed) := by
      intro j o' hj hoj e he hb
      rw [hset] at hj ⊢
      have hj := of_decide_eq_true hj
      have := backOk_spec _ _ hback j o' (by simpa using hoj) e he hb
      simp; omega
    have hr : i ∈ Region.ready .any ops listed := by
      refine ready_of hs ho hnot fun e he hb => ?_
      have := backOk_spec _ _ hback i ops[i] (by simp [ho]) e he hb
      rw [hset]; simp; omega
    refine ⟨fun e => (by rw [e] at hr; cases hr), fun j hj => ?_⟩
    obtain ⟨h1, h2, oj, hoj, hej⟩ := ready_spec hs hj
    have hji : j = i := by
      apply Classical.byContradiction
      intro hne
      rw [hset j] at h2
      have h2 := of_decide_eq_false h2
      have hw := hwait j (by omega) h1
      have hb := List.all_eq_true.1 hw i (List.mem_range.2 (by omega))
      have := bef_done hedges j oj hoj hej i hb
      rw [hnot] at this
      cases this
    subst hji
    refine wpOp_one ho ?_
    have hd : ops.toList.drop j = ops[j] :: ops.toList.drop (j + 1) := by
      rw [List.drop_eq_getElem_cons (by simpa using hi)]
      simp
    rw [hd] at h
    refine opK_ok hG hI hJ hh h fun σ' a' w' hh' h' => ?_
    refine ih (j + 1) _ σ' a' w' (by omega) (by omega) (by simp [hs]) (fun m => ?_) ?_ hh' h'
    · rw [inSet_set _ (by omega), hset m]
      by_cases h1 : m < j
      · simp [h1]; omega
      · by_cases h2 : m = j
        · simp [h2]
        · have : ¬ m < j + 1 := by omega
          simp [h1, h2, this]
    · have := cnt_set listed (i := j) (by omega) hnot
      omega

/-- The first ones, in any order. -/
theorem draw_head {ρ : Type} {inl : Inl ρ} {k : St → Option ρ} {r : ρ} {Q : Exit → Act → World → Prop} {σ0 σn : St} {txs : List (Nat × Tx)} (hG : GoodEnv V) (hI : InlOK V inl) (hJ : Stays J)
    (hback : backOk 0 ops.toList = true) (hwait : ∀ m, n ≤ m → m < ops.size → waitsAll (beforeL ops.toList 0 []) m = true) (hns : n ≤ ops.size)
    (hrun : TxRun V fid nt ops (beforeL ops.toList 0 []) n σ0 txs) (hln : σn.like (app txs σ0)) (hk : opsK V inl fid nt ops (ops.toList.drop n) σn k = some r)
    (hn : ∀ σ' a' w', Holds J w0 ok nt ds σ' a' w' → k σ' = some r → Q .normal a' w') :
    ∀ (fuel : Nat) (listed : Array Bool) (a : Act) (w : World), listed.size = ops.size → EdgesIn ops (inSet listed) → (∀ j, inSet listed j = true → j < n) → listed.toList.count false = fuel →
      Holds J w0 ok nt ds (canon txs σ0 (inSet listed)) a w → wpAnyIn (wideR ro) 0 V.P .any ops Q fuel listed a w := by
  intro fuel
  induction fuel with
  | zero =>
    intro listed a w hs hedges hlt hc hh
    refine draw_tail hG hI hJ hback hwait hn 0 n listed σn a w (Nat.le_refl _) hns hs (fun j => ?_) hc (hh.like ?_) hk
    · by_cases hj : j < n
      · rw [cnt_zero hc (by omega)]; simp [hj]
      · cases hb : inSet listed j with
        | false => simp [hj]
        | true => exact (hj (hlt j hb)).elim
    · have : txs.filter (fun p => inSet listed p.1) = txs := by
        rw [List.filter_eq_self]
        intro p hp
        obtain ⟨i, hi⟩ := List.getElem?_of_mem hp
        rw [hrun.idx i p hi]
        have := (List.getElem?_eq_some_iff.1 hi).1
        exact cnt_zero hc (by have := hrun.len; omega)
      unfold canon
      rw [this]
      exact hln.symm
  | succ fuel ih =>
    intro listed a w hs hedges hlt hc hh
    by_cases hall : ∀ j, j < n → inSet listed j = true
    · refine draw_tail hG hI hJ hback hwait hn (fuel + 1) n listed σn a w (Nat.le_refl _) hns hs (fun j => ?_) hc (hh.like ?_) hk
      · by_cases hj : j < n
        · rw [hall j hj]; simp [hj]
        · cases hb : inSet listed j with
          | false => simp [hj]
          | true => exact (hj (hlt j hb)).elim
      · have : txs.filter (fun p => inSet listed p.1) = txs := by
          rw [List.filter_eq_self]
          intro p hp
          obtain ⟨i, hi⟩ := List.getElem?_of_mem hp
          rw [hrun.idx i p hi]
          have := (List.getElem?_eq_some_iff.1 hi).1
          exact hall i (by have := hrun.len; omega)
        unfold canon
        rw [this]
        exact hln.symm
    · refine ⟨fun e => ?_, fun i hi => ?_⟩
      · exfalso
        have hex : ∃ j, j < n ∧ inSet listed j = false := by
          apply Classical.byContradiction
          intro hno
          apply hall
          intro j hj
          cases hb : inSet listed j with
          | true => rfl
          | false => exact (hno ⟨j, hj, hb⟩).elim
        have least : ∀ m, (∃ j, j < m ∧ inSet listed j = false) → ∃ j, inSet listed j = false ∧ (∀ i, i < j → inSet listed i = true) ∧ j < m := by
          intro m
          induction m with
          | zero => rintro ⟨j, hj, _⟩; omega
          | succ m ihm =>
            rintro ⟨j, hj, hjf⟩
            by_cases hlow : ∃ j, j < m ∧ inSet listed j = false
            · obtain ⟨j', h1, h2, h3⟩ := ihm hlow
              exact ⟨j', h1, h2, by omega⟩
            · refine ⟨m, ?_, fun i hi => ?_, by omega⟩
              · have : j = m := by
                  apply Classical.byContradiction
                  intro hne
                  exact hlow ⟨j, by omega, hjf⟩
                rw [← this]; exact hjf
              · cases hb : inSet listed i with
                | true => rfl
                | false => exact (hlow ⟨i, hi, hb⟩).elim
        obtain ⟨j, hjf, hbelow, hjn⟩ := least n hex
        have hjs : j < ops.size := by omega
        have hr : j ∈ Region.ready .any ops listed := ready_of hs (Array.getElem?_eq_getElem hjs) hjf fun e he hb =>
          hbelow _ (by have := backOk_spec _ _ hback j ops[j] (by simp [hjs]) e he hb; omega)
        rw [e] at hr
        cases hr
      · obtain ⟨h1, h2, o, ho, he⟩ := ready_spec hs hi
        have hbd := bef_done hedges i o ho he
        have hin : i < n := by
          apply Classical.byContradiction
          intro hnn
          apply hall
          intro j hj
          have hw := hwait i (by omega) h1
          exact hbd j (List.all_eq_true.1 hw j (List.mem_range.2 (by omega)))
        have hlen := hrun.len
        have hp : txs[i]? = some txs[i] := List.getElem?_eq_getElem (by omega)
        obtain ⟨o', ho', hd, hdst, hval⟩ := hrun.op i _ hp
        rw [ho] at ho'
        obtain rfl := Option.some.inj ho'
        have hv := hval (canon txs σ0 (inSet listed)) fun l hl => canon_reads hrun hedges.closed hp h2 hbd hl
        refine wpOp_one ho (opRd_holds hG hJ hh hd hv fun a' w' hh' => ?_)
        have hset : ∀ j, inSet (listed.setIfInBounds i true) j = (inSet listed j || decide (j = i)) := fun j => inSet_set _ (by omega) j
        refine ih _ a' w' (by simp [hs]) ?_ ?_ ?_ (hh'.like ?_)
        · intro j oj hj hoj e hem hb
          rw [hset] at hj ⊢
          simp only [Bool.or_eq_true, decide_eq_true_eq] at hj ⊢
          rcases hj with hj | hj
          · exact .inl (hedges j oj hj hoj e hem hb)
          · subst hj
            rw [ho] at hoj
            obtain rfl := Option.some.inj hoj
            exact .inl (he e hem hb)
        · intro j hj
          rw [hset] at hj
          simp only [Bool.or_eq_true, decide_eq_true_eq] at hj
          rcases hj with hj | hj
          · exact hlt j hj
          · omega
        · have := cnt_set listed (i := i) (by omega) h2
          omega
        · have := canon_step hrun hedges.closed hp h2 (S' := inSet (listed.setIfInBounds i true)) (fun j _ => hset j)
          unfold Tx.put at this
          rw [hdst] at this
          exact this

theorem regK_ok {ρ : Type} {inl : Inl ρ} {k : St → Option ρ} {r : ρ} {Q : Exit → Act → World → Prop} {id : Nat} {draw : Bool} (hG : GoodEnv V) (hI : InlOK V inl) (hJ : Stays J)
    (hh : Holds J w0 ok nt ds σ a w) (h : regK V inl fid nt ops draw σ k = some r) (hn : ∀ σ' a' w', Holds J w0 ok nt ds σ' a' w' → k σ' = some r → Q .normal a' w') : (Code.region id ops draw).wpIn (wideR ro) 0 V.P Q a w := by
  unfold regK at h
  cases draw with
  | false => exact wpIn_region_list (opsK_ok hG hI hJ _ hh h hn)
  | true =>
    simp only [cond_true] at h
    rw [forceL_eq, CheckFast.force_eq] at h
    cases hback : backOk 0 ops.toList with
    | false => rw [hback] at h; cases h
    | true =>
      rw [hback] at h
      simp only [cond_true] at h
      have hns : drawnLen (beforeL ops.toList 0 []) ops.toList.length ≤ ops.size := by
        have := drawnLen_le (beforeL ops.toList 0 []) ops.toList.length
        simpa using this
      have hwait : ∀ m, drawnLen (beforeL ops.toList 0 []) ops.toList.length ≤ m → m < ops.size → waitsAll (beforeL ops.toList 0 []) m = true :=
        fun m h1 h2 => drawnLen_spec _ _ m h1 (by simpa using h2)
      obtain ⟨txs, σn, hrun, hk, hln⟩ := txRun_of hns h
      have hnone : ∀ j, inSet (Array.replicate ops.size false) j = false := by
        intro j
        unfold inSet
        rw [Array.getD_eq_getD_getElem?, Array.getElem?_replicate]
        split <;> rfl
      refine wpIn_region_any hG.2.1 (draw_head hG hI hJ hback hwait hns hrun hln hk hn ops.size _ a _ (by simp) (fun j oj hj => by rw [hnone] at hj; cases hj)
        (fun j hj => by rw [hnone] at hj; cases hj) (by simp) ?_)
      have : txs.filter (fun p => inSet (Array.replicate ops.size false) p.1) = [] := by
        rw [List.filter_eq_nil_iff]
        intro p _
        rw [hnone]; simp
      unfold canon
      rw [this]
      exact hh.drawn hJ _

end
end Go.Proofs.Mill

/- Values that leave a frame's store, and come into another one. -/
namespace Go.Proofs.Mill
open Go.RowKit

def Alive (o : AV) : Prop := (∃ e τ, ∃ xs : List τ.den, o = .row e τ xs) ∨ ∃ cs, o = .box cs

/-- How a store goes on while values are taken out of it. -/
def Ev (ob ob' : List (Nat × AV)) : Prop := ∀ i, look ob' i = look ob i ∨ (Alive (look ob i) ∧ look ob' i = .dead) ∨ ∃ e τ, ∃ xs : List τ.den, look ob i = .row e τ xs ∧ look ob' i = .frz τ xs

theorem Ev.refl (ob : List (Nat × AV)) : Ev ob ob := fun _ => .inl rfl

theorem not_alive_dead : ¬ Alive .dead := by rintro (⟨_, _, _, h⟩ | ⟨_, h⟩) <;> cases h
theorem not_alive_frz {τ : Ty} {xs : List τ.den} : ¬ Alive (.frz τ xs) := by rintro (⟨_, _, _, h⟩ | ⟨_, h⟩) <;> cases h

theorem Ev.trans {a b c : List (Nat × AV)} (h : Ev a b) (k : Ev b c) : Ev a c := by
  intro i
  rcases h i with h1 | ⟨h1, h2⟩ | ⟨e, τ, xs, h1, h2⟩
  · rw [← h1]; exact k i
  · rcases k i with k1 | ⟨k1, _⟩ | ⟨_, _, _, k1, _⟩
    · exact .inr (.inl ⟨h1, k1.trans h2⟩)
    · rw [h2] at k1; exact (not_alive_dead k1).elim
    · rw [h2] at k1; cases k1
  · rcases k i with k1 | ⟨k1, _⟩ | ⟨_, _, _, k1, _⟩
    · exact .inr (.inr ⟨e, τ, xs, h1, k1.trans h2⟩)
    · rw [h2] at k1; exact (not_alive_frz k1).elim
    · rw [h2] at k1; cases k1

theorem Ev.dead {a b : List (Nat × AV)} (h : Ev a b) {i : Nat} (hd : look a i = .dead) : look b i = .dead := by
  rcases h i with h1 | ⟨h1, _⟩ | ⟨_, _, _, h1, _⟩
  · exact h1.trans hd
  · rw [hd] at h1; exact (not_alive_dead h1).elim
  · rw [hd] at h1; cases h1

theorem Ev.frz {a b : List (Nat × AV)} (h : Ev a b) {i : Nat} {τ : Ty} {xs : List τ.den} (hd : look a i = .frz τ xs) : look b i = .frz τ xs := by
  rcases h i with h1 | ⟨h1, _⟩ | ⟨_, _, _, h1, _⟩
  · exact h1.trans hd
  · rw [hd] at h1; exact (not_alive_frz h1).elim
  · rw [hd] at h1; cases h1

theorem Ev.alive {a b : List (Nat × AV)} (h : Ev a b) {i : Nat} (hd : Alive (look b i)) : look b i = look a i := by
  rcases h i with h1 | ⟨_, h2⟩ | ⟨_, _, _, _, h2⟩
  · exact h1
  · rw [h2] at hd; exact (not_alive_dead hd).elim
  · rw [h2] at hd; exact (not_alive_frz hd).elim

theorem Ev.kill {ob : List (Nat × AV)} {i : Nat} (h : Alive (look ob i)) : Ev ob ((i, .dead) :: ob) := by
  intro j
  by_cases e : i = j
  · subst e; exact .inr (.inl ⟨h, look_eq _ _ _⟩)
  · exact .inl (look_ne _ _ e)

/-- Two stores, the one that values leave and the one that they come into. -/
structure Cond (ob ob' : List (Nat × AV)) (ws : Wr) (os : List (Option Nat)) (c1 c2 : Cx) : Prop where
  dv : ∀ d v, c1.DV d v → c2.DV d v
  okb : ∀ b, c1.okb b → c2.okb b
  world : c2.w = c1.w
  frz : ∀ i τ (xs : List τ.den), look ob' i = .frz τ xs → c1.ob i = .frz τ xs
  old : ∀ i, look ob' i = .dead → Alive (look ob i) → c1.ob i = look ob i
  new : ∀ q ∈ ws.zip os, c2.ob q.1.1 = q.1.2 ∧ c2.mu q.1.1 = q.2.bind c1.mu

structure Moves (cs ys : List AV) (ob ob' : List (Nat × AV)) (ws : Wr) (os : List (Option Nat)) : Prop where
  ev : Ev ob ob'
  len : os.length = ws.length
  alive : ∀ i, some i ∈ os → Alive (look ob i) ∧ look ob' i = .dead
  nodup : (os.filterMap id).Nodup
  rows : ∀ p ∈ ws, Alive p.2
  sends : ∀ c1 c2, Cond ob ob' ws os c1 c2 → (∀ us, VL c1 cs us → VL c2 ys us) ∧ ((∀ i, ObjOK c1 i) → ∀ p ∈ ws, ObjOK c2 p.1)

theorem Moves.nil (ob : List (Nat × AV)) : Moves [] [] ob ob [] [] :=
  ⟨Ev.refl ob, rfl, fun _ h => (by cases h), List.nodup_nil, fun _ h => (by cases h), fun _ _ _ => ⟨fun us h => by rw [VL_nil h]; trivial, fun _ _ h => (by cases h)⟩⟩

theorem Cond.left {ob ob1 ob' : List (Nat × AV)} {ws1 ws2 : Wr} {os1 os2 : List (Option Nat)} {c1 c2 : Cx} (h1 : os1.length = ws1.length) (k : Ev ob1 ob')
    (h : Cond ob ob' (ws1 ++ ws2) (os1 ++ os2) c1 c2) : Cond ob ob1 ws1 os1 c1 c2 := by
  refine ⟨h.dv, h.okb, h.world, fun i τ xs hi => h.frz i τ xs (k.frz hi), fun i hd ha => h.old i (k.dead hd) ha, fun q hq => h.new q ?_⟩
  rw [List.zip_append h1.symm]
  exact List.mem_append_left _ hq

theorem Cond.right {ob ob1 ob' : List (Nat × AV)} {ws1 ws2 : Wr} {os1 os2 : List (Option Nat)} {c1 c2 : Cx} (h1 : os1.length = ws1.length) (k : Ev ob ob1)
    (h : Cond ob ob' (ws1 ++ ws2) (os1 ++ os2) c1 c2) : Cond ob1 ob' ws2 os2 c1 c2 := by
  refine ⟨h.dv, h.okb, h.world, h.frz, fun i hd ha => ?_, fun q hq => h.new q ?_⟩
  · have e := k.alive ha
    rw [e] at ha ⊢
    exact h.old i hd ha
  · rw [List.zip_append h1.symm]
    exact List.mem_append_right _ hq

theorem Moves.append {cs ys cs' ys' : List AV} {ob ob1 ob' : List (Nat × AV)} {ws1 ws2 : Wr} {os1 os2 : List (Option Nat)} (h : Moves cs ys ob ob1 ws1 os1) (k : Moves cs' ys' ob1 ob' ws2 os2) :
    Moves (cs ++ cs') (ys ++ ys') ob ob' (ws1 ++ ws2) (os1 ++ os2) := by
  refine ⟨h.ev.trans k.ev, by simp [h.len, k.len], fun i hi => ?_, ?_, fun p hp => ?_, fun c1 c2 hc => ?_⟩
  · rcases List.mem_append.1 hi with hi | hi
    · obtain ⟨h1, h2⟩ := h.alive i hi
      exact ⟨h1, k.ev.dead h2⟩
    · obtain ⟨h1, h2⟩ := k.alive i hi
      exact ⟨by rw [← h.ev.alive h1]; exact h1, h2⟩
  · rw [List.filterMap_append, List.nodup_append]
    refine ⟨h.nodup, k.nodup, fun x hx y hy e => ?_⟩
    subst e
    have hx : some x ∈ os1 := by simpa using hx
    have hy : some x ∈ os2 := by simpa using hy
    have := (k.alive x hy).1
    rw [(h.alive x hx).2] at this
    exact not_alive_dead this
  · rcases List.mem_append.1 hp with hp | hp
    · exact h.rows p hp
    · exact k.rows p hp
  · obtain ⟨a1, b1⟩ := h.sends c1 c2 (hc.left h.len k.ev)
    obtain ⟨a2, b2⟩ := k.sends c1 c2 (hc.right h.len h.ev)
    refine ⟨fun us hu => ?_, fun ho p hp => ?_⟩
    · obtain ⟨u1, u2, rfl, h1, h2⟩ := hu.split
      exact (a1 _ h1).append (a2 _ h2)
    · rcases List.mem_append.1 hp with hp | hp
      · exact b1 ho p hp
      · exact b2 ho p hp

/-- What is plain leaves as it is. -/
theorem Moves.plain {v x : AV} {ob : List (Nat × AV)} (h : ∀ c1 c2 : Cx, (∀ d v, c1.DV d v → c2.DV d v) → (∀ i τ (xs : List τ.den), look ob i = .frz τ xs → c1.ob i = .frz τ xs) → ∀ u, V c1 v u → V c2 x u) :
    Moves [v] [x] ob ob [] [] :=
  ⟨Ev.refl ob, rfl, fun _ h => (by cases h), List.nodup_nil, fun _ h => (by cases h), fun c1 c2 hc => ⟨fun us hu => by
    obtain ⟨u, us', rfl, h1, h2⟩ := VL_cons hu
    rw [VL_nil h2]
    exact ⟨h c1 c2 hc.dv hc.frz u h1, trivial⟩, fun _ _ h => (by cases h)⟩⟩

/-- What sees only what nobody writes leaves as it is. -/
theorem Moves.kept {v : AV} {ob : List (Nat × AV)} (h : ∀ c1 c2 : Cx, (∀ d v, c1.DV d v → c2.DV d v) → (∀ b, c1.okb b → c2.okb b) → c2.w = c1.w → ∀ u, V c1 v u → V c2 v u) : Moves [v] [v] ob ob [] [] :=
  ⟨Ev.refl ob, rfl, fun _ h => (by cases h), List.nodup_nil, fun _ h => (by cases h), fun c1 c2 hc => ⟨fun us hu => by
    obtain ⟨u, us', rfl, h1, h2⟩ := VL_cons hu
    rw [VL_nil h2]
    exact ⟨h c1 c2 hc.dv hc.okb hc.world u h1, trivial⟩, fun _ _ h => (by cases h)⟩⟩

mutual
theorem frozen_v {c1 c2 : Cx} (hd : ∀ d v, c1.DV d v → c2.DV d v) (hb : ∀ b, c1.okb b → c2.okb b ∧ c2.w.heap[b]? = c1.w.heap[b]?) : ∀ (v : AV) (u : Value), v.frozen = true → V c1 v u → V c2 v u
  | .int _ _, _, _, h => h
  | .bool _, _, _, h => h
  | .str _, _, _, h => h
  | .lst _ _, _, _, h => hd _ _ h
  | .emp, _, _, h => h
  | .cst _, _, _, h => h
  | .fn _ cs, _, hf, ⟨vs, e, h⟩ => ⟨vs, e, frozens_v hd hb cs vs.toList hf h⟩
  | .cptr cs _, _, hf, ⟨b, cur, e, h1, h2, h3, h4⟩ => ⟨b, cur, e, h1, (hb b h2).1, ((hb b h2).2).trans h3, frozens_v hd hb cs cur.toList hf h4⟩
  | .undef, _, hf, _ | .lstn _ _, _, hf, _ | .own _, _, hf, _ | .ownv _ _ _, _, hf, _ | .ptr _ _, _, hf, _ | .eptr _ _ _, _, hf, _ | .lptr _ _ _ _, _, hf, _ | .agg _, _, hf, _ | .tup _, _, hf, _ | .bfn _ _, _, hf, _
  | .ifc _ _, _, hf, _ | .box _, _, hf, _ | .row _ _ _, _, hf, _ | .frz _ _, _, hf, _ | .dead, _, hf, _ => by cases hf
theorem frozens_v {c1 c2 : Cx} (hd : ∀ d v, c1.DV d v → c2.DV d v) (hb : ∀ b, c1.okb b → c2.okb b ∧ c2.w.heap[b]? = c1.w.heap[b]?) : ∀ (vs : List AV) (us : List Value), AV.frozens vs = true → VL c1 vs us → VL c2 vs us
  | [], [], _, h => h
  | [], _ :: _, _, h => h
  | _ :: _, [], _, h => h
  | v :: vs, u :: us, hf, ⟨h1, h2⟩ => by
    simp only [AV.frozens] at hf
    cases hv : v.frozen with
    | false => rw [hv] at hf; cases hf
    | true =>
      rw [hv] at hf
      exact ⟨frozen_v hd hb v u hv h1, frozens_v hd hb vs us hf h2⟩
end

theorem DVs_to {c1 c2 : Cx} (h : ∀ d v, c1.DV d v → c2.DV d v) : ∀ {ds : List D} {vs : List Value}, c1.DVs ds vs → c2.DVs ds vs
  | [], [], _ => trivial
  | _ :: _, _ :: _, ⟨a, b⟩ => ⟨h _ _ a, DVs_to h b⟩

theorem expoCell_moves {κ : Kd} {v x : AV} {ob ob' : List (Nat × AV)} (h : expoCell κ v ob = some (x, ob')) (id : Nat) :
    ∃ os, Moves [v] [(impCell id x).1] ob ob' (impCell id x).2.1 os := by
  unfold expoCell at h
  split at h
  · rename_i e τ
    split at h
    · rename_i i
      split at h
      · rename_i e' ρ xs hl
        split at h
        case h_2 => cases h
        rename_i hh _
        cases hb : Nat.beq e' e with
        | false => rw [hb] at h; cases h
        | true =>
        rw [hb] at h
        have hb := Nat.eq_of_beq_eq_true hb
        subst hh hb
        simp only [cond_true, Option.some.injEq, Prod.mk.injEq] at h
        obtain ⟨rfl, rfl⟩ := h
        have ha : Alive (look ob i) := .inl ⟨_, _, _, hl⟩
        refine ⟨[some i], Ev.kill ha, rfl, fun j hj => ?_, by simp, fun p hp => ?_, fun c1 c2 hc => ?_⟩
        · simp only [List.mem_singleton, Option.some.injEq] at hj
          subst hj
          exact ⟨ha, look_eq _ _ _⟩
        · simp only [impCell, List.mem_singleton] at hp
          subst hp; exact .inl ⟨_, _, _, rfl⟩
        · have ho := hc.old i (look_eq _ _ _) ha
          rw [hl] at ho
          obtain ⟨hn1, hn2⟩ := hc.new ((id, .row e' ρ xs), some i) (by simp [impCell])
          simp only [Option.bind_some] at hn1 hn2
          refine ⟨fun us hu => ?_, fun hob p hp => ?_⟩
          · obtain ⟨u, us', rfl, h1, h2⟩ := VL_cons hu
            rw [VL_nil h2]
            refine ⟨?_, trivial⟩
            have h1 : OwnV c1 i u := h1
            show OwnV c2 id u
            unfold OwnV at h1 ⊢
            rw [ho] at h1
            rw [hn1]
            simp only at h1 ⊢
            rw [hn2]
            unfold RowAt at h1 ⊢
            rw [hc.world]
            exact h1
          · simp only [impCell, List.mem_singleton] at hp
            subst hp
            have h1 := hob i
            unfold ObjOK at h1 ⊢
            rw [ho] at h1
            rw [hn1]
            simp only at h1 ⊢
            rw [hn2]
            unfold RowAt at h1 ⊢
            rw [hc.world]
            rcases h1 with h1 | ⟨b, cap, cur, k1, k2, k3, k4, k5⟩
            · exact .inl h1
            · exact .inr ⟨b, cap, cur, k1, k2, k3, k4, DVs_to hc.dv k5⟩
      · cases h
    · simp only [Option.some.injEq, Prod.mk.injEq] at h
      obtain ⟨rfl, rfl⟩ := h
      refine ⟨[none], Ev.refl _, rfl, fun j hj => ?_, by simp, fun p hp => ?_, fun c1 c2 hc => ?_⟩
      · simp at hj
      · simp only [impCell, List.mem_singleton] at hp
        subst hp; exact .inl ⟨_, _, _, rfl⟩
      · obtain ⟨hn1, hn2⟩ := hc.new ((id, .row e τ []), none) (by simp [impCell])
        simp only [Option.bind_none] at hn1 hn2
        refine ⟨fun us hu => ?_, fun hob p hp => ?_⟩
        · obtain ⟨u, us', rfl, h1, h2⟩ := VL_cons hu
          rw [VL_nil h2]
          refine ⟨?_, trivial⟩
          simp only [V] at h1
          show OwnV c2 id u
          unfold OwnV
          rw [hn1]
          exact .inl ⟨hn2, rfl, none, h1⟩
        · simp only [impCell, List.mem_singleton] at hp
          subst hp
          unfold ObjOK
          rw [hn1]
          exact .inl ⟨hn2, rfl⟩
    · cases h
  · rename_i τ
    split at h
    · rename_i i
      split at h
      · rename_i e' ρ xs hl
        split at h
        case h_2 => cases h
        rename_i hh _
        subst hh
        simp only [Option.some.injEq, Prod.mk.injEq] at h
        obtain ⟨rfl, rfl⟩ := h
        have hev : Ev ob ((i, .frz ρ xs) :: ob) := by
          intro j
          by_cases e : i = j
          · subst e; exact .inr (.inr ⟨_, _, _, hl, look_eq _ _ _⟩)
          · exact .inl (look_ne _ _ e)
        refine ⟨[], hev, rfl, fun _ h => (by cases h), List.nodup_nil, fun _ h => (by cases h), fun c1 c2 hc => ⟨fun us hu => ?_, fun _ _ h => (by cases h)⟩⟩
        obtain ⟨u, us', rfl, h1, h2⟩ := VL_cons hu
        rw [VL_nil h2]
        refine ⟨hc.dv _ _ ?_, trivial⟩
        have h1 : OwnV c1 i u := h1
        unfold OwnV at h1
        rw [hc.frz i ρ xs (look_eq _ _ _)] at h1
        exact h1
      · rename_i ρ xs hl
        split at h
        case h_2 => cases h
        rename_i hh _
        subst hh
        simp only [Option.some.injEq, Prod.mk.injEq] at h
        obtain ⟨rfl, rfl⟩ := h
        refine ⟨[], Moves.plain fun c1 c2 hd hf u h1 => hd _ _ ?_⟩
        have h1 : OwnV c1 i u := h1
        unfold OwnV at h1
        rw [hf i ρ xs hl] at h1
        exact h1
      · cases h
    · split at h
      case h_2 => cases h
      rename_i hh _
      subst hh
      simp only [Option.some.injEq, Prod.mk.injEq] at h
      obtain ⟨rfl, rfl⟩ := h
      exact ⟨[], Moves.plain fun c1 c2 hd hf u h1 => hd _ _ h1⟩
    · simp only [Option.some.injEq, Prod.mk.injEq] at h
      obtain ⟨rfl, rfl⟩ := h
      refine ⟨[], Moves.plain fun c1 c2 hd hf u h1 => ?_⟩
      simp only [V] at h1
      subst h1
      exact DV.nil _ _ _ (fun _ => rfl)
    · cases h
  · split at h <;> first
      | (cases h; done)
      | (simp only [Option.some.injEq, Prod.mk.injEq] at h
         obtain ⟨rfl, rfl⟩ := h
         exact ⟨[], Moves.plain fun c1 c2 hd hf u h1 => by simpa only [impCell, V] using h1⟩)
      | (simp only [Option.some.injEq, Prod.mk.injEq] at h
         obtain ⟨rfl, rfl⟩ := h
         refine ⟨[], Moves.plain fun c1 c2 hd hf u h1 => ?_⟩
         obtain ⟨vs, e, hv⟩ := h1
         exact ⟨vs, e, by rw [VL_nil hv]; trivial⟩)
  · rename_i f
    split at h
    · rename_i g
      cases hb : Nat.beq g f with
      | false => rw [hb] at h; cases h
      | true =>
        rw [hb] at h
        have hb := Nat.eq_of_beq_eq_true hb
        subst hb
        simp only [cond_true, Option.some.injEq, Prod.mk.injEq] at h
        obtain ⟨rfl, rfl⟩ := h
        refine ⟨[], Moves.plain fun c1 c2 hd hf u h1 => ?_⟩
        obtain ⟨vs, e, hv⟩ := h1
        exact ⟨vs, e, by rw [VL_nil hv]; trivial⟩
    · cases h
  · cases h
  · split at h
    · rename_i f cs
      cases hb : AV.frozens cs with
      | false => rw [hb] at h; cases h
      | true =>
        rw [hb] at h
        simp only [cond_true, Option.some.injEq, Prod.mk.injEq] at h
        obtain ⟨rfl, rfl⟩ := h
        exact ⟨[], Moves.kept fun c1 c2 hd ho hw u h1 => frozen_v hd (fun b h => ⟨ho b h, by rw [hw]⟩) (.fn f cs) u hb h1⟩
    · cases h
  · cases h
  · cases h

theorem expoCells_moves : ∀ {ks : List Kd} {vs xs : List AV} {ob ob' : List (Nat × AV)}, expoCells ks vs ob = some (xs, ob') → ∀ id, ∃ os, Moves vs (impCells id xs).1 ob ob' (impCells id xs).2.1 os
  | [], [], xs, ob, ob', h, id => by
    simp only [expoCells, Option.some.injEq, Prod.mk.injEq] at h
    obtain ⟨rfl, rfl⟩ := h
    exact ⟨[], Moves.nil _⟩
  | κ :: ks, v :: vs, xs, ob, ob', h, id => by
    simp only [expoCells] at h
    split at h
    case h_2 => cases h
    rename_i x ob1 h1
    split at h
    case h_2 => cases h
    rename_i xs' ob2 h2
    simp only [Option.some.injEq, Prod.mk.injEq] at h
    obtain ⟨rfl, rfl⟩ := h
    obtain ⟨os1, m1⟩ := expoCell_moves h1 id
    obtain ⟨os2, m2⟩ := expoCells_moves h2 (impCell id x).2.2
    exact ⟨os1 ++ os2, m1.append m2⟩
  | [], _ :: _, _, _, _, h, _ => by simp [expoCells] at h
  | _ :: _, [], _, _, _, h, _ => by simp [expoCells] at h

theorem Moves.agg {cs ys : List AV} {ob ob' : List (Nat × AV)} {ws : Wr} {os : List (Option Nat)} (h : Moves cs ys ob ob' ws os) : Moves [.agg cs] [.agg ys] ob ob' ws os :=
  ⟨h.ev, h.len, h.alive, h.nodup, h.rows, fun c1 c2 hc => ⟨fun us hu => by
    obtain ⟨u, us', rfl, h1, h2⟩ := VL_cons hu
    rw [VL_nil h2]
    obtain ⟨vs, e, hv⟩ := h1
    exact ⟨⟨vs, e, (h.sends c1 c2 hc).1 _ hv⟩, trivial⟩, (h.sends c1 c2 hc).2⟩⟩

theorem Moves.tup {cs ys : List AV} {ob ob' : List (Nat × AV)} {ws : Wr} {os : List (Option Nat)} (h : Moves cs ys ob ob' ws os) : Moves [.tup cs] [.tup ys] ob ob' ws os :=
  ⟨h.ev, h.len, h.alive, h.nodup, h.rows, fun c1 c2 hc => ⟨fun us hu => by
    obtain ⟨u, us', rfl, h1, h2⟩ := VL_cons hu
    rw [VL_nil h2]
    obtain ⟨vs, e, hv⟩ := h1
    exact ⟨⟨vs, e, (h.sends c1 c2 hc).1 _ hv⟩, trivial⟩, (h.sends c1 c2 hc).2⟩⟩

theorem Moves.box {i n : Nat} {cs ys : List AV} {ob ob' : List (Nat × AV)} {ws : Wr} {os : List (Option Nat)} (hl : look ob i = .box cs) (h : Moves cs ys ((i, .dead) :: ob) ob' ws os) :
    Moves [.ptr i 0] [.ptr n 0] ob ob' ((n, .box ys) :: ws) (some i :: os) := by
  have ha : Alive (look ob i) := .inr ⟨_, hl⟩
  have hk := Ev.kill ha
  have hdead : look ob' i = .dead := h.ev.dead (look_eq _ _ _)
  refine ⟨hk.trans h.ev, by simp [h.len], fun j hj => ?_, ?_, fun p hp => ?_, fun c1 c2 hc => ?_⟩
  · rcases List.mem_cons.1 hj with hj | hj
    · obtain rfl := Option.some.inj hj
      exact ⟨ha, hdead⟩
    · obtain ⟨h1, h2⟩ := h.alive j hj
      exact ⟨by rw [← hk.alive h1]; exact h1, h2⟩
  · rw [show (some i :: os).filterMap id = i :: os.filterMap id from rfl, List.nodup_cons]
    refine ⟨fun hm => ?_, h.nodup⟩
    have hm : some i ∈ os := by simpa using hm
    have := (h.alive i hm).1
    rw [look_eq] at this
    exact not_alive_dead this
  · rcases List.mem_cons.1 hp with rfl | hp
    · exact .inr ⟨_, rfl⟩
    · exact h.rows p hp
  · have hc' : Cond ((i, .dead) :: ob) ob' ws os c1 c2 := hc.right (ws1 := [(n, .box ys)]) (os1 := [some i]) rfl hk
    obtain ⟨a1, b1⟩ := h.sends c1 c2 hc'
    have ho := hc.old i hdead ha
    rw [hl] at ho
    obtain ⟨hn1, hn2⟩ := hc.new ((n, .box ys), some i) (by simp)
    simp only [Option.bind_some] at hn1 hn2
    refine ⟨fun us hu => ?_, fun hob p hp => ?_⟩
    · obtain ⟨u, us', rfl, h1, h2⟩ := VL_cons hu
      rw [VL_nil h2]
      refine ⟨?_, trivial⟩
      have h1 : PtrV c1 i 0 u := h1
      show PtrV c2 n 0 u
      unfold PtrV at h1 ⊢
      rw [ho] at h1
      rw [hn1]
      simp only at h1 ⊢
      rw [hn2]
      exact h1
    · rcases List.mem_cons.1 hp with rfl | hp
      · have h1 := hob i
        unfold ObjOK at h1 ⊢
        rw [ho] at h1
        rw [hn1]
        simp only at h1 ⊢
        rw [hn2, hc.world]
        obtain ⟨b, cur, e, k1, k2, k3⟩ := h1
        exact ⟨b, cur, e, k1, k2, a1 _ k3⟩
      · exact b1 hob p hp

end Go.Proofs.Mill

/- A store that holds only what was taken along. -/
namespace Go.Proofs.Mill
open Go.RowKit

theorem look_mem : ∀ (ob : List (Nat × AV)) (i : Nat), look ob i ≠ .undef → ∃ p ∈ ob, p.1 = i
  | [], i, h => (h rfl).elim
  | (j, o) :: ob, i, h => by
    by_cases e : j = i
    · exact ⟨(j, o), by simp, e⟩
    · rw [look_ne _ _ e] at h
      obtain ⟨p, hp, he⟩ := look_mem ob i h
      exact ⟨p, by simp [hp], he⟩

/-- What was only lent is frozen. -/
theorem ev_freeze {w0 w : World} {ob ob' : List (Nat × AV)} {mu : Nat → Option Nat} {ok : Nat → Prop} (hm : Mem w0 (cx w ob mu ok)) (hev : Ev ob ob') :
    ∃ ob1 mu1, Mem w0 (cx w ob1 mu1 ok) ∧ Mono (cx w ob mu ok) (cx w ob1 mu1 ok) ∧ (∀ i τ (xs : List τ.den), look ob' i = .frz τ xs → look ob1 i = .frz τ xs) ∧
      (∀ i, look ob' i = .dead → look ob1 i = look ob i) := by
  let ws : Wr := ob'.filterMap fun p => match look ob p.1, look ob' p.1 with | .row _ _ _, .frz τ xs => some (p.1, .frz τ xs) | _, _ => none
  have hmem : ∀ p ∈ ws, ∃ e τ, ∃ xs : List τ.den, look ob p.1 = .row e τ xs ∧ look ob' p.1 = .frz τ xs ∧ p.2 = .frz τ xs := by
    intro p hp
    obtain ⟨q, hq, hqp⟩ := List.mem_filterMap.1 hp
    rcases hev q.1 with h1 | ⟨_, h2⟩ | ⟨e, τ, xs, h1, h2⟩
    · rw [h1] at hqp
      cases hl : look ob q.1 <;> rw [hl] at hqp <;> cases hqp
    · rw [h2] at hqp
      cases hl : look ob q.1 <;> rw [hl] at hqp <;> cases hqp
    · rw [h1, h2] at hqp
      simp only [Option.some.injEq] at hqp
      subst hqp
      exact ⟨e, τ, xs, h1, h2, rfl⟩
  have hfz : Fz ob ws := fun p hp => by
    obtain ⟨e, τ, xs, h1, _, h3⟩ := hmem p hp
    exact ⟨e, τ, xs, h1, h3⟩
  obtain ⟨mu1, hm1, hmono, hws, hothers⟩ := freezeAll hfz hm
  refine ⟨appOb ws ob, mu1, hm1, hmono, fun i τ xs hi => ?_, fun i hi => ?_⟩
  · rcases hev i with h1 | ⟨_, h2⟩ | ⟨e, σ, ys, h1, h2⟩
    · by_cases hin : ∃ p ∈ ws, p.1 = i
      · obtain ⟨p, hp, rfl⟩ := hin
        obtain ⟨e, σ, ys, k1, k2, k3⟩ := hmem p hp
        rw [h1, k1] at k2
        cases k2
      · rw [(hothers i fun p hp e => hin ⟨p, hp, e⟩).1, ← h1]
        exact hi
    · rw [hi] at h2; cases h2
    · rw [hi] at h2
      obtain ⟨p, hp, he⟩ := look_mem ob' i (by rw [hi]; intro h; cases h)
      have : (i, AV.frz τ xs) ∈ ws := by
        refine List.mem_filterMap.2 ⟨p, hp, ?_⟩
        rw [he, h1, hi]
      exact hws _ this
  · refine (hothers i fun p hp e => ?_).1
    obtain ⟨_, _, _, _, k2, _⟩ := hmem p hp
    rw [e, hi] at k2
    cases k2

theorem zip_find {ws : Wr} {os : List (Option Nat)} (hn : (ws.map (·.1)).Nodup) (hl : os.length = ws.length) (q : (Nat × AV) × Option Nat) (hq : q ∈ ws.zip os) :
    (ws.zip os).find? (fun x => x.1.1 == q.1.1) = some q := by
  induction ws generalizing os with
  | nil => simp at hq
  | cons p ws ih =>
    cases os with
    | nil => simp at hl
    | cons o os =>
      simp only [List.map_cons, List.nodup_cons] at hn
      rw [List.zip_cons_cons] at hq ⊢
      rcases List.mem_cons.1 hq with rfl | hq'
      · simp
      · have hne : p.1 ≠ q.1.1 := by
          intro e
          apply hn.1
          rw [e]
          exact List.mem_map.2 ⟨q.1, (List.of_mem_zip hq').1, rfl⟩
        rw [List.find?_cons_of_neg (by simpa using hne)]
        exact ih hn.2 (by simpa using hl) hq'

/-- **What was taken out, in a store of its own.** -/
theorem moves_mem {w0 w : World} {ob ob' ob2 : List (Nat × AV)} {mu : Nat → Option Nat} {ok : Nat → Prop} {cs ys : List AV} {ws : Wr} {os : List (Option Nat)}
    (hm : Mem w0 (cx w ob mu ok)) (h : Moves cs ys ob ob' ws os) (hn : (ws.map (·.1)).Nodup) (h2 : ∀ p ∈ ws, look ob2 p.1 = p.2) (h3 : ∀ i, (∀ p ∈ ws, p.1 ≠ i) → look ob2 i = .undef) :
    ∃ mu2, Mem w0 (cx w ob2 mu2 ok) ∧ (∀ us, VL (cx w ob mu ok) cs us → VL (cx w ob2 mu2 ok) ys us) ∧ ∀ b, (cx w ob mu ok).okb b → (cx w ob2 mu2 ok).okb b := by
  obtain ⟨ob1, mu1, hm1, hmono, hfrz, hdead⟩ := ev_freeze hm h.ev
  let mu2 : Nat → Option Nat := fun i => match (ws.zip os).find? (fun x => x.1.1 == i) with | some q => q.2.bind mu1 | none => none
  have hin : ∀ q ∈ ws.zip os, mu2 q.1.1 = q.2.bind mu1 := by
    intro q hq
    show (match (ws.zip os).find? (fun x => x.1.1 == q.1.1) with | some q => q.2.bind mu1 | none => none) = _
    rw [zip_find hn h.len q hq]
  have hof : ∀ i b, mu2 i = some b → ∃ q ∈ ws.zip os, q.1.1 = i ∧ ∃ j, q.2 = some j ∧ mu1 j = some b := by
    intro i b hb
    have hb : (match (ws.zip os).find? (fun x => x.1.1 == i) with | some q => q.2.bind mu1 | none => none) = some b := hb
    cases hf : (ws.zip os).find? (fun x => x.1.1 == i) with
    | none => rw [hf] at hb; cases hb
    | some q =>
      rw [hf] at hb
      have hq := List.mem_of_find?_eq_some hf
      have he := List.find?_some hf
      cases hq2 : q.2 with
      | none => simp only [hq2, Option.bind_none] at hb; cases hb
      | some j =>
        simp only [hq2, Option.bind_some] at hb
        exact ⟨q, hq, by simpa using he, j, hq2, hb⟩
  have hnone : ∀ i, (∀ p ∈ ws, p.1 ≠ i) → mu2 i = none := by
    intro i hi
    cases hb : mu2 i with
    | none => rfl
    | some b =>
      obtain ⟨q, hq, he, _⟩ := hof i b hb
      exact (hi q.1 (List.of_mem_zip hq).1 he).elim
  have hokb : ∀ b, (cx w ob1 mu1 ok).okb b → (cx w ob2 mu2 ok).okb b := by
    intro b hb
    refine ⟨hb.1, hb.2.1, fun i e => ?_⟩
    obtain ⟨_, _, _, j, _, hj⟩ := hof i b e
    exact hb.2.2 j hj
  have hc : Cond ob ob' ws os (cx w ob1 mu1 ok) (cx w ob2 mu2 ok) := by
    refine ⟨fun d v hd => DV.mono hokb (fun _ _ => rfl) hd, hokb, rfl, fun i τ xs hi => hfrz i τ xs hi, fun i hd _ => hdead i hd, fun q hq => ⟨h2 q.1 (List.of_mem_zip hq).1, hin q hq⟩⟩
  obtain ⟨s1, s2⟩ := h.sends _ _ hc
  refine ⟨mu2, ⟨fun i => ?_, fun i j b hi hj => ?_, fun i b hi => ?_, hm1.ext, hm1.okn_of rfl (Nat.le_refl _) fun b _ h2 i e => by
    obtain ⟨_, _, _, j, _, hj⟩ := hof i b e
    exact h2 j hj⟩, fun us hu => s1 us (hmono.vl _ _ hu), fun b hb => hokb b (hmono.blk b hb).1⟩
  · by_cases hi : ∃ p ∈ ws, p.1 = i
    · obtain ⟨p, hp, rfl⟩ := hi
      exact s2 hm1.obj p hp
    · have hi' : ∀ p ∈ ws, p.1 ≠ i := fun p hp e => hi ⟨p, hp, e⟩
      unfold ObjOK
      rw [show (cx w ob2 mu2 ok).ob i = .undef from h3 i hi']
      exact hnone i hi'
  · obtain ⟨q, hq, rfl, a, ha, hma⟩ := hof i b hi
    obtain ⟨q', hq', rfl, a', ha', hma'⟩ := hof j b hj
    have haa : a = a' := hm1.inj a a' b hma hma'
    subst haa
    have key : ∀ {ws : Wr} {os : List (Option Nat)}, (os.filterMap id).Nodup → ∀ {q q' : (Nat × AV) × Option Nat}, q ∈ ws.zip os → q' ∈ ws.zip os → q.2 = some a → q'.2 = some a → q.1.1 = q'.1.1 := by
      intro ws
      induction ws with
      | nil => intro os _ q q' hq; simp at hq
      | cons p ws ih =>
        intro os hnd q q' hq hq' h1 h2
        cases os with
        | nil => simp at hq
        | cons o os =>
          rw [List.zip_cons_cons] at hq hq'
          have tail : (os.filterMap id).Nodup := by
            cases o with
            | none => simpa using hnd
            | some o => simp only [List.filterMap_cons, id_eq, List.nodup_cons] at hnd; exact hnd.2
          have no : o = some a → ∀ {x : (Nat × AV) × Option Nat}, x ∈ ws.zip os → x.2 = some a → False := by
            intro ho x hx hxa
            subst ho
            simp only [List.filterMap_cons, id_eq, List.nodup_cons] at hnd
            apply hnd.1
            have := (List.of_mem_zip hx).2
            rw [hxa] at this
            simpa using this
          rcases List.mem_cons.1 hq with rfl | hq
          · rcases List.mem_cons.1 hq' with rfl | hq'
            · rfl
            · exact (no h1 hq' h2).elim
          · rcases List.mem_cons.1 hq' with rfl | hq'
            · exact (no h2 hq h1).elim
            · exact ih tail hq hq' h1 h2
    exact key h.nodup hq hq' ha ha'
  · obtain ⟨_, _, _, j, _, hj⟩ := hof i b hi
    exact hm1.base j b hj

theorem apartN_nodup : ∀ (ob : List (Nat × AV)), apartN ob = true → (ob.map (·.1)).Nodup
  | [], _ => by simp
  | p :: r, h => by
    unfold apartN at h
    cases hc : (r.all fun q => !(Nat.beq p.1 q.1)) with
    | false => rw [hc] at h; cases h
    | true =>
      rw [hc] at h
      rw [List.map_cons, List.nodup_cons]
      refine ⟨fun hm => ?_, apartN_nodup r h⟩
      obtain ⟨q, hq, he⟩ := List.mem_map.1 hm
      have := List.all_eq_true.1 hc q hq
      rw [he] at this
      simp at this

theorem look_list_in : ∀ (ob : List (Nat × AV)), (ob.map (·.1)).Nodup → ∀ p ∈ ob, look ob p.1 = p.2
  | [], _, _, h => by cases h
  | q :: ob, hn, p, h => by
    simp only [List.map_cons, List.nodup_cons] at hn
    rcases List.mem_cons.1 h with rfl | h
    · exact look_eq _ _ _
    · rw [look_ne _ _ (fun e => hn.1 (by rw [e]; exact List.mem_map.2 ⟨p, h, rfl⟩))]
      exact look_list_in ob hn.2 p h

theorem look_list_out (ob : List (Nat × AV)) (i : Nat) (h : ∀ p ∈ ob, p.1 ≠ i) : look ob i = .undef := by
  apply Classical.byContradiction
  intro hne
  obtain ⟨p, hp, he⟩ := look_mem ob i hne
  exact h p hp he

theorem expoCell_slot {κ : Kd} {v x : AV} {ob ob' : List (Nat × AV)} (h : expoCell κ v ob = some (x, ob')) (id : Nat) :
    (impSlot id x).1 = (impCell id x).1 ∧ (impSlot id x).2 = (impCell id x).2.1 := by
  unfold expoCell at h
  repeat' (split at h)
  all_goals first
    | (cases h; done)
    | (simp only [Option.some.injEq, Prod.mk.injEq] at h; obtain ⟨rfl, _⟩ := h; exact ⟨rfl, rfl⟩)
    | (generalize Nat.beq _ _ = b at h
       cases b
       · cases h
       · simp only [cond_true, Option.some.injEq, Prod.mk.injEq] at h; obtain ⟨rfl, _⟩ := h; exact ⟨rfl, rfl⟩)
    | (generalize AV.frozens _ = b at h
       cases b
       · cases h
       · simp only [cond_true, Option.some.injEq, Prod.mk.injEq] at h; obtain ⟨rfl, _⟩ := h; exact ⟨rfl, rfl⟩)

theorem expoSlot_moves {κ : Kd} {v x : AV} {ob ob' : List (Nat × AV)} (h : expoSlot κ v ob = some (x, ob')) (id : Nat) :
    ∃ os, Moves [v] [(impSlot id x).1] ob ob' (impSlot id x).2 os := by
  unfold expoSlot at h
  split at h
  · rename_i ks
    split at h
    · rename_i i
      split at h
      case h_2 => cases h
      rename_i cs hl
      split at h
      case h_2 => cases h
      rename_i xs ob1 hx
      simp only [Option.some.injEq, Prod.mk.injEq] at h
      obtain ⟨rfl, rfl⟩ := h
      obtain ⟨os, m⟩ := expoCells_moves hx (id + 1)
      exact ⟨some i :: os, m.box hl⟩
    · split at h
      case h_2 => cases h
      rename_i xs ob1 hx
      simp only [Option.some.injEq, Prod.mk.injEq] at h
      obtain ⟨rfl, rfl⟩ := h
      obtain ⟨os, m⟩ := expoCells_moves hx (id + 1)
      exact ⟨os, m.agg⟩
    · cases h
  · obtain ⟨os, m⟩ := expoCell_moves h id
    have hx := expoCell_slot h id
    rw [hx.1, hx.2]
    exact ⟨os, m⟩

end Go.Proofs.Mill

/- A value, and what it sees, becomes what nobody writes. -/
namespace Go.Proofs.Mill
variable {ds : List Deferred}
open Go.RowKit

section
variable {V : Env} {J : Cx → Prop} {w0 w : World} {ok : Nat → Prop} {nt : Nat} {σ : St} {a : Act}

/-- An object that is given up. -/
theorem mem_kill {ob : List (Nat × AV)} {mu : Nat → Option Nat} {id : Nat} (h : Mem w0 (cx w ob mu ok)) :
    Mem w0 (cx w ((id, .dead) :: ob) (upd mu id none) ok) ∧ Mono (cx w ob mu ok) (cx w ((id, .dead) :: ob) (upd mu id none) ok) := by
  have hmu : ∀ j b, upd mu id none j = some b → mu j = some b := by
    intro j b hj
    unfold upd at hj
    split at hj
    · cases hj
    · exact hj
  have hmono : Mono (cx w ob mu ok) (cx w ((id, .dead) :: ob) (upd mu id none) ok) := by
    refine mono_of (fun b hb => ⟨⟨hb.1, hb.2.1, fun j e => hb.2.2 j (hmu j b e)⟩, rfl⟩) (fun j => ?_) (fun b _ h3 => ⟨fun j e => h3 j (hmu j b e), rfl⟩)
    by_cases e : id = j
    · subst e; exact .inr (.inl (look_eq _ _ _))
    · exact .inr (.inr (.inl ⟨look_ne _ _ e, upd_ne _ _ (Ne.symm e), fun _ _ => rfl⟩))
  refine ⟨⟨fun j => ?_, fun i j b hi hj => h.inj i j b (hmu i b hi) (hmu j b hj), fun i b hi => h.base i b (hmu i b hi), h.ext, h.okn_of rfl (Nat.le_refl _) fun b _ h2 j e => h2 j (hmu j b e)⟩, hmono⟩
  by_cases e : id = j
  · subst e
    unfold ObjOK
    rw [show (cx w ((id, .dead) :: ob) (upd mu id none) ok).ob id = .dead from look_eq _ _ _]
    exact upd_eq _ _ _
  · exact (h.obj j).keep hmono (look_ne _ _ e) (upd_ne _ _ (Ne.symm e)) (fun _ _ => rfl)

/-- What a value becomes. -/
def Frz (w0 w : World) (ok : Nat → Prop) (ob ob' : List (Nat × AV)) (P Q : Cx → Prop) : Prop :=
  ∀ mu, Mem w0 (cx w ob mu ok) → P (cx w ob mu ok) → ∃ mu', Mem w0 (cx w ob' mu' ok) ∧ Mono (cx w ob mu ok) (cx w ob' mu' ok) ∧ Q (cx w ob' mu' ok)

theorem freezeL_ok {g : AV → List (Nat × AV) → Option (AV × List (Nat × AV))}
    (hg : ∀ v ob x ob' u, g v ob = some (x, ob') → x.frozen = true ∧ Frz w0 w ok ob ob' (fun c => Mill.V c v u) (fun c => Mill.V c x u)) :
    ∀ (vs : List AV) (ob : List (Nat × AV)) (xs : List AV) (ob' : List (Nat × AV)) (us : List Value), freezeL g vs ob = some (xs, ob') → AV.frozens xs = true ∧ Frz w0 w ok ob ob' (fun c => VL c vs us) (fun c => VL c xs us)
  | [], ob, xs, ob', us, h => by
    simp only [freezeL, Option.some.injEq, Prod.mk.injEq] at h
    obtain ⟨rfl, rfl⟩ := h
    exact ⟨rfl, fun mu hm hv => ⟨mu, hm, Mono.refl _, hv⟩⟩
  | v :: vs, ob, xs, ob', us, h => by
    simp only [freezeL] at h
    split at h
    case h_2 => cases h
    rename_i x ob1 h1
    split at h
    case h_2 => cases h
    rename_i ys ob2 h2
    simp only [Option.some.injEq, Prod.mk.injEq] at h
    obtain ⟨rfl, rfl⟩ := h
    cases us with
    | nil =>
      have hx := (hg v ob x ob1 undef h1).1
      have hys := (freezeL_ok hg vs ob1 ys ob2 [] h2).1
      refine ⟨by simp only [AV.frozens, hx, cond_true]; exact hys, fun mu hm hv => hv.elim⟩
    | cons u us =>
      obtain ⟨hx, f1⟩ := hg v ob x ob1 u h1
      obtain ⟨hys, f2⟩ := freezeL_ok hg vs ob1 ys ob2 us h2
      refine ⟨by simp only [AV.frozens, hx, cond_true]; exact hys, fun mu hm hv => ?_⟩
      obtain ⟨mu1, m1, o1, v1⟩ := f1 mu hm hv.1
      obtain ⟨mu2, m2, o2, v2⟩ := f2 mu1 m1 (o1.vl _ _ hv.2)
      exact ⟨mu2, m2, o1.trans o2, o2.v _ _ v1, v2⟩

theorem freezeV_ok : ∀ (d : Nat) (v : AV) (ob : List (Nat × AV)) (x : AV) (ob' : List (Nat × AV)) (u : Value), freezeV d v ob = some (x, ob') →
    x.frozen = true ∧ Frz w0 w ok ob ob' (fun c => Mill.V c v u) (fun c => Mill.V c x u)
  | 0, _, _, _, _, _, h => by cases h
  | d + 1, v, ob, x, ob', u, h => by
    have same : ∀ {y : AV}, y.frozen = true → some (y, ob) = some (x, ob') → v = y → x.frozen = true ∧ Frz w0 w ok ob ob' (fun c => Mill.V c v u) (fun c => Mill.V c x u) := by
      intro y hy h e
      simp only [Option.some.injEq, Prod.mk.injEq] at h
      obtain ⟨rfl, rfl⟩ := h
      subst e
      exact ⟨hy, fun mu hm hv => ⟨mu, hm, Mono.refl _, hv⟩⟩
    unfold freezeV at h
    split at h
    · rename_i id off
      split at h
      case h_2 => cases h
      rename_i cs hl
      split at h
      case h_2 => cases h
      rename_i xs ob1 hx
      simp only [Option.some.injEq, Prod.mk.injEq] at h
      obtain ⟨rfl, rfl⟩ := h
      refine ⟨(freezeL_ok (w0 := w0) (w := w) (ok := ok) (freezeV_ok d) cs _ xs ob1 [] hx).1, fun mu hm hv => ?_⟩
      have hob := hm.obj id
      unfold ObjOK at hob
      have hv : PtrV (cx w ob mu ok) id off u := hv
      unfold PtrV at hv
      rw [show (cx w ob mu ok).ob id = .box cs from hl] at hob hv
      obtain ⟨b, cur, e, h1, h2, h3⟩ := hob
      obtain ⟨b', h1', rfl⟩ := hv
      rw [h1] at h1'
      obtain rfl := Option.some.inj h1'
      obtain ⟨m1, o1⟩ := mem_kill (id := id) hm
      obtain ⟨mu2, m2, o2, v2⟩ := (freezeL_ok (w0 := w0) (w := w) (ok := ok) (freezeV_ok d) cs _ xs ob1 cur.toList hx).2 _ m1 (o1.vl _ _ h3)
      have hob1 : (cx w ((id, .dead) :: ob) (upd mu id none) ok).okb b := by
        refine ⟨hm.own_ok h1, hm.lt h1, fun j e => ?_⟩
        have e : upd mu id none j = some b := e
        by_cases hj : j = id
        · subst hj
          rw [upd_eq] at e
          cases e
        · rw [upd_ne _ _ hj] at e
          exact hj (hm.inj j id b e h1)
      exact ⟨mu2, m2, o1.trans o2, b, cur, e, rfl, (o2.blk b hob1).1, h2, v2⟩
    · rename_i f cs
      split at h
      case h_2 => cases h
      rename_i xs ob1 hx
      simp only [Option.some.injEq, Prod.mk.injEq] at h
      obtain ⟨rfl, rfl⟩ := h
      refine ⟨(freezeL_ok (w0 := w0) (w := w) (ok := ok) (freezeV_ok d) cs _ xs ob1 [] hx).1, fun mu hm hv => ?_⟩
      obtain ⟨vs, rfl, hv⟩ := hv
      obtain ⟨mu2, m2, o2, v2⟩ := (freezeL_ok (w0 := w0) (w := w) (ok := ok) (freezeV_ok d) cs _ xs ob1 vs.toList hx).2 _ hm hv
      exact ⟨mu2, m2, o2, vs, rfl, v2⟩
    · rename_i id
      split at h
      · rename_i e τ xs hl
        simp only [Option.some.injEq, Prod.mk.injEq] at h
        obtain ⟨rfl, rfl⟩ := h
        refine ⟨rfl, fun mu hm hv => ?_⟩
        obtain ⟨mu1, m1, o1, hws, _⟩ := freezeAll (ws := [(id, .frz τ xs)]) (fun p hp => by
          simp only [List.mem_singleton] at hp
          subst hp
          exact ⟨e, τ, xs, hl, rfl⟩) hm
        refine ⟨mu1, m1, o1, ?_⟩
        have := o1.own id u hv
        unfold OwnV at this
        rw [show (cx w (appOb [(id, AV.frz τ xs)] ob) mu1 ok).ob id = .frz τ xs from look_eq _ _ _] at this
        exact this
      · rename_i τ xs hl
        simp only [Option.some.injEq, Prod.mk.injEq] at h
        obtain ⟨rfl, rfl⟩ := h
        refine ⟨rfl, fun mu hm hv => ⟨mu, hm, Mono.refl _, ?_⟩⟩
        have hv : OwnV (cx w ob mu ok) id u := hv
        unfold OwnV at hv
        rw [show (cx w ob mu ok).ob id = .frz τ xs from hl] at hv
        exact hv
      · cases h
    · exact same rfl h rfl
    · exact same rfl h rfl
    · exact same rfl h rfl
    · exact same rfl h rfl
    · exact same rfl h rfl
    · rename_i cs off
      cases hf : AV.frozens cs with
      | false => rw [hf] at h; cases h
      | true => rw [hf] at h; exact same (y := .cptr cs off) (by simp only [AV.frozen]; exact hf) h rfl
    · cases h

/-- A temporary's value, frozen. -/
theorem freeze_tmp {gt d : Nat} {gv : AV} {ob' : List (Nat × AV)} (hh : Holds J w0 ok nt ds σ a w) (h : freezeV d (look σ.tm gt) σ.ob = some (gv, ob')) : Holds T w0 ok nt ds ⟨(gt, gv) :: σ.tm, ob'⟩ a w := by
  obtain ⟨mu, hr, _⟩ := hh
  have hgt : gt < nt := by
    apply Classical.byContradiction
    intro hn
    rw [hr.far gt (by omega)] at h
    cases d <;> cases h
  obtain ⟨mu', m', o', v'⟩ := (freezeV_ok d _ _ _ _ (a.tmps.getD gt undef) h).2 mu hr.mem (hr.tm gt hgt)
  refine ⟨mu', ⟨m', fun t ht => ?_, fun t ht => ?_, hr.size, hr.defers, o'.marks hr.marks⟩, trivial⟩
  · show Mill.V _ (look ((gt, gv) :: σ.tm) t) _
    by_cases e : gt = t
    · subst e; rw [look_eq]; exact v'
    · rw [look_ne _ _ e]; exact o'.v _ _ (hr.tm t ht)
  · show look ((gt, gv) :: σ.tm) t = .undef
    rw [look_ne _ _ (by omega)]
    exact hr.far t ht

end
end Go.Proofs.Mill

/- Code, and functions. -/
namespace Go.Proofs.Mill
variable {ds : List Deferred}
open Go.RowKit

def Ex.to : Ex → Exit
  | .normal => .normal
  | .exit id => .exit id
  | .goto l => .goto l
  | .ret => .ret

section
variable {P : Program} {Q : Exit → Act → World → Prop} {a : Act} {w : World} {ro : Option Nat}

theorem stepR_scope {b : Frame} {k : List Item} {cs : List Frame} {c : Code} : step P (lone (b.atR a (.code (.scope c) :: k)) cs w) = .next (lone (b.atR a (.code c :: .inScope c :: k)) cs w) :=
  step_lone_go (by simp [stepG, stepG.exec, Frame.atR])
theorem stepR_inScope {b : Frame} {k : List Item} {cs : List Frame} {c : Code} : step P (lone (b.atR a (.inScope c :: k)) cs w) = .next (lone (b.atR a k) cs w) :=
  step_lone_go (by simp [stepG, stepG.exec, Frame.atR])

/-- A scope within which nobody jumps. -/
theorem wpIn_scope_straight {c : Code} (h : c.wpIn (wideR ro) 0 P (Exit.noGoto Q) a w) : (Code.scope c).wpIn (wideR ro) 0 P Q a w := by
  intro b k cs hro hb hr
  have h0 : (lone (b.atR a (.code (.scope c) :: k)) cs w).fenced P (wideR ro) := fenced_calm hb hr rfl
  obtain ⟨e, a₁, w₁, hq, harr⟩ := h b (.inScope c :: k) cs hro hb hr
  cases e with
  | normal => exact ⟨.normal, a₁, w₁, hq, .head h0 stepR_scope (StepsIn.trans harr (.one (fenced_calm hb hr rfl) stepR_inScope))⟩
  | exit id => exact ⟨.exit id, a₁, w₁, hq, .of_steps (.one h0 stepR_scope) ⟨fun k' hk => harr.1 k' (by simp [exitTo, hk]), fun hr hk => harr.2 hr (by simp [exitTo, hk])⟩⟩
  | goto l => exact hq.elim
  | ret => exact ⟨_, a₁, w₁, hq, .of_steps (.one h0 stepR_scope) harr⟩
  | panic ch => exact ⟨_, a₁, w₁, hq, .of_steps (.one h0 stepR_scope) harr⟩
  | outgrown => exact ⟨_, a₁, w₁, hq, .of_steps (.one h0 stepR_scope) harr⟩

/-- A scope within which one jumps to a label once at most. -/
theorem wpIn_scope_jump {c : Code} (h : c.wpIn (wideR ro) 0 P (fun e a w => match e with | .goto l => ∃ rest, findLabel c l = some rest ∧ rest.wpIn (wideR ro) 0 P (Exit.noGoto Q) a w | e => Q e a w) a w) : (Code.scope c).wpIn (wideR ro) 0 P Q a w := by
  intro b k cs hro hb hr
  have h0 : (lone (b.atR a (.code (.scope c) :: k)) cs w).fenced P (wideR ro) := fenced_calm hb hr rfl
  obtain ⟨e, a₁, w₁, hq, harr⟩ := h b (.inScope c :: k) cs hro hb hr
  cases e with
  | normal => exact ⟨.normal, a₁, w₁, hq, .head h0 stepR_scope (StepsIn.trans harr (.one (fenced_calm hb hr rfl) stepR_inScope))⟩
  | exit id => exact ⟨.exit id, a₁, w₁, hq, .of_steps (.one h0 stepR_scope) ⟨fun k' hk => harr.1 k' (by simp [exitTo, hk]), fun hr hk => harr.2 hr (by simp [exitTo, hk])⟩⟩
  | goto l =>
    obtain ⟨rest, hf, hrest⟩ := hq
    have hg : gotoIn l (.inScope c :: k) = some (.code rest :: .inScope c :: k) := by simp [gotoIn, hf]
    have hto := harr.1 _ hg
    obtain ⟨e₂, a₂, w₂, hq₂, harr₂⟩ := hrest b (.inScope c :: k) cs hro hb hr
    cases e₂ with
    | normal => exact ⟨.normal, a₂, w₂, hq₂, .head h0 stepR_scope (StepsIn.trans hto (StepsIn.trans harr₂ (.one (fenced_calm hb hr rfl) stepR_inScope)))⟩
    | exit id => exact ⟨.exit id, a₂, w₂, hq₂, .of_steps (.head h0 stepR_scope hto) ⟨fun k' hk => harr₂.1 k' (by simp [exitTo, hk]), fun hr hk => harr₂.2 hr (by simp [exitTo, hk])⟩⟩
    | goto l => exact hq₂.elim
    | ret => exact ⟨_, a₂, w₂, hq₂, .of_steps (.head h0 stepR_scope hto) harr₂⟩
    | panic ch => exact ⟨_, a₂, w₂, hq₂, .of_steps (.head h0 stepR_scope hto) harr₂⟩
    | outgrown => exact ⟨_, a₂, w₂, hq₂, .of_steps (.head h0 stepR_scope hto) harr₂⟩
  | ret => exact ⟨_, a₁, w₁, hq, .of_steps (.one h0 stepR_scope) harr⟩
  | panic ch => exact ⟨_, a₁, w₁, hq, .of_steps (.one h0 stepR_scope) harr⟩
  | outgrown => exact ⟨_, a₁, w₁, hq, .of_steps (.one h0 stepR_scope) harr⟩

/-- A loop, at the head of a round. -/
def loopIn (ro : Option Nat) (P : Program) (c : Code) (Q : Exit → Act → World → Prop) (a : Act) (w : World) : Prop :=
  ∀ (b : Frame) (k : List Item) (cs : List Frame), b.roundOf = ro → ∃ e a' w', Q e a' w' ∧ ArrivesIn (Machine.fenced P (wideR ro)) P (lone (b.atR a (.code c :: .inLoop c :: k)) cs w) b k cs e a' w'

theorem room_wideR {n : Nat} : (wideR ro).room n := fun _ h => by simp [Fence.wide] at h

theorem wp_of_loopIn {c : Code} (h : loopIn ro P c Q a w) : (Code.loop c).wpIn (wideR ro) 0 P Q a w :=
  fun b k cs hro hb hr => let ⟨e, a', w', hq, harr⟩ := h b k cs hro; ⟨e, a', w', hq, .of_steps (.one (fenced_calm hb hr rfl) stepR_loop) harr⟩

theorem loopIn_round {c : Code} (h : c.wpIn (wideR ro) 0 P (Exit.then (loopIn ro P c Q) Q) a w) : loopIn ro P c Q a w := by
  intro b k cs hro
  have hb : (wideR ro).fn b.fn := trivial
  have hr : (wideR ro).room (cs.length + 1 + 0) := room_wideR
  obtain ⟨e, a₁, w₁, hq, harr⟩ := h b (.inLoop c :: k) cs hro hb hr
  cases e with
  | normal =>
    obtain ⟨e₂, a₂, w₂, hq₂, harr₂⟩ := hq b k cs hro
    exact ⟨e₂, a₂, w₂, hq₂, .of_steps (StepsIn.trans harr (.one (fenced_calm hb hr rfl) stepR_inLoop)) harr₂⟩
  | exit id => exact ⟨_, a₁, w₁, hq, .pass (x := .inLoop c) rfl (fun _ _ => .inl (by simp)) harr⟩
  | goto l => exact ⟨_, a₁, w₁, hq, .pass (x := .inLoop c) rfl (fun _ _ => .inl (by simp)) harr⟩
  | ret => exact ⟨_, a₁, w₁, hq, .pass (x := .inLoop c) rfl (fun _ _ => .inl (by simp)) harr⟩
  | panic ch => exact ⟨_, a₁, w₁, hq, .pass (x := .inLoop c) rfl (fun _ _ => .inl (by simp)) harr⟩
  | outgrown => exact ⟨_, a₁, w₁, hq, .pass (x := .inLoop c) rfl (fun _ _ => .inl (by simp)) harr⟩

theorem loopIn_mono {c : Code} {Q' : Exit → Act → World → Prop} (h : loopIn ro P c Q a w) (hq : ∀ e a w, Q e a w → Q' e a w) : loopIn ro P c Q' a w :=
  fun b k cs hro => let ⟨e, a', w', q, r⟩ := h b k cs hro; ⟨e, a', w', hq _ _ _ q, r⟩
end

/-- The loops of a code, each with those within it. -/
def loopsOf : Code → List Code
  | .seq a b => loopsOf a ++ loopsOf b
  | .cond _ a b => loopsOf a ++ loopsOf b
  | .block _ c => loopsOf c
  | .loop c => c :: loopsOf c
  | .scope c => loopsOf c
  | .rangeFunc g ps x y => [.rangeFunc g ps x y]
  | _ => []

/-- A state that is known; marks of loops over functions may lie behind it. -/
def HoldsE (Δ : List Deferred → Prop) (J : Cx → Prop) (w0 : World) (ok : Nat → Prop) (nt : Nat) (σ : St) (a : Act) (w : World) : Prop := ∃ ds, Δ ds ∧ Holds J w0 ok nt ds σ a w

def anyD : List Deferred → Prop := fun _ => True

/-- A loop that is known does what is said of it. -/
def LoopOK0 (V : Env) (nt : Nat) (s : LSpec) (c : Code) : Prop :=
  ∀ (ro : Option Nat) (w0 : World) (ok : Nat → Prop) (hd : List AV) (x : s.σ) (y : s.ρ) (a : Act) (w : World), s.dec hd = some x → s.run x = some y → HoldsE anyD T w0 ok nt (build s.keep hd) a w →
    loopIn ro V.P c (fun e a' w' => e = (s.enc y).1.to ∧ HoldsE anyD T w0 ok nt (build (s.keepX (s.enc y).1) (s.enc y).2) a' w') a w

/-- So does a loop over a function; it is no round's. -/
def RangeOK (V : Env) (nt : Nat) (s : LSpec) (c : Code) : Prop :=
  ∀ (w0 : World) (ok : Nat → Prop) (hd : List AV) (x : s.σ) (y : s.ρ) (a : Act) (w : World), s.dec hd = some x → s.run x = some y → HoldsE anyD T w0 ok nt (build s.keep hd) a w →
    c.wpIn (wideR none) 0 V.P (fun e a' w' => e = (s.enc y).1.to ∧ HoldsE anyD T w0 ok nt (build (s.keepX (s.enc y).1) (s.enc y).2) a' w') a w

def LoopOK (V : Env) (nt : Nat) (s : LSpec) (c : Code) : Prop := match isRange c with | true => RangeOK V nt s c | false => LoopOK0 V nt s c

theorem LoopOK.loop {V : Env} {nt : Nat} {s : LSpec} {c : Code} (h : LoopOK V nt s c) (hr : isRange c = false) : LoopOK0 V nt s c := by
  unfold LoopOK at h; rw [hr] at h; exact h
theorem LoopOK.of0 {V : Env} {nt : Nat} {s : LSpec} {c : Code} (hr : isRange c = false) (h : LoopOK0 V nt s c) : LoopOK V nt s c := by
  unfold LoopOK; rw [hr]; exact h

theorem VL_slots {c : Cx} (f : Nat → Value) : ∀ (L : List (Nat × AV)), VL c (L.map (·.2)) ((L.map (·.1)).map f) → ∀ t, V c (look L t) (f t)
  | [], _, _ => trivial
  | (i, x) :: L, h, t => by
    by_cases e : i = t
    · subst e; rw [look_eq]; exact h.1
    · rw [look_ne _ _ e]; exact VL_slots f L h.2 t

theorem expoSlot_undef (κ : Kd) (ob : List (Nat × AV)) : expoSlot κ .undef ob = none := by
  cases κ <;> rfl

theorem expoSlots_moves : ∀ {ks : List (Nat × Kd)} {tm : List (Nat × AV)} {ob ob' : List (Nat × AV)} {xs : List AV}, expoSlots ks tm ob = some (xs, ob') →
    ∃ os, Moves (ks.map fun p => look tm p.1) ((build ks xs).tm.map (·.2)) ob ob' (build ks xs).ob os ∧ (build ks xs).tm.map (·.1) = ks.map (·.1) ∧ ∀ p ∈ ks, look tm p.1 ≠ .undef
  | [], tm, ob, ob', xs, h => by
    simp only [expoSlots, Option.some.injEq, Prod.mk.injEq] at h
    obtain ⟨rfl, rfl⟩ := h
    exact ⟨[], Moves.nil _, rfl, fun _ h => (by cases h)⟩
  | (t, κ) :: ks, tm, ob, ob', xs, h => by
    simp only [expoSlots] at h
    split at h
    case h_2 => cases h
    rename_i x ob1 h1
    split at h
    case h_2 => cases h
    rename_i xs' ob2 h2
    simp only [Option.some.injEq, Prod.mk.injEq] at h
    obtain ⟨rfl, rfl⟩ := h
    obtain ⟨os1, m1⟩ := expoSlot_moves h1 ((1024 + t) * 64)
    obtain ⟨os2, m2, e2, n2⟩ := expoSlots_moves h2
    refine ⟨os1 ++ os2, m1.append m2, ?_, fun p hp => ?_⟩
    · show t :: (build ks xs').tm.map (·.1) = t :: ks.map (·.1)
      rw [e2]
    · rcases List.mem_cons.1 hp with rfl | hp
      · intro hu
        simp only at hu
        rw [hu, expoSlot_undef] at h1
        cases h1
      · exact n2 p hp

section
variable {V : Env} {J : Cx → Prop} {w0 w : World} {ok : Nat → Prop} {nt fid rounds : Nat} {σ τ : St} {a : Act}

/-- The state at a loop's head, without pointers into slots. -/
def normB (ks : List (Nat × Kd)) (σ : St) : Option (List AV) :=
  match expoSlots ks σ.tm σ.ob with
  | some (xs, _) => bif apartN (build ks xs).ob then some xs else none
  | none => none

theorem expoSlots_len : ∀ {ks : List (Nat × Kd)} {tm ob : List (Nat × AV)} {xs : List AV} {ob' : List (Nat × AV)}, expoSlots ks tm ob = some (xs, ob') → xs.length = ks.length
  | [], _, _, _, _, h => by simp [expoSlots] at h; simp [h.1]
  | (t, κ) :: ks, tm, ob, xs, ob', h => by
    unfold expoSlots at h
    split at h
    case h_2 => cases h
    rename_i x ob1 hx
    split at h
    case h_2 => cases h
    rename_i xs' ob2 hxs
    simp only [Option.some.injEq, Prod.mk.injEq] at h
    obtain ⟨rfl, rfl⟩ := h
    simp [expoSlots_len hxs]

/-- The state with the pointers. -/
theorem build_weave : ∀ (ks : List (Nat × Kd)) (xs : List AV), xs.length = (noAl ks).length →
    (build ks (weave ks xs)).ob = (build (noAl ks) xs).ob ∧
    ∀ t, look (build ks (weave ks xs)).tm t = look (build (noAl ks) xs).tm t ∨ ∃ j off, (t, Kd.al j off) ∈ ks ∧ look (build ks (weave ks xs)).tm t = alPtr j off
  | [], xs, _ => by simp [weave, noAl, build]
  | (s, κ) :: ks, xs, hl => by
    cases hκ : κ.isAl with
    | true =>
      cases κ <;> try (cases hκ; done)
      rename_i j off
      have e : noAl ((s, Kd.al j off) :: ks) = noAl ks := by simp [noAl, Kd.isAl]
      rw [e] at hl ⊢
      obtain ⟨h1, h2⟩ := build_weave ks xs hl
      have hb : build ((s, Kd.al j off) :: ks) (weave ((s, Kd.al j off) :: ks) xs) = ⟨(s, alPtr j off) :: (build ks (weave ks xs)).tm, (build ks (weave ks xs)).ob⟩ := rfl
      rw [hb]
      refine ⟨h1, fun t => ?_⟩
      by_cases est : s = t
      · subst est
        exact .inr ⟨j, off, by simp, look_eq _ _ _⟩
      · rcases h2 t with h | ⟨j', off', hm, h⟩
        · refine .inl ?_
          show look ((s, alPtr j off) :: (build ks (weave ks xs)).tm) t = _
          rw [look_ne _ _ est]; exact h
        · refine .inr ⟨j', off', List.mem_cons_of_mem _ hm, ?_⟩
          show look ((s, alPtr j off) :: (build ks (weave ks xs)).tm) t = _
          rw [look_ne _ _ est]; exact h
    | false =>
      have e : noAl ((s, κ) :: ks) = (s, κ) :: noAl ks := by simp [noAl, hκ]
      rw [e] at hl ⊢
      cases xs with
      | nil => simp at hl
      | cons x xs =>
        obtain ⟨h1, h2⟩ := build_weave ks xs (by simpa using hl)
        have hw : weave ((s, κ) :: ks) (x :: xs) = x :: weave ks xs := by cases κ <;> first | rfl | cases hκ
        rw [hw]
        have hb1 : build ((s, κ) :: ks) (x :: weave ks xs) = ⟨(s, (impSlot ((1024 + s) * 64) x).1) :: (build ks (weave ks xs)).tm, (impSlot ((1024 + s) * 64) x).2 ++ (build ks (weave ks xs)).ob⟩ := rfl
        have hb2 : build ((s, κ) :: noAl ks) (x :: xs) = ⟨(s, (impSlot ((1024 + s) * 64) x).1) :: (build (noAl ks) xs).tm, (impSlot ((1024 + s) * 64) x).2 ++ (build (noAl ks) xs).ob⟩ := rfl
        rw [hb1, hb2]
        refine ⟨by simp only [h1], fun t => ?_⟩
        by_cases est : s = t
        · subst est
          exact .inl (by simp only [look_eq])
        · simp only
          rw [look_ne _ _ est, look_ne _ _ est]
          rcases h2 t with h | ⟨j', off', hm, h⟩
          · exact .inl h
          · exact .inr ⟨j', off', List.mem_cons_of_mem _ hm, h⟩

theorem isBox_ok {v : AV} (h : isBox v = true) : ∃ cs, v = .box cs := by
  cases v <;> first | exact ⟨_, rfl⟩ | cases h

theorem alOk_ok {σ τ : St} {t j off : Nat} (h : alOk σ τ t j off = true) :
    ∃ id cs cs', look σ.tm t = .ptr id off ∧ look σ.tm j = .ptr id 0 ∧ look τ.tm j = .ptr ((1024 + j) * 64) 0 ∧ look σ.ob id = .box cs ∧ look τ.ob ((1024 + j) * 64) = .box cs' := by
  unfold alOk at h
  split at h
  · rename_i a o b c e1 e2 e3
    simp only [Bool.and_eq_true] at h
    obtain ⟨⟨⟨q1, q2⟩, q3⟩, o1, o2⟩ := h
    have q1 := Nat.eq_of_beq_eq_true q1
    have q2 := Nat.eq_of_beq_eq_true q2
    have q3 := Nat.eq_of_beq_eq_true q3
    subst q1 q2 q3
    obtain ⟨cs, o1⟩ := isBox_ok o1
    obtain ⟨cs', o2⟩ := isBox_ok o2
    exact ⟨a, cs, cs', e1, e2, e3, o1, o2⟩
  · cases h

theorem alsOk_at {σ τ : St} : ∀ {ks : List (Nat × Kd)}, alsOk σ τ ks = true → ∀ t j off, (t, Kd.al j off) ∈ ks → alOk σ τ t j off = true
  | [], _, _, _, _, h => by cases h
  | (s, κ) :: ks, h, t, j, off, hm => by
    have tail : alsOk σ τ ks = true := by
      cases κ <;> try exact h
      rename_i j' off'
      cases hb : alOk σ τ s j' off' with
      | true => simpa only [alsOk, hb, cond_true] using h
      | false => simp only [alsOk, hb, cond_false] at h; cases h
    rcases List.mem_cons.1 hm with e | hm
    · simp only [Prod.mk.injEq] at e
      obtain ⟨rfl, rfl⟩ := e
      cases hb : alOk σ τ t j off with
      | true => rfl
      | false => simp only [alsOk, hb, cond_false] at h; cases h
    · exact alsOk_at tail t j off hm

/-- **What a loop keeps.** -/
theorem norm_okB {ks : List (Nat × Kd)} {hd : List AV} (hJB : ∀ c c' : Cx, (∀ b, c.okb b → c'.okb b) → c'.w = c.w → J c → J c') (hh : Holds J w0 ok nt ds σ a w) (h : normB ks σ = some hd) : Holds J w0 ok nt ds (build ks hd) a w := by
  obtain ⟨mu, hr, hj⟩ := hh
  unfold normB at h
  split at h
  case h_2 => cases h
  rename_i xs ob' hx
  cases hn : apartN (build ks xs).ob with
  | false => rw [hn] at h; cases h
  | true =>
    rw [hn] at h
    obtain rfl := Option.some.inj h
    obtain ⟨os, m, hk, hu⟩ := expoSlots_moves hx
    have hnd := apartN_nodup _ hn
    obtain ⟨mu2, hm2, hv, hokb⟩ := moves_mem hr.mem m hnd (look_list_in _ hnd) (fun i hi => look_list_out _ i hi)
    have hv' := hv (ks.map fun p => a.tmps.getD p.1 undef) (by
      have : ∀ (l : List (Nat × Kd)), VL (cx w σ.ob mu ok) (l.map fun p => look σ.tm p.1) (l.map fun p => a.tmps.getD p.1 undef) := by
        intro l
        induction l with
        | nil => trivial
        | cons p l ih => exact ⟨V_operand hr (.tmp p.1), ih⟩
      exact this ks)
    have hsl := VL_slots (fun t => a.tmps.getD t undef) (build ks xs).tm (by rw [hk, List.map_map]; exact hv')
    refine ⟨mu2, ⟨hm2, fun t _ => hsl t, fun t ht => ?_, hr.size, hr.defers, ⟨hr.marks.1, fun d hd => by obtain ⟨D, e, h0, h1, h2⟩ := hr.marks.2 d hd; exact ⟨D, e, h0, hokb D h1, h2⟩⟩⟩, hJB _ _ hokb rfl hj⟩
    refine look_list_out _ t fun p hp e => ?_
    have hp1 : p.1 ∈ ks.map (·.1) := by rw [← hk]; exact List.mem_map.2 ⟨p, hp, rfl⟩
    obtain ⟨q, hq, he⟩ := List.mem_map.1 hp1
    apply hu q hq
    rw [he, e]
    exact hr.far t ht

theorem norm_okJ {ks : List (Nat × Kd)} {hd : List AV} (hJB : ∀ c c' : Cx, (∀ b, c.okb b → c'.okb b) → c'.w = c.w → J c → J c') (hh : Holds J w0 ok nt ds σ a w) (h : norm ks σ = some hd) : Holds J w0 ok nt ds (build ks hd) a w := by
  unfold norm at h
  split at h
  case h_2 => cases h
  rename_i xs ob' hx
  cases hn : (apartN (build (noAl ks) xs).ob && alsOk σ (build (noAl ks) xs) ks) with
  | false => rw [hn] at h; cases h
  | true =>
    rw [hn] at h
    obtain rfl := Option.some.inj h
    rw [Bool.and_eq_true] at hn
    have hB : normB (noAl ks) σ = some xs := by
      unfold normB
      rw [hx]
      simp only [hn.1, cond_true]
    obtain ⟨mu, hr, hj⟩ := hh
    obtain ⟨mu2, hr2, hj2⟩ := norm_okB hJB ⟨mu, hr, hj⟩ hB
    obtain ⟨hob, htm⟩ := build_weave ks xs (expoSlots_len hx)
    rw [← hob] at hj2
    have hal := fun t j off hm => alOk_ok (alsOk_at hn.2 t j off hm)
    refine ⟨mu2, ⟨by rw [hob]; exact hr2.mem, fun t ht => ?_, fun t ht => ?_, hr2.size, hr2.defers, by rw [hob]; exact hr2.marks⟩, hj2⟩
    · rw [hob]
      rcases htm t with e | ⟨j, off, hm, e⟩
      · rw [e]; exact hr2.tm t ht
      · obtain ⟨id, cs, cs', e1, e2, e3, o1, o2⟩ := hal t j off hm
        have v1 := V_operand hr (.tmp t)
        have v2 := V_operand hr (.tmp j)
        have v3 := V_operand hr2 (.tmp j)
        rw [show valOf σ (.tmp t) = look σ.tm t from rfl, e1] at v1
        rw [show valOf σ (.tmp j) = look σ.tm j from rfl, e2] at v2
        rw [show valOf (build (noAl ks) xs) (.tmp j) = look (build (noAl ks) xs).tm j from rfl, e3] at v3
        have v1 : PtrV (cx w σ.ob mu ok) id off (a.tmps.getD t undef) := v1
        have v2 : PtrV (cx w σ.ob mu ok) id 0 (a.tmps.getD j undef) := v2
        have v3 : PtrV (cx w (build (noAl ks) xs).ob mu2 ok) ((1024 + j) * 64) 0 (a.tmps.getD j undef) := v3
        unfold PtrV at v1 v2 v3
        rw [show (cx w σ.ob mu ok).ob id = .box cs from o1] at v1 v2
        rw [show (cx w (build (noAl ks) xs).ob mu2 ok).ob ((1024 + j) * 64) = .box cs' from o2] at v3
        obtain ⟨b, k1, k2⟩ := v1
        obtain ⟨b', k1', k2'⟩ := v2
        obtain ⟨b'', k1'', k2''⟩ := v3
        rw [e]
        show PtrV (cx w (build (noAl ks) xs).ob mu2 ok) ((1024 + j) * 64) off (a.tmps.getD t undef)
        unfold PtrV
        rw [show (cx w (build (noAl ks) xs).ob mu2 ok).ob ((1024 + j) * 64) = .box cs' from o2]
        rw [k1] at k1'
        obtain rfl := Option.some.inj k1'
        rw [k2'] at k2''
        have : b = b'' := by simpa using k2''
        subst this
        exact ⟨b, k1'', k2⟩
    · rcases htm t with e | ⟨j, off, hm, e⟩
      · rw [e]; exact hr2.far t ht
      · obtain ⟨id, cs, cs', e1, _⟩ := hal t j off hm
        rw [hr.far t ht] at e1
        cases e1

theorem norm_ok {ks : List (Nat × Kd)} {hd : List AV} (hh : Holds J w0 ok nt ds σ a w) (h : norm ks σ = some hd) : Holds T w0 ok nt ds (build ks hd) a w :=
  norm_okJ (J := T) (fun _ _ _ _ _ => trivial) (by obtain ⟨mu, hr, _⟩ := hh; exact ⟨mu, hr, trivial⟩) h

theorem evKT_ok {ρ : Type} {L : Nat → Option LSpec} {inl : Inl ρ} (hG : GoodEnv V) (hI : InlOK V inl) (hJ : Stays J) (hLJ : ∀ id s, L id = some s → ∀ c, J c) {ro : Option Nat} {Δ : List Deferred → Prop} (hΔ : ∀ id s, L id = some s → ∀ ds, Δ ds) :
    ∀ (c : Code), (∀ {σ : St} {a : Act} {w : World} {k : Ex → St → Option ρ} {r : ρ} {Q : Exit → Act → World → Prop}, (∀ c' ∈ loopsOf c, ∀ s, L (firstRegion c') = some s → LoopOK V nt s c' ∧ (isRange c' = true → ro = none)) →
      HoldsE Δ J w0 ok nt σ a w → evK V L inl fid nt rounds c σ k = some r → (∀ e σ' a' w', HoldsE Δ J w0 ok nt σ' a' w' → k e σ' = some r → Q e.to a' w') → c.wpIn (wideR ro) 0 V.P Q a w) ∧
      ∀ (l : Nat) (rest : Code), findLabel c l = some rest → ∀ {σ : St} {a : Act} {w : World} {k : Ex → St → Option ρ} {r : ρ} {Q : Exit → Act → World → Prop}, (∀ c' ∈ loopsOf c, ∀ s, L (firstRegion c') = some s → LoopOK V nt s c' ∧ (isRange c' = true → ro = none)) →
      HoldsE Δ J w0 ok nt σ a w → evT V L inl fid nt rounds l c σ k = some r → (∀ e σ' a' w', HoldsE Δ J w0 ok nt σ' a' w' → k e σ' = some r → Q e.to a' w') → rest.wpIn (wideR ro) 0 V.P Q a w := by
  intro c
  induction c with
  | skip =>
    refine ⟨?_, fun l rest hf => by simp [findLabel] at hf⟩
    intro σ a w k r Q _ hh h hn
    exact wpIn_skip (hn _ _ _ _ hh h)
  | label l0 =>
    refine ⟨?_, fun l rest hf => ?_⟩
    · intro σ a w k r Q _ hh h hn
      exact wpIn_label (hn _ _ _ _ hh h)
    · intro σ a w k r Q _ hh h hn
      simp only [findLabel] at hf
      split at hf
      · rename_i hb
        obtain rfl := Option.some.inj hf
        simp only [evT] at h
        have hb : l0 = l := by simpa using hb
        subst hb
        rw [show Nat.beq l0 l0 = true by simp] at h
        exact wpIn_skip (hn .normal _ _ _ hh h)
      · cases hf
  | region id ops draw =>
    refine ⟨?_, fun l rest hf => by simp [findLabel] at hf⟩
    intro σ a w k r Q _ hh h hn
    obtain ⟨ds, hd, hh⟩ := hh
    exact regK_ok hG hI hJ hh h fun σ' a' w' hh' h' => hn .normal σ' a' w' ⟨ds, hd, hh'⟩ h'
  | seq x y ihx ihy =>
    refine ⟨?_, fun l rest hf => ?_⟩
    rotate_left
    · intro σ a w k r Q hl hh h hn
      cases hx : findLabel x l with
      | some r1 =>
        simp only [findLabel, hx] at hf
        obtain rfl := Option.some.inj hf
        simp only [evT, hx] at h
        refine wpIn_seq (ihx.2 l r1 hx (fun c' hc => hl c' (List.mem_append_left _ hc)) hh h fun e σ' a' w' hh' h' => ?_)
        cases e with
        | normal => exact ihy.1 (fun c' hc => hl c' (List.mem_append_right _ hc)) hh' h' hn
        | exit id => exact hn _ _ _ _ hh' h'
        | goto l => exact hn _ _ _ _ hh' h'
        | ret => exact hn _ _ _ _ hh' h'
      | none =>
        simp only [findLabel, hx] at hf
        simp only [evT, hx] at h
        exact ihy.2 l rest hf (fun c' hc => hl c' (List.mem_append_right _ hc)) hh h hn
    intro σ a w k r Q hl hh h hn
    refine wpIn_seq (ihx.1 (fun c' hc => hl c' (List.mem_append_left _ hc)) hh h fun e σ' a' w' hh' h' => ?_)
    cases e with
    | normal => exact ihy.1 (fun c' hc => hl c' (List.mem_append_right _ hc)) hh' h' hn
    | exit id => exact hn _ _ _ _ hh' h'
    | goto l => exact hn _ _ _ _ hh' h'
    | ret => exact hn _ _ _ _ hh' h'
  | cond c x y ihx ihy =>
    refine ⟨?_, fun l rest hf => by simp [findLabel] at hf⟩
    intro σ a w k r Q hl hh h hn
    simp only [evK] at h
    split at h
    case h_2 => cases h
    rename_i t ht
    obtain ⟨ds, hds, mu, hr, hj⟩ := hh
    have hc := V_operand hr c
    rw [ht] at hc
    simp only [Mill.V] at hc
    refine wpIn_cond hc ?_
    cases t with
    | true => exact ihx.1 (fun c' hc => hl c' (List.mem_append_left _ hc)) ⟨ds, hds, mu, hr, hj⟩ h hn
    | false => exact ihy.1 (fun c' hc => hl c' (List.mem_append_right _ hc)) ⟨ds, hds, mu, hr, hj⟩ h hn
  | block id c ih =>
    refine ⟨?_, fun l rest hf => by simp [findLabel] at hf⟩
    intro σ a w k r Q hl hh h hn
    refine wpIn_block (ih.1 hl hh h fun e σ' a' w' hh' h' => ?_)
    cases e with
    | normal => exact hn _ _ _ _ hh' h'
    | exit id' =>
      show if id' = id then Q .normal a' w' else Q (.exit id') a' w'
      simp only at h'
      by_cases he : id' = id
      · subst he
        rw [if_pos rfl]
        rw [show Nat.beq id' id' = true by simp] at h'
        exact hn _ _ _ _ hh' h'
      · rw [if_neg he]
        have hf : Nat.beq id' id = false := by
          cases hb : Nat.beq id' id with
          | false => rfl
          | true => exact (he (Nat.eq_of_beq_eq_true hb)).elim
        rw [hf] at h'
        exact hn _ _ _ _ hh' h'
    | goto l => exact hn _ _ _ _ hh' h'
    | ret => exact hn _ _ _ _ hh' h'
  | loop c ih =>
    refine ⟨?_, fun l rest hf => by simp [findLabel] at hf⟩
    intro σ a w k r Q hl hh h hn
    refine wp_of_loopIn ?_
    simp only [evK] at h
    split at h
    · have hl' : ∀ c' ∈ loopsOf c, ∀ s, L (firstRegion c') = some s → LoopOK V nt s c' ∧ (isRange c' = true → ro = none) := fun c' hc => hl c' (List.mem_cons_of_mem _ hc)
      have key : ∀ (n : Nat) (σ : St) (a : Act) (w : World), HoldsE Δ J w0 ok nt σ a w → rollK (fun σ k => evK V L inl fid nt rounds c σ k) k n σ = some r → loopIn ro V.P c Q a w := by
        intro n
        induction n with
        | zero => intro σ a w _ h; cases h
        | succ n ihn =>
          intro σ a w hh h
          refine loopIn_round (ih.1 hl' hh h fun e σ' a' w' hh' h' => ?_)
          cases e with
          | normal => exact ihn σ' a' w' hh' h'
          | exit id => exact hn _ _ _ _ hh' h'
          | goto l => exact hn _ _ _ _ hh' h'
          | ret => exact hn _ _ _ _ hh' h'
      exact key rounds σ a w hh h
    · rename_i s hs
      cases hir : isRange c with
      | true => rw [hir] at hs; cases hs
      | false =>
      rw [hir] at hs
      have hs : L (firstRegion c) = some s := hs
      split at h
      case h_1 => cases h
      rename_i hd hnorm
      split at h
      case h_1 => cases h
      rename_i x hdec
      split at h
      case h_1 => cases h
      rename_i y hrun
      rw [s.law] at h
      obtain ⟨ds, _, hh⟩ := hh
      refine loopIn_mono ((hl c (by simp [loopsOf]) s hs).1.loop hir ro w0 ok hd x y a w hdec hrun ⟨ds, trivial, norm_ok hh hnorm⟩) fun e a' w' he => ?_
      obtain ⟨rfl, ds', _, mu, hr, _⟩ := he
      exact hn _ _ _ _ ⟨ds', hΔ _ _ hs ds', mu, hr, hLJ _ _ hs _⟩ h
  | exit id =>
    refine ⟨?_, fun l rest hf => by simp [findLabel] at hf⟩
    intro σ a w k r Q _ hh h hn
    exact wpIn_exit (hn (.exit id) _ _ _ hh h)
  | goto l =>
    refine ⟨?_, fun l rest hf => by simp [findLabel] at hf⟩
    intro σ a w k r Q _ hh h hn
    exact wpIn_goto (hn (.goto l) _ _ _ hh h)
  | ret =>
    refine ⟨?_, fun l rest hf => by simp [findLabel] at hf⟩
    intro σ a w k r Q _ hh h hn
    exact wpIn_ret (hn .ret _ _ _ hh h)
  | rangeFunc g ps x y _ _ =>
    refine ⟨?_, fun l rest hf => by simp [findLabel] at hf⟩
    intro σ a w k r Q hl hh h hn
    cases g with
    | tmp gt =>
      simp only [evK] at h
      split at h
      case h_1 => cases h
      rename_i gv ob' hfz
      split at h
      case h_1 => cases h
      rename_i s hs
      split at h
      case h_1 => cases h
      rename_i hd hnorm
      split at h
      case h_1 => cases h
      rename_i z hdec
      split at h
      case h_1 => cases h
      rename_i y' hrun
      rw [s.law] at h
      obtain ⟨ds, _, hh⟩ := hh
      obtain ⟨hrg, hro⟩ := hl (.rangeFunc (.tmp gt) ps x y) (by simp [loopsOf]) s hs
      obtain rfl := hro rfl
      have hrg : RangeOK V nt s (.rangeFunc (.tmp gt) ps x y) := hrg
      refine wpIn_mono (hrg w0 ok hd z y' a w hdec hrun ⟨ds, trivial, norm_ok (freeze_tmp hh hfz) hnorm⟩) fun e a' w' he => ?_
      obtain ⟨rfl, ds', _, mu, hr, _⟩ := he
      exact hn _ _ _ _ ⟨ds', hΔ _ _ hs ds', mu, hr, hLJ _ _ hs _⟩ h
    | const v => simp [evK] at h
    | func f => simp [evK] at h
    | global g => simp [evK] at h
  | scope c ih =>
    refine ⟨?_, fun l rest hf => by simp [findLabel] at hf⟩
    intro σ a w k r Q hl hh h hn
    refine wpIn_scope_jump (ih.1 hl hh h fun e σ' a' w' hh' h' => ?_)
    cases e with
    | normal => exact hn _ _ _ _ hh' h'
    | exit id' => exact hn _ _ _ _ hh' h'
    | goto l =>
      simp only at h'
      split at h'
      · cases h'
      · rename_i rest hf
        refine ⟨rest, hf, ih.2 l rest hf hl hh' h' fun e2 σ2 a2 w2 hh2 h2 => ?_⟩
        cases e2 with
        | normal => exact hn _ _ _ _ hh2 h2
        | exit id' => exact hn _ _ _ _ hh2 h2
        | goto l => cases h2
        | ret => exact hn _ _ _ _ hh2 h2
    | ret => exact hn _ _ _ _ hh' h'
  | refuse why =>
    refine ⟨?_, fun l rest hf => by simp [findLabel] at hf⟩
    intro σ a w k r Q _ hh h hn
    simp [evK] at h

theorem evK_ok {ρ : Type} {L : Nat → Option LSpec} {inl : Inl ρ} (hG : GoodEnv V) (hI : InlOK V inl) (hJ : Stays J) (hLJ : ∀ id s, L id = some s → ∀ c, J c) {ro : Option Nat} {Δ : List Deferred → Prop} (hΔ : ∀ id s, L id = some s → ∀ ds, Δ ds) :
    ∀ (c : Code) {σ : St} {a : Act} {w : World} {k : Ex → St → Option ρ} {r : ρ} {Q : Exit → Act → World → Prop}, (∀ c' ∈ loopsOf c, ∀ s, L (firstRegion c') = some s → LoopOK V nt s c' ∧ (isRange c' = true → ro = none)) →
      HoldsE Δ J w0 ok nt σ a w → evK V L inl fid nt rounds c σ k = some r → (∀ e σ' a' w', HoldsE Δ J w0 ok nt σ' a' w' → k e σ' = some r → Q e.to a' w') → c.wpIn (wideR ro) 0 V.P Q a w := fun c => (evKT_ok hG hI hJ hLJ hΔ c).1

end
end Go.Proofs.Mill

/- A block that holds no cells is turned; blocks are laid: the state is known as it was. -/
namespace Go.Proofs.Mill
variable {ds : List Deferred}
open Go.RowKit

/-- What was known of values stays so, where blocks of cells lie as they lay. -/
structure MonoC (c c' : Cx) : Prop extends Mono5 c c' where
  blkc : ∀ b cur e m, c.okb b → c.w.heap[b]? = some (.cells cur e m) → c'.okb b ∧ c'.w.heap[b]? = c.w.heap[b]?

mutual
theorem MonoC.v {c c' : Cx} (h : MonoC c c') : ∀ (x : AV) (v : Value), V c x v → V c' x v
  | .undef, _, _ => trivial
  | .int _ _, _, hv => hv
  | .bool _, _, hv => hv
  | .str _, _, hv => hv
  | .lst _ _, _, hv => h.dv _ _ hv
  | .lstn _ _, _, hv => ⟨h.dv _ _ hv.1, hv.2⟩
  | .emp, _, hv => hv
  | .own _, _, hv => h.own _ _ hv
  | .ownv _ _ _, _, hv => hv
  | .ptr _ _, _, hv => h.ptr _ _ _ hv
  | .eptr _ _ _, _, hv => h.eptr _ _ _ _ hv
  | .lptr _ _ _ _, _, hv => h.lptr _ _ _ _ _ hv
  | .cptr cs _, _, ⟨b, cur, e, h1, h2, h3, h4⟩ => ⟨b, cur, e, h1, (h.blkc b _ _ _ h2 h3).1, ((h.blkc b _ _ _ h2 h3).2).trans h3, h.vl cs cur.toList h4⟩
  | .agg cs, _, ⟨vs, e, hv⟩ => ⟨vs, e, h.vl cs vs.toList hv⟩
  | .tup cs, _, ⟨vs, e, hv⟩ => ⟨vs, e, h.vl cs vs.toList hv⟩
  | .fn _ caps, _, ⟨vs, e, hv⟩ => ⟨vs, e, h.vl caps vs.toList hv⟩
  | .bfn _ first, _, ⟨vs, e, hv⟩ => ⟨vs, e, h.vl first vs.toList hv⟩
  | .cst _, _, hv => hv
  | .ifc _ x, _, ⟨u, e, hv⟩ => ⟨u, e, h.v x u hv⟩
  | .box _, _, hv => hv
  | .row _ _ _, _, hv => hv
  | .frz _ _, _, hv => hv
  | .dead, _, hv => hv
theorem MonoC.vl {c c' : Cx} (h : MonoC c c') : ∀ (xs : List AV) (vs : List Value), VL c xs vs → VL c' xs vs
  | [], [], hv => hv
  | x :: xs, v :: vs, ⟨a, b⟩ => ⟨h.v x v a, h.vl xs vs b⟩
end

section
variable {w0 w w' : World} {ok : Nat → Prop} {nt : Nat} {σ : St} {a : Act} {mu : Nat → Option Nat} {ob : List (Nat × AV)} {r : Nat} {o : Obj}

theorem cell_turn (ht : Turned w w' fun k => k = r) (ho : w.heap[r]? = some o) (hc : o.isCells = false) {b n : Nat} {u : Value} (h : w.cell? ⟨b, n, none⟩ = some u) : w'.cell? ⟨b, n, none⟩ = some u := by
  have hb : ∃ o', w.heap[b]? = some o' := by
    cases hb : w.heap[b]? with
    | some o' => exact ⟨o', rfl⟩
    | none => simp [World.cell?, hb] at h
  obtain ⟨o', hb⟩ := hb
  have hne : b ≠ r := by
    rintro rfl
    rw [ho] at hb
    obtain rfl := Option.some.inj hb
    cases o <;> first | (cases hc; done) | simp [World.cell?, ho] at h
  rw [cell?_heap (ht.block b (Array.getElem?_eq_some_iff.1 hb).1 hne)]
  exact h

theorem heap_turn (ht : Turned w w' fun k => k = r) (ho : w.heap[r]? = some o) (hc : o.isCells = false) {b : Nat} {cur : Array Value} {e : TypeId} {m : Nat × Nat} (h : w.heap[b]? = some (.cells cur e m)) : w'.heap[b]? = some (.cells cur e m) := by
  have hne : b ≠ r := by
    rintro rfl
    rw [ho] at h
    obtain rfl := Option.some.inj h
    cases hc
  rw [ht.block b (Array.getElem?_eq_some_iff.1 h).1 hne]
  exact h

theorem turn_mono (ht : Turned w w' fun k => k = r) (ho : w.heap[r]? = some o) (hc : o.isCells = false) : MonoC (cx w ob mu ok) (cx w' ob mu ok) := by
  have hokb : ∀ b, (cx w ob mu ok).okb b → (cx w' ob mu ok).okb b := fun b h => ⟨h.1, Nat.lt_of_lt_of_le h.2.1 ht.size, h.2.2⟩
  have hdv : ∀ d v, (cx w ob mu ok).DV d v → (cx w' ob mu ok).DV d v := by
    intro d v h
    induction h with
    | int k n => exact .int k n
    | bool b => exact .bool b
    | str s => exact .str s
    | fn f => exact .fn f
    | nil sz A c hA => exact .nil sz A c hA
    | lst sz rows b off c u hc' hsz hcell hdv hb ih =>
      exact .lst sz rows b off c u hc' hsz (fun j d hj => cell_turn ht ho hc (hcell j d hj)) (fun j d hj => ih j d hj) (hokb b hb)
  have hlp : ∀ τ xs i off v, LptrV (cx w ob mu ok) τ xs i off v → LptrV (cx w' ob mu ok) τ xs i off v := by
    rintro τ xs i off v ⟨hi, b, o', u, rfl, hb, hcl, hd⟩
    exact ⟨hi, b, o', u, rfl, hokb b hb, fun j d hj => cell_turn ht ho hc (hcl j d hj), fun j d hj => hdv _ _ (hd j d hj)⟩
  refine ⟨⟨hdv, fun id v h => ?_, fun id off v h => ?_, fun id i off v h => ?_, hlp⟩, fun b cur e m hb h => ⟨hokb b hb, ?_⟩⟩
  · unfold OwnV at h ⊢
    change (match look ob id with | .row e τ xs => _ | .frz τ xs => _ | .dead => _ | _ => _) at h
    show (match look ob id with | .row e τ xs => _ | .frz τ xs => _ | .dead => _ | _ => _)
    cases hob : look ob id <;> rw [hob] at h <;> try exact h
    case row e τ xs =>
      rcases h with h | ⟨b, cap, cur, h1, h2, h3, h4⟩
      · exact .inl h
      · exact .inr ⟨b, cap, cur, h1, ⟨heap_turn ht ho hc h2.1, h2.2⟩, h3, h4⟩
    case frz τ xs => exact hdv _ _ h
  · exact h
  · unfold EptrV at h ⊢
    change (match look ob id with | .row e τ xs => _ | .frz τ xs => _ | .dead => _ | _ => _) at h
    show (match look ob id with | .row e τ xs => _ | .frz τ xs => _ | .dead => _ | _ => _)
    cases hob : look ob id <;> rw [hob] at h <;> try exact h
    case frz τ xs => exact hlp _ _ _ _ _ h
  · exact (heap_turn ht ho hc h).trans h.symm

theorem mem_turn (hm : Mem w0 (cx w ob mu ok)) (ht : Turned w w' fun k => k = r) (ho : w.heap[r]? = some o) (hc : o.isCells = false) (hr : w0.heap.size ≤ r) : Mem w0 (cx w' ob mu ok) := by
  have hmono : MonoC (cx w ob mu ok) (cx w' ob mu ok) := turn_mono ht ho hc
  refine ⟨fun id => ?_, hm.inj, hm.base, ht.ext hm.ext (fun k e => by subst e; exact hr), hm.okn_of rfl ht.size fun _ _ h2 => h2⟩
  have h := hm.obj id
  unfold ObjOK at h ⊢
  change (match look ob id with | .box cs => _ | .row e τ xs => _ | .undef => _ | .dead => _ | .frz _ _ => _ | _ => _) at h
  show (match look ob id with | .box cs => _ | .row e τ xs => _ | .undef => _ | .dead => _ | .frz _ _ => _ | _ => _)
  cases hob : look ob id <;> rw [hob] at h <;> try exact h
  case box cs =>
    obtain ⟨b, cur, e, h1, h2, h3⟩ := h
    exact ⟨b, cur, e, h1, heap_turn ht ho hc h2, hmono.vl _ _ h3⟩
  case row e τ xs =>
    rcases h with h | ⟨b, cap, cur, h1, h2, h3, h4, h5⟩
    · exact .inl h
    · exact .inr ⟨b, cap, cur, h1, ⟨heap_turn ht ho hc h2.1, h2.2⟩, h3, h4, DVs_to hmono.dv h5⟩

/-- A block that is no cells, and no mark's, is turned. -/
theorem R.turn (hr : R w0 ok nt ds σ a w mu) (ht : Turned w w' fun k => k = r) (ho : w.heap[r]? = some o) (hc : o.isCells = false) (hb : w0.heap.size ≤ r) (hd : ∀ d ∈ ds, d ≠ { target := .collected r, args := #[] }) : R w0 ok nt ds σ a w' mu := by
  have hmono : MonoC (cx w σ.ob mu ok) (cx w' σ.ob mu ok) := turn_mono ht ho hc
  refine ⟨mem_turn hr.mem ht ho hc hb, fun t h => hmono.v _ _ (hr.tm t h), hr.far, hr.size, hr.defers, hr.marks.1, fun d hdd => ?_⟩
  obtain ⟨D, e, h0, h1, h2⟩ := hr.marks.2 d hdd
  have hne : D ≠ r := by
    rintro rfl
    exact hd d hdd e
  exact ⟨D, e, h0, ⟨h1.1, Nat.lt_of_lt_of_le h1.2.1 ht.size, h1.2.2⟩, (ht.block D h1.2.1 hne).trans h2⟩

/-- Blocks are laid. -/
theorem grow_mono (ht : Turned w w' fun _ => False) (hm : Mem w0 (cx w ob mu ok)) : Mono (cx w ob mu ok) (cx w' ob mu ok) :=
  mono_of (fun b hb => ⟨⟨hb.1, Nat.lt_of_lt_of_le hb.2.1 ht.size, hb.2.2⟩, ht.block b hb.2.1 (fun x => x)⟩) (fun id => .inr (.inr (.inl ⟨rfl, rfl, fun b hb => ht.block b (hm.lt hb) (fun x => x)⟩))) (fun b hb h => ⟨h, ht.block b hb (fun x => x)⟩)

theorem mem_grow (ht : Turned w w' fun _ => False) (hm : Mem w0 (cx w ob mu ok)) : Mem w0 (cx w' ob mu ok) :=
  ⟨fun id => (hm.obj id).keep (grow_mono ht hm) rfl rfl (fun b hb => ht.block b (hm.lt hb) (fun x => x)), hm.inj, hm.base, ht.ext hm.ext (fun _ h => h.elim), hm.okn_of rfl ht.size fun _ _ h2 => h2⟩

theorem R.grow (hr : R w0 ok nt ds σ a w mu) (ht : Turned w w' fun _ => False) : R w0 ok nt ds σ a w' mu :=
  hr.go (mem_grow ht hr.mem) (grow_mono ht hr.mem)

theorem turned_putObj (w : World) (r : Nat) (o : Obj) : Turned w (w.putObj r o) fun k => k = r :=
  ⟨rfl, rfl, rfl, by simp, fun k _ h => World.putObj_heap_other h⟩

end
end Go.Proofs.Mill
