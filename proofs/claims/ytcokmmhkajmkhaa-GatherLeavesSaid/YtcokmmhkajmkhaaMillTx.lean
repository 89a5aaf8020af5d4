/- Operations whose order is drawn: what they read and write; any order comes to the same. -/
import Derived.Test.YtcokmmhkajmkhaaMillSeq
set_option linter.all false
namespace Go.Proofs.Mill
open Go.RowKit

theorem Loc.beq_eq {a b : Loc} : Loc.beq a b = true ↔ a = b := by
  cases a <;> cases b <;> simp [Loc.beq]

theorem Loc.mem_iff (l : Loc) : ∀ (L : List Loc), l.mem L = true ↔ l ∈ L
  | [] => by simp [Loc.mem]
  | a :: L => by
    unfold Loc.mem
    cases h : Loc.beq a l with
    | true => simp [Loc.beq_eq.1 h]
    | false =>
      have hne : l ≠ a := fun e => by
        rw [e] at h
        have := Loc.beq_eq.2 (rfl : a = a)
        rw [h] at this; cases this
      simp [Loc.mem_iff l L, hne]

/-- A reading that says what it reads. -/
theorem Rd.runK_log {α ρ : Type} {k : α → List Loc → Option ρ} {σ : St} {r : ρ} : ∀ {x : Rd α} {log : List Loc}, x.runK σ log k = some r →
    ∃ a log', k a log' = some r ∧ (∀ l ∈ log, l ∈ log') ∧ ∀ τ : St, (∀ l ∈ log', τ.get l = σ.get l) → x.val τ = some a
  | .ret a, log, h => ⟨a, log, h, fun _ h => h, fun _ _ => rfl⟩
  | .rd l f, log, h => by
    obtain ⟨a, log', h1, h2, h3⟩ := Rd.runK_log (x := f (σ.get l)) h
    refine ⟨a, log', h1, fun x hx => h2 x (List.mem_cons_of_mem _ hx), fun τ hτ => ?_⟩
    show (f (τ.get l)).val τ = some a
    rw [hτ l (h2 l (by simp))]
    exact h3 τ hτ
  | .ask b t e, log, h => by
    cases b
    · exact Rd.runK_log (x := e) h
    · exact Rd.runK_log (x := t) h
  | .call x f, log, h => by
    cases x with
    | none => simp [Rd.runK] at h
    | some y => exact Rd.runK_log (x := f y) h
  | .fail, log, h => by simp [Rd.runK] at h

def Tx.put (x : Tx) (σ : St) : St := σ.put x.dst x.v x.ws

theorem look_appOb_has : ∀ (ws : Wr) (ob ob' : List (Nat × AV)) (id : Nat), (look ob id = look ob' id ∨ ∃ p ∈ ws, p.1 = id) → look (appOb ws ob) id = look (appOb ws ob') id
  | [], _, _, _, h => by
    rcases h with h | ⟨p, hp, _⟩
    · exact h
    · cases hp
  | p :: ws, ob, ob', id, h => by
    show look (appOb ws (p :: ob)) id = look (appOb ws (p :: ob')) id
    refine look_appOb_has ws _ _ id ?_
    by_cases e : p.1 = id
    · left; subst e; obtain ⟨i, o⟩ := p; rw [look_eq, look_eq]
    · rcases h with h | ⟨q, hq, he⟩
      · left; obtain ⟨i, o⟩ := p; rw [look_ne _ _ e, look_ne _ _ e]; exact h
      · rcases List.mem_cons.1 hq with rfl | hq
        · exact (e he).elim
        · exact .inr ⟨q, hq, he⟩

theorem Tx.put_in (x : Tx) (l : Loc) (h : l ∈ x.wl) (σ τ : St) : (x.put σ).get l = (x.put τ).get l := by
  obtain ⟨rs, dst, v, ws⟩ := x
  cases l with
  | m n =>
    have hm : ∃ p ∈ ws, p.1 = n := by
      cases dst <;> simp [Tx.wl] at h <;> obtain ⟨b, hb⟩ := h <;> exact ⟨_, hb, rfl⟩
    show look (St.put σ dst v ws).ob n = look (St.put τ dst v ws).ob n
    rw [put_ob, put_ob]
    exact look_appOb_has _ _ _ _ (.inr hm)
  | t n =>
    cases dst with
    | none => simp [Tx.wl] at h
    | some d =>
      simp [Tx.wl] at h
      subst h
      show look ((n, v) :: σ.tm) n = look ((n, v) :: τ.tm) n
      rw [look_eq, look_eq]

theorem Tx.put_out (x : Tx) (l : Loc) (h : l ∉ x.wl) (σ : St) : (x.put σ).get l = σ.get l := by
  obtain ⟨rs, dst, v, ws⟩ := x
  cases l with
  | m n =>
    have hm : ∀ p ∈ ws, p.1 ≠ n := by
      rintro ⟨i, o⟩ hp rfl
      apply h
      cases dst <;> simp [Tx.wl] <;> exact ⟨_, hp⟩
    show look (St.put σ dst v ws).ob n = look σ.ob n
    rw [put_ob]
    exact look_appOb_not _ _ _ hm
  | t n =>
    cases dst with
    | none => rfl
    | some d =>
      have hn : d ≠ n := by rintro rfl; apply h; simp [Tx.wl]
      show look ((d, v) :: σ.tm) n = look σ.tm n
      rw [look_ne _ _ hn]

theorem Tx.put_like (x : Tx) {σ τ : St} (h : σ.like τ) : (x.put σ).like (x.put τ) := by
  intro l
  by_cases hl : l ∈ x.wl
  · exact x.put_in l hl σ τ
  · rw [x.put_out l hl, x.put_out l hl]; exact h l

def app (L : List (Nat × Tx)) (σ : St) : St := L.foldl (fun σ p => p.2.put σ) σ

theorem app_append (L L' : List (Nat × Tx)) (σ : St) : app (L ++ L') σ = app L' (app L σ) := by simp [app]

theorem app_like : ∀ (L : List (Nat × Tx)) {σ τ : St}, σ.like τ → (app L σ).like (app L τ)
  | [], _, _, h => h
  | p :: L, _, _, h => app_like L (p.2.put_like h)

theorem app_get (l : Loc) : ∀ (L : List (Nat × Tx)) (σ τ : St), σ.get l = τ.get l → (app L σ).get l = (app (L.filter fun p => l.mem p.2.wl) τ).get l
  | [], _, _, h => h
  | p :: L, σ, τ, h => by
    show (app L (p.2.put σ)).get l = _
    cases hw : l.mem p.2.wl with
    | true =>
      rw [List.filter_cons_of_pos (by simpa using hw)]
      exact app_get l L _ (p.2.put τ) (p.2.put_in l ((Loc.mem_iff _ _).1 hw) σ τ)
    | false =>
      rw [List.filter_cons_of_neg (by simp [hw])]
      refine app_get l L _ τ ?_
      rw [p.2.put_out l (fun hm => by rw [(Loc.mem_iff _ _).2 hm] at hw; cases hw)]
      exact h

theorem app_skip (l : Loc) (L : List (Nat × Tx)) (σ : St) (h : ∀ p ∈ L, l ∉ p.2.wl) : (app L σ).get l = σ.get l := by
  rw [app_get l L σ σ rfl]
  have : L.filter (fun p => l.mem p.2.wl) = [] := by
    rw [List.filter_eq_nil_iff]
    intro p hp hm
    exact h p hp ((Loc.mem_iff _ _).1 hm)
  rw [this]; rfl

theorem apart_spec {x y : Tx} (h : x.apart y = true) : (∀ l ∈ x.wl, l ∉ y.rs) ∧ (∀ l ∈ y.wl, l ∉ x.rs) ∧ (∀ l ∈ x.wl, l ∉ y.wl) := by
  simp only [Tx.apart, Bool.and_eq_true, apartL, List.all_eq_true] at h
  have key : ∀ {L : List Loc} {l : Loc}, (!l.mem L) = true → l ∉ L := by
    intro L l h hm
    rw [(Loc.mem_iff _ _).2 hm] at h
    cases h
  exact ⟨fun l hl => key (h.1.1 l hl), fun l hl => key (h.1.2 l hl), fun l hl => key (h.2 l hl)⟩

/-- What is known of the operations, done one after the other. -/
structure TxRun (V : Env) (fid nt : Nat) (ops : Array Oper) (bef : List Nat) (n : Nat) (σ0 : St) (txs : List (Nat × Tx)) : Prop where
  len : txs.length = n
  idx : ∀ (i : Nat) (p : Nat × Tx), txs[i]? = some p → p.1 = i
  op : ∀ (i : Nat) (p : Nat × Tx), txs[i]? = some p → ∃ o, ops[i]? = some o ∧ dstOk nt o.dst = true ∧ p.2.dst = o.dst ∧
    ∀ τ : St, (∀ l ∈ p.2.rs, τ.get l = (app (txs.take i) σ0).get l) → (opRd V fid ops o).val τ = some (p.2.v, p.2.ws)
  free : ∀ (i j : Nat) (p q : Nat × Tx), j < i → txs[i]? = some p → txs[j]? = some q → (bef.getD i 0).testBit j = true ∨ q.2.apart p.2 = true

section
variable {V : Env} {fid nt n : Nat} {ops : Array Oper} {bef : List Nat} {σ0 : St} {txs : List (Nat × Tx)}

/-- A set of operations that are done: with each those that come ahead of it. -/
def ClosedIn (bef : List Nat) (S : Nat → Bool) : Prop := ∀ i j, S i = true → (bef.getD i 0).testBit j = true → S j = true

def canon (txs : List (Nat × Tx)) (σ0 : St) (S : Nat → Bool) : St := app (txs.filter fun p => S p.1) σ0

theorem filter_take : ∀ (L : List (Nat × Tx)) (i0 m : Nat), (∀ k p, L[k]? = some p → p.1 = i0 + k) → L.filter (fun p => decide (p.1 < i0 + m)) = L.take m
  | [], _, _, _ => by simp
  | p :: L, i0, m, h => by
    have h0 := h 0 p rfl
    have hL : ∀ k q, L[k]? = some q → q.1 = (i0 + 1) + k := fun k q hq => by have := h (k + 1) q (by simpa using hq); omega
    cases m with
    | zero =>
      rw [List.take_zero, List.filter_eq_nil_iff]
      intro q hq
      obtain ⟨k, hk⟩ := List.getElem?_of_mem hq
      have := h k q hk
      simp; omega
    | succ m =>
      rw [List.filter_cons_of_pos (by simp; omega), List.take_succ_cons]
      have := filter_take L (i0 + 1) m hL
      rw [← this]
      congr 1
      apply List.filter_congr
      intro q hq
      have : (q.1 < i0 + (m + 1)) ↔ (q.1 < i0 + 1 + m) := by omega
      simp [this]

theorem canon_reads (h : TxRun V fid nt ops bef n σ0 txs) {S : Nat → Bool} (hS : ClosedIn bef S) {i : Nat} {p : Nat × Tx} (hp : txs[i]? = some p) (hi : S i = false)
    (hb : ∀ j, (bef.getD i 0).testBit j = true → S j = true) {l : Loc} (hl : l ∈ p.2.rs) : (canon txs σ0 S).get l = (app (txs.take i) σ0).get l := by
  have ht := filter_take txs 0 i (fun k q hq => by simpa using h.idx k q hq)
  rw [Nat.zero_add] at ht
  rw [← ht, canon, app_get l _ σ0 σ0 rfl, app_get l (txs.filter fun p => decide (p.1 < i)) σ0 σ0 rfl, List.filter_filter, List.filter_filter]
  congr 2
  apply List.filter_congr
  intro q hq
  obtain ⟨j, hj⟩ := List.getElem?_of_mem hq
  have hqi := h.idx j q hj
  cases hw : l.mem q.2.wl with
  | false => simp
  | true =>
    have hw := (Loc.mem_iff _ _).1 hw
    simp only [Bool.true_and]
    rw [hqi]
    rcases Nat.lt_trichotomy j i with hlt | heq | hgt
    · rcases h.free i j p q hlt hp hj with hf | hf
      · rw [hb j hf]; simp [hlt]
      · exact ((apart_spec hf).1 l hw hl).elim
    · subst heq; rw [hi]; simp
    · have hS' : S j = false := by
        rcases h.free j i q p hgt hj hp with hf | hf
        · cases hs : S j with
          | false => rfl
          | true => rw [hS j i hs hf] at hi; cases hi
        · exact ((apart_spec hf).2.1 l hw hl).elim
      rw [hS']
      have : ¬ j < i := by omega
      simp [this]

theorem canon_step (h : TxRun V fid nt ops bef n σ0 txs) {S S' : Nat → Bool} (hS : ClosedIn bef S) {i : Nat} {p : Nat × Tx} (hp : txs[i]? = some p) (hi : S i = false)
    (hS' : ∀ j, j < n → S' j = (S j || decide (j = i))) : (p.2.put (canon txs σ0 S)).like (canon txs σ0 S') := by
  intro l
  have hmem : ∀ q ∈ txs, q.1 = i → q = p := by
    intro q hq he
    obtain ⟨j, hj⟩ := List.getElem?_of_mem hq
    have := h.idx j q hj
    have hji : j = i := by omega
    subst hji
    rw [hj] at hp
    exact Option.some.inj hp
  have hlt : ∀ q ∈ txs, q.1 < n := by
    intro q hq
    obtain ⟨j, hj⟩ := List.getElem?_of_mem hq
    have h1 := h.idx j q hj
    have h2 := (List.getElem?_eq_some_iff.1 hj).1
    have := h.len
    omega
  by_cases hw : l ∈ p.2.wl
  · obtain ⟨hil, hpe⟩ := List.getElem?_eq_some_iff.1 hp
    have hsplit : txs = txs.take i ++ p :: txs.drop (i + 1) := by
      rw [← hpe, List.getElem_cons_drop, List.take_append_drop]
    have hpost : ∀ q ∈ txs.drop (i + 1), ∃ j, i < j ∧ txs[j]? = some q := by
      intro q hq
      obtain ⟨k, hk⟩ := List.getElem?_of_mem hq
      rw [List.getElem?_drop] at hk
      exact ⟨i + 1 + k, by omega, hk⟩
    have hpp : p.1 = i := h.idx i p hp
    have e : canon txs σ0 S' = app ((txs.drop (i + 1)).filter fun q => S' q.1) (p.2.put (app ((txs.take i).filter fun q => S' q.1) σ0)) := by
      unfold canon
      conv => lhs; rw [hsplit]
      rw [List.filter_append, List.filter_cons_of_pos (by rw [hpp, hS' i (by have := h.len; omega)]; simp), app_append]
      rfl
    rw [e, app_skip]
    · exact p.2.put_in l hw _ _
    · intro q hq hm
      rw [List.mem_filter] at hq
      obtain ⟨j, hij, hj⟩ := hpost q hq.1
      have hqj := h.idx j q hj
      have hjn : j < n := by
        have := (List.getElem?_eq_some_iff.1 hj).1
        have := h.len
        omega
      have hsj : S' j = true := by simpa [hqj] using hq.2
      rw [hS' j hjn] at hsj
      have hne : ¬ j = i := by omega
      simp [hne] at hsj
      rcases h.free j i q p hij hj hp with hf | hf
      · rw [hS j i hsj hf] at hi; cases hi
      · exact (apart_spec hf).2.2 l hw hm
  · rw [p.2.put_out l hw, canon, canon, app_get l _ σ0 σ0 rfl, app_get l (txs.filter fun p => S' p.1) σ0 σ0 rfl, List.filter_filter, List.filter_filter]
    congr 2
    apply List.filter_congr
    intro q hq
    rw [hS' q.1 (hlt q hq)]
    by_cases hqi : q.1 = i
    · have := hmem q hq hqi
      subst this
      have : l.mem q.2.wl = false := by
        cases hh : l.mem q.2.wl with
        | false => rfl
        | true => exact (hw ((Loc.mem_iff _ _).1 hh)).elim
      simp [this]
    · simp [hqi]

end
end Go.Proofs.Mill
