/- Scripts that go on in whole rounds. -/
import Derived.Test.YtaopdopnecognaaGreatMillQFair2
import Derived.Test.YtaopdopnecognaaGreatMillAll4
namespace Go.Proofs.Mill
set_option linter.all false

/-- Entries in which so many picks come up in order, and no op. -/
def Runs (T : Nat) (d : List SEntry) (m : Nat) : Prop := (∀ e ∈ d, e.kind ≠ 1) ∧ ∀ r, runP T (d ++ r) 0 = runP T r m

theorem runs_nil {T : Nat} : Runs T [] 0 := ⟨fun _ h => (by cases h), fun _ => rfl⟩
theorem runs_pick {T m : Nat} {d : List SEntry} (h : Runs T d m) : Runs T (d ++ [sE (m % T)]) (m + 1) := by
  refine ⟨fun e he => ?_, fun r => ?_⟩
  · rcases List.mem_append.1 he with he | he
    · exact h.1 e he
    · simp only [List.mem_singleton] at he
      subst he
      show (2 : Int) ≠ 1
      omega
  · rw [List.append_assoc, h.2]
    show (if (2 : Int) ≠ 2 then _ else if ((m % T : Nat) : Int) ≠ ((m % T : Nat) : Int) then _ else _) = _
    rw [if_neg (fun h => h rfl), if_neg (fun h => h rfl)]
    rfl
theorem runs_tick {T m : Nat} {d : List SEntry} (h : Runs T d m) : Runs T (d ++ [⟨3, 0, 0, ⟨0, 0⟩⟩]) m := by
  refine ⟨fun e he => ?_, fun r => ?_⟩
  · rcases List.mem_append.1 he with he | he
    · exact h.1 e he
    · simp only [List.mem_singleton] at he
      subst he
      show (3 : Int) ≠ 1
      omega
  · rw [List.append_assoc, h.2]
    show (if (3 : Int) ≠ 2 then _ else _) = _
    rw [if_pos (by omega)]
    rfl
theorem runs_picks {T : Nat} : ∀ m, Runs T (picks T m) m
  | 0 => runs_nil
  | m + 1 => by rw [picks_succ]; exact runs_pick (runs_picks m)
theorem Runs.all {T m : Nat} {d : List SEntry} (h : Runs T d m) : runP T d 0 = m := by
  have := h.2 []
  rw [List.append_nil] at this
  exact this

theorem runP_shift (T q : Nat) : ∀ (r : List SEntry) (n : Nat), runP T r (q * T + n) = q * T + runP T r n
  | [], n => rfl
  | e :: r, n => by
    have hm : (q * T + n) % T = n % T := by rw [Nat.mul_comm, Nat.mul_add_mod]
    have h1 := runP_shift T q r n
    have h2 := runP_shift T q r (n + 1)
    unfold runP
    rw [hm]
    split
    · exact h1
    · split
      · rfl
      · rw [Nat.add_assoc]; exact h2

theorem getD_mem {l : List SEntry} {j : Nat} (h : j < l.length) : l.getD j dSEntry ∈ l := by
  rw [List.getD_eq_getElem?_getD, List.getElem?_eq_getElem h]
  exact List.getElem_mem h

/-- No op is invoked. -/
theorem isLast_none {l : List SEntry} (h : ∀ e ∈ l, e.kind ≠ 1) : IsLast l 0 := ⟨Nat.zero_le _, .inl rfl, fun j _ hj => h _ (getD_mem hj)⟩

/-- An op, and nothing of the kind behind it. -/
theorem isLast_behind {l d : List SEntry} {e : SEntry} (he : e.kind = 1) (h : ∀ e ∈ d, e.kind ≠ 1) : IsLast (l ++ [e] ++ d) (l.length + 1) := by
  refine ⟨by simp, .inr ?_, fun j h1 h2 => ?_⟩
  · rw [Nat.add_sub_cancel, List.getD_eq_getElem?_getD, List.append_assoc, List.getElem?_append_right (Nat.le_refl _), Nat.sub_self]
    exact he
  · have hlen : (l ++ [e]).length = l.length + 1 := by simp
    have h3 : (l ++ [e] ++ d).getD j dSEntry = d.getD (j - (l.length + 1)) dSEntry := by
      rw [List.getD_eq_getElem?_getD, List.getElem?_append_right (by omega), hlen, ← List.getD_eq_getElem?_getD]
    rw [h3]
    refine h _ (getD_mem ?_)
    rw [List.length_append, hlen] at h2
    omega

theorem drop_behind {l d : List SEntry} {e : SEntry} : (l ++ [e] ++ d).drop (l.length + 1) = d := by
  have hlen : (l ++ [e]).length = l.length + 1 := by simp
  rw [← hlen, List.drop_left]

/-- How many whole rounds behind no op at all; behind the last one. -/
theorem whole_none {c : Config} (h : CfgOK c) {l : List SEntry} (hl : l.length ≤ 4000000000) (hn : ∀ e ∈ l, e.kind ≠ 1) : F_fair_Whole c l = some ((runP c.threads.toNat l 0 / c.threads.toNat : Nat) : Int) :=
  fair_whole h hl (isLast_none hn)
theorem whole_behind {c : Config} (h : CfgOK c) {l d : List SEntry} {e : SEntry} (hl : (l ++ [e] ++ d).length ≤ 4000000000) (he : e.kind = 1) (hn : ∀ e ∈ d, e.kind ≠ 1) : F_fair_Whole c (l ++ [e] ++ d) = some ((runP c.threads.toNat d 0 / c.threads.toNat : Nat) : Int) := by
  rw [fair_whole h hl (isLast_behind he hn), drop_behind]

theorem fair_of {c : Config} (h : CfgOK c) {l : List SEntry} {n : Int} (hw : F_fair_Whole c l = some n) : F_fair_Fair c l = some (decide (roundsOf c ≤ n)) := by
  unfold F_fair_Fair
  simp only [C_fair_Rounds, fair_rounds h, C_fair_Whole, hw]

theorem u8_wrap {x : Int} (o : (valInt .u8).Ok x) : IntKind.i64.wrap x = x ∧ 0 ≤ x ∧ x ≤ 255 := by
  have h : (Lit.int .u8 x).wf = true := o
  simp [Lit.wf, IntKind.has, IntKind.min, IntKind.max, IntKind.signed, IntKind.bits] at h
  refine ⟨?_, by omega, by omega⟩
  rw [← wrapA_eq, wrap_id (by omega) (by omega)]

end Go.Proofs.Mill
