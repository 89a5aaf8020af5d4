/- FairTells: what the code tells of rounds is the document's. -/
import Derived.Test.YtaopdopnecognaaGreatMillQFair2
import Derived.Test.YtaopdopnecognaaGreatMillAll4
namespace Go.Proofs.Mill
set_option linter.all false

theorem fair_same {c : Config} (h : CfgOK c) {l : List SEntry} (hl : l.length ≤ 4000000000) : ∃ b, F_fair_Fair c l = some b ∧ F_ref19_Fair c l = some b := by
  obtain ⟨k, hk⟩ := isLast_some l
  refine ⟨decide (roundsOf c ≤ ((runP c.threads.toNat (l.drop k) 0 / c.threads.toNat : Nat) : Int)), ?_, ?_⟩
  · unfold F_fair_Fair
    simp only [C_fair_Rounds, fair_rounds h, C_fair_Whole, fair_whole h hl hk]
  · unfold F_ref19_Fair
    simp only [C_ref19_Rounds, ref19_rounds h, C_ref19_Whole, ref19_whole h hl hk]

theorem pure_FairTells (c : Config) (l : List SEntry) (n : Int) (o0 : (valSt celConfig).Ok c) (o1 : (valLst .sentry).Ok l) (o2 : (valInt .i64).Ok n) : F_law19_FairTells c l n = some true := by
  obtain ⟨b, hb, hB⟩ := may_ok (c := c)
  unfold F_law19_FairTells
  simp only [C_law19_may, hb, C_law19_shown, law19_shown]
  cases b with
  | false => rfl
  | true =>
  have h := hB.1 rfl
  simp only [Bool.not_true, cond_false]
  rw [cond_dec]
  by_cases h1 : (l.length : Int) > 500
  · rw [if_pos h1]
  rw [if_neg h1]
  have hn : (if (200 : Int) < n then (200 : Int) else n) < 4000000000 := by split <;> omega
  generalize (if (200 : Int) < n then (200 : Int) else n) = m at *
  have hp : ∀ T k : Nat, k ≤ 4000000000 → F_law19_its (picks T k) = some (picks T k) := fun T k hk => law19_its (by rw [picks_length]; exact hk)
  have hq : ∀ T k : Nat, k ≤ 4000000000 → F_ref09_Same (picks T k) (picks T k) = some true := fun T k hk => ref09_same (by rw [picks_length]; exact hk)
  have hT := h.threads
  obtain ⟨k, hk⟩ := isLast_some l
  obtain ⟨b, hb1, hb2⟩ := fair_same h (l := l) (by omega)
  simp only [C_fair_Rounds, fair_rounds h, C_ref19_Rounds, ref19_rounds h, beq_self_eq_true, cond_true, C_fair_Round, fair_round h, C_law19_its, hp _ _ (show c.threads.toNat ≤ 4000000000 by omega), C_ref19_Round, ref19_round h, C_ref09_Same, hq _ _ (show c.threads.toNat ≤ 4000000000 by omega),
    C_fair_Suffix, fair_suffix h m hn, C_ref19_Suffix, ref19_suffix h m hn, hp _ _ (show min (m.toNat * c.threads.toNat) 65536 ≤ 4000000000 by omega), hq _ _ (show min (m.toNat * c.threads.toNat) 65536 ≤ 4000000000 by omega),
    C_fair_Whole, fair_whole h (show l.length ≤ 4000000000 by omega) hk, law19_its (show l.length ≤ 4000000000 by omega), C_ref19_Whole, ref19_whole h (show l.length ≤ 4000000000 by omega) hk, C_fair_Fair, hb1, C_ref19_Fair, hb2]

end Go.Proofs.Mill
