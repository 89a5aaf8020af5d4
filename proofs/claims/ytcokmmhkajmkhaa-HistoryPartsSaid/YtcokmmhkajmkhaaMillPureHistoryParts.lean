/- The plain law of HistoryParts. -/
import Derived.Test.YtcokmmhkajmkhaaMillPHistory3
set_option linter.all false
namespace Go.Proofs.Mill

/-- What a log begins with is no matter for the cell, but for whether it fits. -/
theorem fold_fits (lo hi : Int) : ∀ (L : List Mark) (x : Int) (b : Bool), L.foldl (stepR lo hi) (x, b) = ((L.foldl (stepR lo hi) (x, true)).1, b && (L.foldl (stepR lo hi) (x, true)).2)
  | [], x, b => by simp
  | m :: L, x, b => by
    rw [List.foldl_cons, List.foldl_cons]
    have e : ∀ b, stepR lo hi (x, b) m = ((App m.op x lo hi).1, b && x == m.prior) := fun b => rfl
    rw [e, e, fold_fits lo hi L _ (b && _), fold_fits lo hi L _ (true && _), Bool.true_and, Bool.and_assoc]

theorem replay_append (c : Config) (a b : List Mark) (k : Int) : replay c (a ++ b) k = ((replay { c with init := (replay c a k).1 } b k).1, (replay c a k).2 && (replay { c with init := (replay c a k).1 } b k).2) := by
  unfold replay
  rw [List.filter_append, List.foldl_append]
  exact fold_fits c.lo c.hi _ _ _

theorem parts_own (c : Config) (a : List Mark) (k : Int) (x3 : Int) (x4 : Bool) (x5 : Int) (x6 : Bool) (x7 : Int) (x8 : Bool) (h : a.length ≤ 100) :
    W_law18_HistoryParts_10 (a, k, c, x3, x4, x5, x6, x7, x8, [], 0) = some (k, c, x3, x4, x5, x6, x7, x8, a.filter fun m => m.item == k) := by
  refine whileM_for (fun i => (a, k, c, x3, x4, x5, x6, x7, x8, (a.take i).filter (fun m => m.item == k), (i : Int))) a.length (fun i hi => ?_) ?_
  · have h1 : (i : Int) < (a.length : Int) := by omega
    have h3 := List.length_filter_le (fun m : Mark => m.item == k) (a.take i)
    rw [List.length_take] at h3
    have h2 : ∀ x : Mark, fewB (((a.take i).filter fun m => m.item == k).length + [x].length) = true := fun x => few_true (by simp only [List.length_cons, List.length_nil]; omega)
    rw [filter_next _ a dMark i hi]
    simp only [T_law18_HistoryParts_10, S_law18_HistoryParts_10, cond_dec, if_pos h1, if_pos (Int.natCast_nonneg i), Int.toNat_natCast, h2, cond_true]
    rw [wrap_id (by omega) (by omega)]
    cases hp : (a.getD i dMark).item == k <;> rfl
  · simp [T_law18_HistoryParts_10, S_law18_HistoryParts_10]

theorem pure_HistoryParts (c : Config) (a b : List Mark) (k : Int) (o0 : (valSt celConfig).Ok c) (o1 : (valLst .mark).Ok a) (o2 : (valLst .mark).Ok b) (o3 : (valInt .i64).Ok k) :
    F_law18_HistoryParts c a b k = some true := by
  simp only [F_law18_HistoryParts, C_law18_shown, law18_shown, Bool.not_true, cond_false, cond_dec]
  by_cases h1 : (a.length : Int) > 100
  · rw [if_pos h1]
  rw [if_neg h1]
  by_cases h2 : (b.length : Int) > 100
  · rw [if_pos h2]
  rw [if_neg h2]
  have hc := conf_ok o0
  have ha := marks_ok o1
  have hb := marks_ok o2
  have hab : ∀ m ∈ a ++ b, MarkOK m := fun m hm => (List.mem_append.1 hm).elim (ha m) (hb m)
  have hd : ConfOK { c with init := (replay c a k).1 } := ⟨replay_num k hc ha, hc.2.1, hc.2.2⟩
  have hown : ∀ m ∈ a.filter (fun m => m.item == k), MarkOK m := fun m hm => ha m (List.mem_filter.1 hm).1
  have hle := List.length_filter_le (fun m : Mark => m.item == k) a
  simp only [C_history_Replay, history_replay k hc ha (show a.length ≤ 4294967296 by omega), history_replay k hd hb (show b.length ≤ 4294967296 by omega), history_replay k hc hab (show (a ++ b).length ≤ 4294967296 by rw [List.length_append]; omega)]
  rw [few_true (by omega), few_true (by omega), parts_own _ _ _ _ _ _ _ _ _ (by omega)]
  simp only [cond_true, history_replay k hc hown (show (a.filter fun m => m.item == k).length ≤ 4294967296 by omega)]
  have e : replay c (a.filter fun m => m.item == k) k = replay c a k := by
    unfold replay
    rw [List.filter_filter]
    simp only [Bool.and_self]
  rw [e, replay_append]
  simp only [beq_self_eq_true, cond_true]
  cases (replay c a k).2 <;> simp

end Go.Proofs.Mill
