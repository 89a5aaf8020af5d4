/- The plain law of HistoryTells. -/
import Derived.Test.YtcokmmhkajmkhaaMillPHistory3
set_option linter.all false
namespace Go.Proofs.Mill

theorem pure_HistoryTells (c : Config) (l : List Mark) (h : List Event) (t k : Int) (o0 : (valSt celConfig).Ok c) (o1 : (valLst .mark).Ok l) (o2 : (valLst .event).Ok h) (o3 : (valInt .i64).Ok t) (o4 : (valInt .i64).Ok k) :
    F_law18_HistoryTells c l h t k = some true := by
  simp only [F_law18_HistoryTells, C_law18_shown, law18_shown, Bool.not_true, cond_false, cond_dec]
  by_cases h1 : (l.length : Int) > 200
  · rw [if_pos h1]
  rw [if_neg h1]
  by_cases h2 : (h.length : Int) > 200
  · rw [if_pos h2]
  rw [if_neg h2]
  have hc := conf_ok o0
  obtain ⟨b, hb1, hb2⟩ := answers_both (c := c) (l := l) (h := h) t hc (events_ok o2) (by omega) (by omega)
  rw [show C_law18_theirs (Wld.mk (Config.mk (0 : Int) (0 : Int) (0 : Int) (0 : Int) (0 : Int) (0 : Int) (0 : Int) (0 : Int) false (0 : Int) (0 : Int) (0 : Int)) (Memo.mk ([] : List Int) ([] : List (List Entry))) ([] : List Thread) (0 : Int) (0 : Int) (Tape.mk ([] : List Int) (0 : Int)) l h) = some _ from
    law18_theirs ⟨by simp, by simp, by simp, by simp, by simp, by simp only; omega, by simp only; omega⟩]
  simp only [C_history_Replay, history_replay k hc (marks_ok o1) (show l.length ≤ 4294967296 by omega), C_ref18_Replay, ref18_replay c l k (by omega), C_history_Pending, history_pending (l := h) t (by omega), C_ref18_Pending, ref18_pending (l := h) t (by omega),
    C_history_Counts, history_counts (l := h) (by omega), C_ref18_Counts, ref18_counts (l := h) (by omega), C_history_Answers, hb1, C_ref18_Answers, hb2, beq_self_eq_true, Bool.and_self, cond_true]

end Go.Proofs.Mill
