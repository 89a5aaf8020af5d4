/- Configs, places, words. -/
import Derived.Test.YtaopdopnecognaaGreatMillP0
import Derived.Test.YtaopdopnecognaaGreatMillPShown19
set_option linter.all false
namespace Go.Proofs.Mill

/-- A config that may be. -/
structure CfgOK (c : Config) : Prop where
  threads : 1 ≤ c.threads ∧ c.threads ≤ 16
  items : 1 ≤ c.items ∧ c.items ≤ 4
  backend : 1 ≤ c.backend ∧ c.backend ≤ 3
  depth : 0 ≤ c.depth ∧ c.depth ≤ 4
  layers : 0 ≤ c.layers ∧ c.layers ≤ 3
  width : 1 ≤ c.width ∧ c.width ≤ 8
  spin : 0 ≤ c.spin ∧ c.spin ≤ 20
  wait : 0 ≤ c.wait ∧ c.wait ≤ 1000
  bounds : c.bounded = true → c.lo ≤ c.init ∧ c.init ≤ c.hi

theorem check_some (c : Config) : ∃ e, F_ref05_Check c = some e ∧ (e = 0 ↔ CfgOK c) := by
  unfold F_ref05_Check
  simp only [cond_dec]
  by_cases h0 : c.threads < 1
  · exact ⟨50, by rw [if_pos h0], by simp, fun h => by have := h.threads; omega⟩
  rw [if_neg h0]
  by_cases h1 : c.threads > 16
  · exact ⟨50, by rw [if_pos h1], by simp, fun h => by have := h.threads; omega⟩
  rw [if_neg h1]
  by_cases h2 : c.items < 1
  · exact ⟨51, by rw [if_pos h2], by simp, fun h => by have := h.items; omega⟩
  rw [if_neg h2]
  by_cases h3 : c.items > 4
  · exact ⟨51, by rw [if_pos h3], by simp, fun h => by have := h.items; omega⟩
  rw [if_neg h3]
  by_cases h4 : c.backend < 1
  · exact ⟨52, by rw [if_pos h4], by simp, fun h => by have := h.backend; omega⟩
  rw [if_neg h4]
  by_cases h5 : c.backend > 3
  · exact ⟨52, by rw [if_pos h5], by simp, fun h => by have := h.backend; omega⟩
  rw [if_neg h5]
  by_cases h6 : c.depth < 0
  · exact ⟨53, by rw [if_pos h6], by simp, fun h => by have := h.depth; omega⟩
  rw [if_neg h6]
  by_cases h7 : c.depth > 4
  · exact ⟨53, by rw [if_pos h7], by simp, fun h => by have := h.depth; omega⟩
  rw [if_neg h7]
  by_cases h8 : c.layers < 0
  · exact ⟨54, by rw [if_pos h8], by simp, fun h => by have := h.layers; omega⟩
  rw [if_neg h8]
  by_cases h9 : c.layers > 3
  · exact ⟨54, by rw [if_pos h9], by simp, fun h => by have := h.layers; omega⟩
  rw [if_neg h9]
  by_cases h10 : c.width < 1
  · exact ⟨55, by rw [if_pos h10], by simp, fun h => by have := h.width; omega⟩
  rw [if_neg h10]
  by_cases h11 : c.width > 8
  · exact ⟨55, by rw [if_pos h11], by simp, fun h => by have := h.width; omega⟩
  rw [if_neg h11]
  by_cases h12 : c.spin < 0
  · exact ⟨56, by rw [if_pos h12], by simp, fun h => by have := h.spin; omega⟩
  rw [if_neg h12]
  by_cases h13 : c.spin > 20
  · exact ⟨56, by rw [if_pos h13], by simp, fun h => by have := h.spin; omega⟩
  rw [if_neg h13]
  by_cases h14 : c.wait < 0
  · exact ⟨57, by rw [if_pos h14], by simp, fun h => by have := h.wait; omega⟩
  rw [if_neg h14]
  by_cases h15 : c.wait > 1000
  · exact ⟨57, by rw [if_pos h15], by simp, fun h => by have := h.wait; omega⟩
  rw [if_neg h15]
  cases hb : c.bounded with
  | false => exact ⟨0, rfl, fun _ => ⟨by omega, by omega, by omega, by omega, by omega, by omega, by omega, by omega, fun h => by rw [hb] at h; cases h⟩, fun _ => rfl⟩
  | true =>
    simp only [cond_true]
    by_cases k1 : c.lo > c.init
    · exact ⟨58, by rw [if_pos k1], by simp, fun h => by have := h.bounds hb; omega⟩
    rw [if_neg k1]
    by_cases k2 : c.init > c.hi
    · exact ⟨58, by rw [if_pos k2], by simp, fun h => by have := h.bounds hb; omega⟩
    rw [if_neg k2]
    exact ⟨0, rfl, fun _ => ⟨by omega, by omega, by omega, by omega, by omega, by omega, by omega, by omega, fun _ => by omega⟩, fun _ => rfl⟩

end Go.Proofs.Mill
