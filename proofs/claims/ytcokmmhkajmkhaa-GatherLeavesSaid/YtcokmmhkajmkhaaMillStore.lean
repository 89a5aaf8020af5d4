/- Cells read back as data; stores. -/
import Derived.Test.YtcokmmhkajmkhaaMillMemOps
set_option linter.all false
namespace Go.Proofs.Mill
open Go.RowKit

theorem DV_i {c : Cx} {n : Int} {v : Value} (h : V c (.int .i64 n) v) : c.DV (.i n) v := by
  simp only [V] at h; subst h; exact .int _ _
theorem DV_b {c : Cx} {n : Bool} {v : Value} (h : V c (.bool n) v) : c.DV (.bool n) v := by
  simp only [V] at h; subst h; exact .bool _
theorem DV_s {c : Cx} {n : ByteArray} {v : Value} (h : V c (.str n) v) : c.DV (.str n) v := by
  simp only [V] at h; subst h; exact .str _

theorem eqTy_ok {a b : Ty} {h : PLift (a = b)} (_ : Ty.eqTy a b = some h) : a = b := h.down

theorem list?_ok {c : Cx} {τ : Ty} {x : AV} {xs : List τ.den} {v : Value} (h : x.list? τ = some xs) (hv : V c x v) : c.DV (.lst τ.sz (xs.map τ.enc)) v := by
  unfold AV.list? at h
  split at h
  · split at h
    · rename_i hh _
      subst hh
      simp only [Option.some.injEq] at h
      subst h
      exact hv
    · cases h
  · simp only [Option.some.injEq] at h
    subst h
    simp only [V] at hv
    subst hv
    exact .nil _ _ _ (fun _ => rfl)
  · cases h

theorem entries?_ok {c : Cx} {x : AV} {xs : List Entry} {v : Value} (h : x.entries? = some xs) (hv : V c x v) : c.DV (.lst 3 (xs.map encEntry)) v := by
  unfold AV.entries? at h
  split at h
  · obtain rfl := Option.some.inj h; exact hv
  · simp only [Option.some.injEq] at h; subst h; simp only [V] at hv; subst hv; exact .nil _ _ _ (fun _ => rfl)
  · cases h
theorem kids?_ok {c : Cx} {x : AV} {xs : List Kid} {v : Value} (h : x.kids? = some xs) (hv : V c x v) : c.DV (.lst 2 (xs.map encKid)) v := by
  unfold AV.kids? at h
  split at h
  · obtain rfl := Option.some.inj h; exact hv
  · simp only [Option.some.injEq] at h; subst h; simp only [V] at hv; subst hv; exact .nil _ _ _ (fun _ => rfl)
  · cases h
theorem ints?_ok {c : Cx} {x : AV} {xs : List Int} {v : Value} (h : x.ints? = some xs) (hv : V c x v) : c.DV (.lst 1 (xs.map encInt)) v := by
  unfold AV.ints? at h
  split at h
  · obtain rfl := Option.some.inj h; exact hv
  · simp only [Option.some.injEq] at h; subst h; simp only [V] at hv; subst hv; exact .nil _ _ _ (fun _ => rfl)
  · cases h

theorem VL_cons {c : Cx} {x : AV} {xs : List AV} {vs : List Value} (h : VL c (x :: xs) vs) : ∃ v us, vs = v :: us ∧ V c x v ∧ VL c xs us := by
  cases vs with
  | nil => exact h.elim
  | cons v us => exact ⟨v, us, rfl, h.1, h.2⟩
theorem VL_nil {c : Cx} {vs : List Value} (h : VL c [] vs) : vs = [] := by
  cases vs with
  | nil => rfl
  | cons v us => exact h.elim

theorem DV_u {c : Cx} {n : Int} {v : Value} (h : V c (.int .u8 n) v) : c.DV (.int .u8 n) v := by
  simp only [V] at h
  subst h
  exact DV.int _ _

set_option maxHeartbeats 1000000 in
theorem decA_ok {c : Cx} {τ : Ty} {cs : List AV} {x : τ.den} {vs : List Value} (h : τ.decA cs = some x) (hv : VL c cs vs) : c.DVs (τ.enc x) vs := by
  cases τ
  case thread =>
    change decThread cs = some x at h
    unfold decThread at h
    split at h
    · split at h
      · rename_i b1 b2 b3 h1 h2 h3
        obtain rfl := Option.some.inj h
        obtain ⟨_, _, rfl, v1, hv⟩ := VL_cons hv
        obtain ⟨_, _, rfl, v2, hv⟩ := VL_cons hv
        obtain ⟨_, _, rfl, v3, hv⟩ := VL_cons hv
        obtain ⟨_, _, rfl, v4, hv⟩ := VL_cons hv
        obtain ⟨_, _, rfl, v5, hv⟩ := VL_cons hv
        obtain ⟨_, _, rfl, v6, hv⟩ := VL_cons hv
        obtain ⟨_, _, rfl, v7, hv⟩ := VL_cons hv
        have e5 := entries?_ok h1 v5
        have e6 := kids?_ok h2 v6
        have e7 := ints?_ok h3 v7
        repeat (obtain ⟨_, _, rfl, _, hv⟩ := VL_cons hv)
        obtain rfl := VL_nil hv
        refine ⟨DV_i v1, DV_i v2, DV_i v3, DV_i v4, e5, e6, e7, ?_⟩
        (repeat' apply And.intro) <;> first | exact DV_i ‹_› | trivial
      · cases h
    · cases h
  case lst t =>
    change decLst t cs = some x at h
    unfold decLst at h
    split at h
    · obtain ⟨_, _, rfl, v1, hv⟩ := VL_cons hv
      obtain rfl := VL_nil hv
      exact ⟨list?_ok h v1, trivial⟩
    · cases h
  all_goals
    simp only [Ty.decA] at h
    first | unfold decInt at h | unfold decU8 at h | unfold decStr at h | unfold decEntry at h | unfold decKid at h | unfold decMark at h | unfold decEvent at h | unfold decSEntry at h | unfold decWant at h | unfold decClient at h | unfold decReply at h
    split at h
    · obtain rfl := Option.some.inj h
      repeat (obtain ⟨_, _, rfl, _, hv⟩ := VL_cons hv)
      obtain rfl := VL_nil hv
      (repeat' apply And.intro) <;> first | exact DV_i ‹_› | exact DV_u ‹_› | exact DV_b ‹_› | exact DV_s ‹_› | trivial
    · cases h
end Go.Proofs.Mill
