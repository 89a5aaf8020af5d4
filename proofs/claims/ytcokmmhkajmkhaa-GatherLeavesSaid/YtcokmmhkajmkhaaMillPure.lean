/- Operations that only compute. -/
import Derived.Test.YtcokmmhkajmkhaaMillAppend
import Derived.Laws.StructEq
set_option linter.all false
namespace Go.Proofs.Mill
open Go.RowKit

theorem part_cut {V : Env} {c : Cx} {t : TypeId} {cs : List AV} {carr : Array Value} {off : Nat} {av : AV} (h : VL c cs carr.toList) (hc : cut V t cs off = some av) (w : World) :
    ∃ u, (part t carr off).run V.P w = .ok u w ∧ Mill.V c av u := by
  unfold cut at hc
  cases hs : sizeOf? V t with
  | none => rw [hs] at hc; simp at hc
  | some n =>
    rw [hs] at hc
    simp only at hc
    obtain ⟨⟨d, hd⟩, i, hi, rfl⟩ := info_size hs
    cases ha : isAgg? V t with
    | true =>
      rw [ha] at hc
      simp only [cond_true] at hc
      cases hb : Nat.ble (off + i.size) cs.length with
      | false => rw [hb] at hc; simp at hc
      | true =>
        rw [hb] at hc
        simp only [cond_true, Option.some.injEq] at hc
        subst hc
        refine ⟨.agg (carr.extract off (off + i.size)), ?_, ⟨_, rfl, ?_⟩⟩
        · simp [part, run_isAgg hd, ha, sizeOf, typeInfo, hi]
        · have := (h.drop off).take i.size
          simpa [Array.toList_extract, List.extract_eq_take_drop] using this
    | false =>
      rw [ha] at hc
      simp only [cond_false] at hc
      obtain ⟨u, hu, hv⟩ := h.get off av hc
      refine ⟨u, ?_, hv⟩
      have : carr[off]? = some u := by simpa using hu
      simp [part, run_isAgg hd, ha, this]

/-- Structs that are compared. -/
theorem eqA_ok {V : Env} {c : Cx} : ∀ {d : Nat} {t : TypeId} {x y : AV} {r : Bool} {u v : Value} (n : Nat) (w : World), eqA V d t x y = some r → Mill.V c x u → Mill.V c y v →
    (Op.equalIn (d + n) t u v).run V.P w = .ok r w
  | 0, _, _, _, _, _, _, _, _, h, _, _ => by simp [eqA] at h
  | d + 1, t, x, y, r, u, v, n, w, h, hx, hy => by
    simp only [eqA] at h
    rw [show d + 1 + n = (d + n) + 1 by omega]
    split at h
    · rename_i hu
      simp only [Mill.V] at hx hy
      subst hx hy
      rename_i k0 k a k' b
      cases hk : decide (k = k') with
      | false => rw [hk] at h; simp at h
      | true =>
        rw [hk] at h
        simp only [cond_true, Option.some.injEq] at h
        have hk := of_decide_eq_true hk
        subst hk h
        exact run_equalIn_int w _ t k _ a b hu
    · rename_i hu
      simp only [Mill.V] at hx hy
      subst hx hy
      obtain rfl := Option.some.inj h
      exact run_equalIn_bool' w _ t _ _ hu
    · rename_i hu
      simp only [Mill.V] at hx hy
      subst hx hy
      obtain rfl := Option.some.inj h
      exact run_equalIn_string w _ t _ _ hu
    · rename_i fs xs ys hu
      obtain ⟨xa, rfl, hx⟩ := hx
      obtain ⟨ya, rfl, hy⟩ := hy
      cases hp : V.P.stoodInHeld t with
      | true => rw [hp] at h; simp at h
      | false =>
        rw [hp] at h
        simp only [cond_false] at h
        have hf : V.P.fieldsOf t = fs := by simp [Program.fieldsOf, hu]
        rw [run_equalIn_struct w _ t xa ya (by rw [hf]; exact hu) hp, hf]
        have key : ∀ (l : List Field) (r : Bool), (l.foldr (fun f r => bif f.name != "_" then
          match cut V f.type xs f.offset, cut V f.type ys f.offset with
          | some a, some b => match eqA V d f.type a b, r with
            | some e, some r => some (e && r)
            | _, _ => none
          | _, _ => none
          else r) (some true)) = some r → (Op.eqFields (d + n) xa ya l).run V.P w = .ok r w := by
          intro l
          induction l with
          | nil => intro r h; simp at h; subst h; simp [Op.eqFields]
          | cons f l ih =>
            intro r h
            rw [List.foldr_cons] at h
            simp only [Op.eqFields]
            by_cases hn : f.name = "_"
            · rw [show (f.name != "_") = false by simp [hn]] at h
              simp only [cond_false] at h
              rw [if_neg (by simp [hn])]
              exact ih r h
            · rw [show (f.name != "_") = true by simp [hn]] at h
              simp only [cond_true] at h
              rw [if_pos hn]
              split at h
              case h_2 => cases h
              rename_i a b ha hb
              split at h
              case h_2 => cases h
              rename_i e r' he hr
              obtain rfl := Option.some.inj h
              obtain ⟨u1, h1, v1⟩ := part_cut hx ha w
              obtain ⟨u2, h2, v2⟩ := part_cut hy hb w
              have h3 := eqA_ok n w he v1 v2
              simp only [Sem.run_bind, h1, h2, h3, Result.andThen_ok]
              cases e with
              | false => simp
              | true => simp only [Bool.not_true, Bool.false_eq_true, if_false, Bool.true_and]; exact ih r' hr
        exact key _ _ h
    · cases h

end Go.Proofs.Mill
