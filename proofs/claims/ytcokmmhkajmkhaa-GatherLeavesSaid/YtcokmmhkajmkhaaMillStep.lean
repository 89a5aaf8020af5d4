/- One operation of a region, whichever it is. -/
import Derived.Test.YtcokmmhkajmkhaaMillSlice
set_option linter.all false
namespace Go.Proofs.Mill
variable {ds : List Deferred}
open Go.RowKit

theorem Does.wp {P : Program} {w0 w : World} {ok : Nat → Prop} {o : Oper} {a : Act} {ob : List (Nat × AV)} {mu : Nat → Option Nat} {v : AV} {ws : Wr}
    {next : Act → World → Prop} {Q : Exit → Act → World → Prop} (h : Does P w0 ok o a w ob mu v ws) (hn : ∀ u w', Post w0 ok w ob mu v ws u w' → next (a.put o.dst u) w') : o.wp P a w next Q := by
  obtain ⟨u, w', h, hp⟩ := h
  unfold Oper.wp
  rcases h with h | ⟨h, rfl⟩
  · rw [h]; exact hn u w' hp
  · rw [h]; exact hn undef w' hp

/-- The functions that are known do what is said of them. -/
def GoodEnv (V : Env) : Prop := (∀ f s, V.G f = some s → SpecOK V.P f s ∧ Enter V.P f) ∧ V.P.follows .mixedOrders = true ∧ (∀ f, V.ent f = true → Enter V.P f) ∧ PureOK V.P V.pure

theorem evVal_wp {V : Env} {w0 w : World} {ok : Nat → Prop} {nt fid : Nat} {σ : St} {a : Act} {mu : Nat → Option Nat} {o : Oper} {v : AV} {ws : Wr}
    {next : Act → World → Prop} {Q : Exit → Act → World → Prop} (hG : GoodEnv V)
    (h : (evVal V fid o).val σ = some (v, ws)) (hr : R w0 ok nt ds σ a w mu)
    (hn : ∀ u w', Post w0 ok w σ.ob mu v ws u w' → next (a.put o.dst u) w') : o.wp V.P a w next Q := by
  cases ho : o.op with
  | move x => exact (does_move (.inl ho) h hr).wp hn
  | assign x => exact (does_move (.inr ho) h hr).wp hn
  | pick c x y => exact (does_pick ho h hr).wp hn
  | alloc e => exact (does_alloc ho h hr).wp hn
  | box e x => exact (does_box ho h hr).wp hn
  | build t ps => exact (does_build ho h hr).wp hn
  | buildSlice t n ps => exact (does_buildSlice ho h hr).wp hn
  | load t x => exact (does_load ho h hr).wp hn
  | store t x y => exact (does_store ho h hr).wp hn
  | binOp op t x y s => exact (does_binOp ho h hr).wp hn
  | nilCheck x => exact (does_nilCheck ho h hr).wp hn
  | typeAssert x s t b => exact (does_typeAssert ho h hr).wp hn
  | unOp op t x => exact (does_unOp ho h hr).wp hn
  | convert s t x => exact (does_convert ho h hr).wp hn
  | fieldAddr s x f => exact (does_fieldAddr ho h hr).wp hn
  | field s x f => exact (does_field ho h hr).wp hn
  | indexAddr t x y => exact (does_indexAddr ho h hr).wp hn
  | index t x y => exact (does_index ho h hr).wp hn
  | slice t x lo hi mx =>
    cases mx with
    | none => exact (does_slice ho h hr).wp hn
    | some _ => simp [evVal, ho, Rd.val] at h
  | extract x i => exact (does_extract ho h hr).wp hn
  | makeFunc fn first caps => exact (does_makeFunc ho h hr).wp hn
  | makeInterface t x => exact (does_makeInterface ho h hr).wp hn
  | makeSlice t x y => exact (does_makeSlice ho h hr).wp hn
  | call c =>
    cases hb : c.callee with
    | value f => exact does_call hG.1 hG.2.2.2 ho hb h hr hn
    | invoke r m => simp [evVal, ho, hb, Rd.val] at h
    | builtin b =>
      cases b with
      | len => exact (does_len ho hb h hr).wp hn
      | max => exact (does_max ho hb h hr).wp hn
      | cap => exact (does_cap ho hb h hr).wp hn
      | min => exact (does_min ho hb h hr).wp hn
      | append => exact (does_append ho hb h hr).wp hn
      | _ => simp [evVal, ho, hb, Rd.val] at h
  | _ => simp [evVal, ho, Rd.val] at h

end Go.Proofs.Mill
