/- An environment: what is known, as a list. -/
import Derived.Test.YtcokmmhkajmkhaaMillTypes
set_option linter.all false
namespace Go.Proofs.Mill
open Go.RowKit

def assoc : List (FuncId × Spec) → FuncId → Option Spec
  | [], _ => none
  | p :: r, f => bif Nat.beq p.1 f then some p.2 else assoc r f

/-- The functions from the one to the other have bodies, and are none of the run-time's. -/
def entAll (P : Program) : List FuncId → Bool
  | [] => true
  | f :: r => bif (match P.funcs[f]? with | some fn => !fn.body.isNone && !(fn.name == "runtime.NumGoroutine") | none => false) then entAll P r else false

/-- Each place once, as it stands. -/
def squash : List (Nat × AV) → Wr
  | [] => []
  | p :: r => p :: (squash r).filter fun q => !(Nat.beq q.1 p.1)

/-- A function, walked into from an empty store. -/
def pureOf (V : Env) (rounds depth : Nat) (f : FuncId) (fid : Nat) (args : List AV) : Option (AV × Wr) :=
  bif V.ent f then (match fnK V (fun _ => none) (inlK V rounds depth) rounds f fid args [] (fun v ob => some (v, squash ob)) with | some p => (bif apartN p.2 then some p else none) | none => none) else none

def env0 (P : Program) (E : TypeId → Option Ty) (hi : Nat) (l : List (FuncId × Spec)) : Env := ⟨P, E, assoc l, fun f => Nat.ble 3 f && Nat.blt f hi, fun _ _ _ => none, fun _ => false⟩
def envOf (P : Program) (E : TypeId → Option Ty) (hi : Nat) (l : List (FuncId × Spec)) (mv : FuncId → Bool := fun _ => false) : Env :=
  ⟨P, E, assoc l, fun f => Nat.ble 3 f && Nat.blt f hi, pureOf (env0 P E hi l) 20 6, mv⟩

theorem squash_mem : ∀ (ob : List (Nat × AV)) (p : Nat × AV), p ∈ squash ob → look ob p.1 = p.2
  | [], _, h => by cases h
  | q :: r, p, h => by
    rcases List.mem_cons.1 h with rfl | h
    · exact look_eq _ _ _
    · obtain ⟨h1, h2⟩ := List.mem_filter.1 h
      have hne : q.1 ≠ p.1 := by
        intro e
        rw [e] at h2
        simp at h2
      rw [look_ne _ _ hne]
      exact squash_mem r p h1

theorem squash_nodup : ∀ (ob : List (Nat × AV)), ((squash ob).map (·.1)).Nodup
  | [] => by simp [squash]
  | q :: r => by
    show (q.1 :: ((squash r).filter fun x => !(Nat.beq x.1 q.1)).map (·.1)).Nodup
    rw [List.nodup_cons]
    refine ⟨fun hm => ?_, ?_⟩
    · obtain ⟨p, hp, he⟩ := List.mem_map.1 hm
      have := (List.mem_filter.1 hp).2
      rw [he] at this
      simp at this
    · exact (squash_nodup r).sublist (List.Sublist.map _ List.filter_sublist)

theorem squash_has : ∀ (ob : List (Nat × AV)) (i : Nat), look ob i ≠ .undef → ∃ p ∈ squash ob, p.1 = i
  | [], i, h => (h rfl).elim
  | q :: r, i, h => by
    by_cases e : q.1 = i
    · exact ⟨q, by simp [squash], e⟩
    · obtain ⟨j, o⟩ := q
      rw [look_ne _ _ e] at h
      obtain ⟨p, hp, he⟩ := squash_has r i h
      refine ⟨p, ?_, he⟩
      refine List.mem_cons_of_mem _ (List.mem_filter.2 ⟨hp, ?_⟩)
      have hf : Nat.beq p.1 j = false := by
        cases hb : Nat.beq p.1 j with
        | false => rfl
        | true => exact (e ((Nat.eq_of_beq_eq_true hb).symm.trans he)).elim
      simp only [hf, Bool.not_false]

theorem squash_look (ob : List (Nat × AV)) : look (appOb (squash ob) []) = look ob := by
  funext i
  by_cases h : ∃ p ∈ squash ob, p.1 = i
  · obtain ⟨p, hp, rfl⟩ := h
    rw [look_appOb_in _ _ p (squash_nodup ob) hp, squash_mem ob p hp]
  · rw [look_appOb_not _ _ _ (fun p hp e => h ⟨p, hp, e⟩)]
    apply Classical.byContradiction
    intro hne
    exact h (squash_has ob i (fun e => hne (by rw [e]; rfl)))

theorem pureOf_ok {V : Env} {rounds depth : Nat} (hG : GoodEnv V) : PureOK V.P (pureOf V rounds depth) := by
  intro f fid args v ws h
  unfold pureOf at h
  cases he : V.ent f with
  | false => rw [he] at h; cases h
  | true =>
    rw [he] at h
    simp only [cond_true] at h
    split at h
    case h_2 => cases h
    rename_i p hp
    cases hn : apartN p.2 with
    | false => rw [hn] at h; cases h
    | true =>
    rw [hn] at h
    simp only [cond_true, Option.some.injEq] at h
    subst h
    have h := hp
    have hn : apartN ws = true := hn
    have key : ∀ (w : World) (ok : Nat → Prop) (vals : Array Value), VL (pcx w ok) args vals.toList → Calls V.P f vals w fun e w' => ∃ v' u ob' mu', e = .returned u ∧
        Mem w (cx w' ob' mu' fun b => ok b ∨ w.heap.size ≤ b) ∧ T (cx w' ob' mu' fun b => ok b ∨ w.heap.size ≤ b) ∧ Mill.V (cx w' ob' mu' fun b => ok b ∨ w.heap.size ≤ b) v' u ∧ some (v', squash ob') = some (v, ws) := by
      intro w ok vals hv
      have hm : Mem w (cx w [] (fun _ => none) fun b => ok b ∨ w.heap.size ≤ b) :=
        ⟨fun _ => rfl, fun _ _ _ h => (by cases h), fun _ _ h => (by cases h), Below.refl _ _, fun b hb => .inr hb⟩
      have hmono : Mono (pcx w ok) (cx w [] (fun _ => none) fun b => ok b ∨ w.heap.size ≤ b) := mono_of (fun b hb => ⟨⟨.inl hb.1, hb.2.1, hb.2.2⟩, rfl⟩) (fun id => .inl rfl)
      exact fnK_ok (J := T) hG (inlK_ok hG depth) Stays.triv (fun _ _ _ _ => trivial) loops_none hm (hmono.vl _ _ hv) trivial h
    refine ⟨hG.2.2.1 f he, apartN_nodup _ hn, fun w ok vals hv => (key w ok vals hv).mono fun e w' he => ?_⟩
    · obtain ⟨v', u, ob', mu', rfl, hm', _, hv', hk⟩ := he
      simp only [Option.some.injEq, Prod.mk.injEq] at hk
      obtain ⟨rfl, rfl⟩ := hk
      exact ⟨u, mu', rfl, by unfold cx at hm' ⊢; rw [squash_look]; exact hm', by unfold cx at hv' ⊢; rw [squash_look]; exact hv'⟩

def Goods (P : Program) (hi : Nat) (l : List (FuncId × Spec)) : Prop := ∀ p ∈ l, SpecOK P p.1 p.2 ∧ (Nat.ble 3 p.1 && Nat.blt p.1 hi) = true

theorem goods_nil {P : Program} {hi : Nat} : Goods P hi [] := fun _ h => by cases h
theorem goods_cons {P : Program} {hi : Nat} {f : FuncId} {s : Spec} {l : List (FuncId × Spec)} (h : SpecOK P f s) (hf : (Nat.ble 3 f && Nat.blt f hi) = true) (k : Goods P hi l) : Goods P hi ((f, s) :: l) := by
  intro p hp
  rcases List.mem_cons.1 hp with rfl | hp
  · exact ⟨h, hf⟩
  · exact k p hp

theorem entAll_ok {P : Program} : ∀ (l : List FuncId), entAll P l = true → ∀ f ∈ l, Enter P f
  | [], _, _, h => by cases h
  | g :: r, h, f, hf => by
    unfold entAll at h
    generalize hb : (match P.funcs[g]? with | some fn => !fn.body.isNone && !(fn.name == "runtime.NumGoroutine") | none => false) = b at h
    cases b with
    | false => cases h
    | true =>
      rcases List.mem_cons.1 hf with rfl | hf
      · split at hb
        · rename_i fn hfn
          simp only [Bool.and_eq_true, Bool.not_eq_true'] at hb
          exact ⟨fn, hfn, hb.1, hb.2⟩
        · cases hb
      · exact entAll_ok r h f hf

theorem assoc_mem : ∀ {l : List (FuncId × Spec)} {f : FuncId} {s : Spec}, assoc l f = some s → (f, s) ∈ l
  | [], _, _, h => by cases h
  | p :: r, f, s, h => by
    unfold assoc at h
    cases hb : Nat.beq p.1 f with
    | true =>
      rw [hb] at h
      have hb := Nat.eq_of_beq_eq_true hb
      obtain rfl := Option.some.inj h
      subst hb
      simp
    | false =>
      rw [hb] at h
      exact List.mem_cons_of_mem _ (assoc_mem h)

theorem goodEnv {P : Program} {E : TypeId → Option Ty} {hi : Nat} {l : List (FuncId × Spec)} {mv : FuncId → Bool} (hm : P.follows .mixedOrders = true) (he : entAll P (List.range' 3 (hi - 3)) = true) (h : Goods P hi l) :
    GoodEnv (envOf P E hi l mv) := by
  have hent : ∀ f, (Nat.ble 3 f && Nat.blt f hi) = true → Enter P f := by
    intro f hf
    simp only [Bool.and_eq_true] at hf
    have h1 := Nat.le_of_ble_eq_true hf.1
    have h2 := hf.2
    rw [Nat.blt_eq] at h2
    exact entAll_ok _ he f (by rw [List.mem_range'_1]; omega)
  have hsp : ∀ f s, assoc l f = some s → SpecOK P f s ∧ Enter P f := by
    intro f s hs
    have := h _ (assoc_mem hs)
    exact ⟨this.1, hent f this.2⟩
  have h0 : GoodEnv (env0 P E hi l) := ⟨hsp, hm, hent, fun _ _ _ _ _ h => by cases h⟩
  exact ⟨hsp, hm, hent, pureOf_ok h0⟩

end Go.Proofs.Mill
