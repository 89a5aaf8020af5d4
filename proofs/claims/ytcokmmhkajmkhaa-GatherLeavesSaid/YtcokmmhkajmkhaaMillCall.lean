/- A call of a function that is known. -/
import Derived.Test.YtcokmmhkajmkhaaMillDo3
set_option linter.all false
namespace Go.Proofs.Mill
variable {ds : List Deferred}
open Go.RowKit

/-- Before anything is the call's own. -/
def pcx (w : World) (ok : Nat → Prop) : Cx := ⟨w, fun _ => .undef, fun _ => none, ok⟩

/-- A result, as the caller takes it over. -/
def Res (w0 : World) (ok : Nat → Prop) (w' : World) (r : AV) (v : Value) : Prop :=
  ∀ base, ∃ mu, Mem w0 (cx w' (appOb (impRes base r).2 []) mu fun b => ok b ∨ w0.heap.size ≤ b) ∧
    V (cx w' (appOb (impRes base r).2 []) mu fun b => ok b ∨ w0.heap.size ≤ b) (impRes base r).1 v

/-- What a known function does. -/
def SpecOK (P : Program) (f : FuncId) (s : Spec) : Prop :=
  ∀ (w0 : World) (ok : Nat → Prop) (avs : List AV) (args : Array Value) (a : s.α) (b : s.β), s.dec avs = some a → s.fn a = some b → VL (pcx w0 ok) avs args.toList →
    Calls P f args w0 fun e w' => ∃ v, e = .returned v ∧ Below w0.heap.size w0 w' ∧ Res w0 ok w' (s.enc b) v

def D.isFlat : D → Bool
  | .int _ _ | .bool _ | .str _ => true
  | _ => false

theorem DVs_flat {c c' : Cx} {τ : Ty} (hf : τ.flat = true) (x : τ.den) {vs : List Value} (h : c.DVs (τ.enc x) vs) : c'.DVs (τ.enc x) vs := by
  have hi : ∀ {k : IntKind} {n : Int} {v : Value}, c.DV (.int k n) v → c'.DV (.int k n) v := by intro k n v h; cases h; exact .int _ _
  have hb : ∀ {n : Bool} {v : Value}, c.DV (.bool n) v → c'.DV (.bool n) v := by intro n v h; cases h; exact .bool _
  have hs : ∀ {n : ByteArray} {v : Value}, c.DV (.str n) v → c'.DV (.str n) v := by intro n v h; cases h; exact .str _
  have key : ∀ {ds : List D} {vs : List Value}, (∀ d ∈ ds, (∃ k n, d = .int k n) ∨ (∃ b, d = .bool b) ∨ ∃ s, d = .str s) → c.DVs ds vs → c'.DVs ds vs := by
    intro ds
    induction ds with
    | nil => intro vs _ h; cases vs <;> first | trivial | exact h.elim
    | cons d ds ih =>
      intro vs hd h
      cases vs with
      | nil => exact h.elim
      | cons v vs =>
        refine ⟨?_, ih (fun d hd' => hd d (by simp [hd'])) h.2⟩
        rcases hd d (by simp) with ⟨k, n, rfl⟩ | ⟨b, rfl⟩ | ⟨s, rfl⟩
        · exact hi h.1
        · exact hb h.1
        · exact hs h.1
  have hall : (τ.enc x).all D.isFlat = true := by cases τ <;> first | rfl | (simp [Ty.flat] at hf)
  refine key ?_ h
  intro d hd
  have := List.all_eq_true.1 hall d hd
  cases d with
  | int k n => exact .inl ⟨k, n, rfl⟩
  | bool b => exact .inr (.inl ⟨b, rfl⟩)
  | str s => exact .inr (.inr ⟨s, rfl⟩)
  | lst sz rows => simp [D.isFlat] at this

theorem DVs_flats {c c' : Cx} {τ : Ty} (hf : τ.flat = true) : ∀ (xs : List τ.den) {vs : List Value}, c.DVs (xs.map τ.enc).flatten vs → c'.DVs (xs.map τ.enc).flatten vs
  | [], vs, h => by cases vs <;> first | trivial | exact h.elim
  | x :: xs, vs, h => by
    simp only [List.map_cons, List.flatten_cons] at h ⊢
    obtain ⟨us, ws, rfl, h1, h2⟩ := h.split
    exact Cx.DVs.append (DVs_flat hf x h1) (DVs_flats hf xs h2)

/-- The ids of what is imported. -/
def Fresh (base : Nat) (ws : Wr) (next : Nat) : Prop :=
  base ≤ next ∧ (∀ p ∈ ws, base ≤ p.1 ∧ p.1 < next) ∧ (∀ p ∈ ws, ∃ e τ, ∃ xs : List τ.den, p.2 = .row e τ xs) ∧ (ws.map (·.1)).Nodup

theorem Fresh.nil (base : Nat) : Fresh base [] base := ⟨Nat.le_refl _, fun _ h => (by cases h), fun _ h => (by cases h), by simp⟩

theorem Fresh.append {a b c : Nat} {ws ws' : Wr} (h : Fresh a ws b) (k : Fresh b ws' c) : Fresh a (ws ++ ws') c := by
  obtain ⟨h1, h2, h3, h4⟩ := h
  obtain ⟨k1, k2, k3, k4⟩ := k
  refine ⟨Nat.le_trans h1 k1, fun p hp => ?_, fun p hp => ?_, ?_⟩
  · rcases List.mem_append.1 hp with hp | hp
    · have := h2 p hp; omega
    · have := k2 p hp; omega
  · rcases List.mem_append.1 hp with hp | hp
    · exact h3 p hp
    · exact k3 p hp
  · rw [List.map_append, List.nodup_append]
    refine ⟨h4, k4, fun x hx y hy e => ?_⟩
    obtain ⟨p, hp, rfl⟩ := List.mem_map.1 hx
    obtain ⟨q, hq, rfl⟩ := List.mem_map.1 hy
    have := h2 p hp
    have := k2 q hq
    omega

theorem impCell_fresh (id : Nat) (v : AV) : Fresh id (impCell id v).2.1 (impCell id v).2.2 := by
  unfold impCell
  split
  · exact ⟨Nat.le_succ id, fun p hp => by simp at hp; subst hp; simp, fun p hp => by simp at hp; subst hp; exact ⟨_, _, _, rfl⟩, by simp⟩
  · exact Fresh.nil id

theorem impCells_fresh : ∀ (id : Nat) (vs : List AV), Fresh id (impCells id vs).2.1 (impCells id vs).2.2
  | id, [] => Fresh.nil id
  | id, v :: r => (impCell_fresh id v).append (impCells_fresh (impCell id v).2.2 r)

theorem impVal_fresh (id : Nat) (v : AV) : Fresh id (impVal id v).2.1 (impVal id v).2.2 := by
  unfold impVal
  split
  · exact impCells_fresh _ _
  · exact impCell_fresh _ _

theorem impVals_fresh : ∀ (id : Nat) (vs : List AV), Fresh id (impVals id vs).2.1 (impVals id vs).2.2
  | id, [] => Fresh.nil id
  | id, v :: r => (impVal_fresh id v).append (impVals_fresh (impVal id v).2.2 r)

theorem impRes_fresh (id : Nat) (v : AV) : ∃ n, Fresh id (impRes id v).2 n := by
  unfold impRes
  split
  · exact ⟨_, impVals_fresh _ _⟩
  · exact ⟨_, impVal_fresh _ _⟩

theorem look_appOb_not : ∀ (ws : Wr) (ob : List (Nat × AV)) (id : Nat), (∀ p ∈ ws, p.1 ≠ id) → look (appOb ws ob) id = look ob id
  | [], _, _, _ => rfl
  | p :: ws, ob, id, h => by
    show look (appOb ws (p :: ob)) id = _
    rw [look_appOb_not ws _ id (fun q hq => h q (by simp [hq]))]
    exact look_ne _ _ (h p (by simp))

theorem look_appOb_in : ∀ (ws : Wr) (ob : List (Nat × AV)) (p : Nat × AV), (ws.map (·.1)).Nodup → p ∈ ws → look (appOb ws ob) p.1 = p.2
  | [], _, _, _, h => by cases h
  | q :: ws, ob, p, hn, h => by
    simp only [List.map_cons, List.nodup_cons] at hn
    show look (appOb ws (q :: ob)) p.1 = _
    rcases List.mem_cons.1 h with rfl | h
    · rw [look_appOb_not ws _ _ (fun r hr e => hn.1 (List.mem_map.2 ⟨r, hr, e⟩))]
      exact look_eq _ _ _
    · exact look_appOb_in ws _ p hn.2 h

/-- What a call answers is joined to what the caller has. -/
theorem Mem.join {w0 w w' : World} {ob : List (Nat × AV)} {mu mur : Nat → Option Nat} {ok okR : Nat → Prop} {ws : Wr}
    (hm : Mem w0 (cx w ob mu ok)) (hb : Below w.heap.size w w') (hres : Mem w (cx w' (appOb ws []) mur okR)) (hnd : (ws.map (·.1)).Nodup) (hfree : ∀ p ∈ ws, look ob p.1 = .undef)
    (hok : ∀ b, okR b → b < w.heap.size → ok b ∧ ∀ id, mu id ≠ some b) :
    ∃ mu', Mono (cx w ob mu ok) (cx w' (appOb ws ob) mu' ok) ∧ Mem w0 (cx w' (appOb ws ob) mu' ok) ∧ Mono (cx w' (appOb ws []) mur okR) (cx w' (appOb ws ob) mu' ok) := by
  let mu' : Nat → Option Nat := fun id => if ws.any (fun p => p.1 == id) then mur id else mu id
  have hin : ∀ id, (∃ p ∈ ws, p.1 = id) → mu' id = mur id := by
    rintro id ⟨p, hp, rfl⟩
    have : ws.any (fun q => q.1 == p.1) = true := List.any_eq_true.2 ⟨p, hp, by simp⟩
    simp [mu', this]
  have hout : ∀ id, (∀ p ∈ ws, p.1 ≠ id) → mu' id = mu id := by
    intro id h
    have : ws.any (fun q => q.1 == id) = false := by
      rw [List.any_eq_false]
      intro q hq
      have := h q hq
      simpa using this
    simp [mu', this]
  have hdec : ∀ id, (∃ p ∈ ws, p.1 = id) ∨ (∀ p ∈ ws, p.1 ≠ id) := by
    intro id
    by_cases h : ∃ p ∈ ws, p.1 = id
    · exact .inl h
    · exact .inr fun p hp e => h ⟨p, hp, e⟩
  have hobin : ∀ id, (∃ p ∈ ws, p.1 = id) → look (appOb ws ob) id = look (appOb ws []) id ∧ look ob id = .undef := by
    rintro id ⟨p, hp, rfl⟩
    exact ⟨by rw [look_appOb_in ws ob p hnd hp, look_appOb_in ws [] p hnd hp], hfree p hp⟩
  have hobout : ∀ id, (∀ p ∈ ws, p.1 ≠ id) → look (appOb ws ob) id = look ob id ∧ look (appOb ws []) id = .undef := by
    intro id h
    exact ⟨look_appOb_not ws ob id h, by rw [look_appOb_not ws [] id h]; rfl⟩
  have hnew : ∀ id b, mur id = some b → w.heap.size ≤ b := fun id b h => hres.base id b h
  have hmurout : ∀ id, (∀ p ∈ ws, p.1 ≠ id) → mur id = none := by
    intro id h
    have := hres.obj id
    unfold ObjOK at this
    rw [show (cx w' (appOb ws []) mur okR).ob id = .undef from (hobout id h).2] at this
    exact this
  have hmono1 : Mono (cx w ob mu ok) (cx w' (appOb ws ob) mu' ok) := by
    refine mono_of (fun b hb' => ?_) (fun id => ?_)
    · obtain ⟨h1, h2, h3⟩ := hb'
      refine ⟨⟨h1, Nat.lt_of_lt_of_le h2 hb.size, fun id => ?_⟩, hb.block b h2⟩
      show mu' id ≠ some b
      rcases hdec id with h | h
      · rw [hin id h]
        intro e
        have := hnew id b e
        have : b < w.heap.size := h2
        omega
      · rw [hout id h]; exact h3 id
    · rcases hdec id with h | h
      · exact .inl (hobin id h).2
      · exact .inr (.inr (.inl ⟨(hobout id h).1, hout id h, fun b hb' => hb.block b (hm.lt hb')⟩))
  have hmono2 : Mono (cx w' (appOb ws []) mur okR) (cx w' (appOb ws ob) mu' ok) := by
    refine mono_of (fun b hb' => ?_) (fun id => ?_)
    · obtain ⟨h1, h2, h3⟩ := hb'
      refine ⟨⟨?_, h2, fun id => ?_⟩, rfl⟩
      · by_cases hbs : b < w.heap.size
        · exact (hok b h1 hbs).1
        · exact hm.okn b (Nat.le_trans hm.ext.size (Nat.le_of_not_lt hbs))
      · show mu' id ≠ some b
        rcases hdec id with h | h
        · rw [hin id h]; exact h3 id
        · rw [hout id h]
          by_cases hbs : b < w.heap.size
          · exact (hok b h1 hbs).2 id
          · intro e
            exact hbs (hm.lt (id := id) e)
    · rcases hdec id with h | h
      · exact .inr (.inr (.inl ⟨(hobin id h).1, hin id h, fun _ _ => rfl⟩))
      · exact .inl (hobout id h).2
  refine ⟨mu', hmono1, ⟨fun id => ?_, fun i j b hi hj => ?_, fun id b hid => ?_, ?_, hm.okn⟩, hmono2⟩
  · rcases hdec id with h | h
    · exact (hres.obj id).keep hmono2 (hobin id h).1 (hin id h) (fun _ _ => rfl)
    · exact (hm.obj id).keep hmono1 (hobout id h).1 (hout id h) (fun b hb' => hb.block b (hm.lt hb'))
  · have hi : mu' i = some b := hi
    have hj : mu' j = some b := hj
    rcases hdec i with h | h <;> rcases hdec j with h' | h'
    · rw [hin i h] at hi; rw [hin j h'] at hj
      exact hres.inj i j b hi hj
    · rw [hin i h] at hi; rw [hout j h'] at hj
      have h1 := hnew i b hi
      have h2 : b < w.heap.size := hm.lt (id := j) hj
      omega
    · rw [hout i h] at hi; rw [hin j h'] at hj
      have h1 := hnew j b hj
      have h2 : b < w.heap.size := hm.lt (id := i) hi
      omega
    · rw [hout i h] at hi; rw [hout j h'] at hj
      exact hm.inj i j b hi hj
  · have hid : mu' id = some b := hid
    rcases hdec id with h | h
    · rw [hin id h] at hid
      exact Nat.le_trans hm.ext.size (hnew id b hid)
    · rw [hout id h] at hid
      exact hm.base id b hid
  · have h1 := hm.ext
    exact ⟨hb.os.trans h1.os, hb.tape.trans h1.tape, hb.output.trans h1.output, Nat.le_trans h1.size hb.size,
      fun k hk => (hb.block k (Nat.lt_of_lt_of_le hk h1.size)).trans (h1.block k hk)⟩

/-- Plain data alone. -/
def AV.dat1 : AV → Bool
  | .int _ _ | .bool _ | .str _ | .lst _ _ | .emp | .fn _ [] => true
  | _ => false
def AV.dat : AV → Bool
  | .agg cs => cs.all AV.dat1
  | v => v.dat1

theorem V_dat1 {c c' : Cx} (hok : ∀ d v, c.DV d v → c'.DV d v) {x : AV} {u : Value} (hx : x.dat1 = true) (h : V c x u) : V c' x u := by
  cases x <;> try (simp [AV.dat1] at hx; done)
  case int => exact h
  case bool => exact h
  case str => exact h
  case lst => exact hok _ _ h
  case emp => exact h
  case fn f caps =>
    cases caps with
    | nil =>
      obtain ⟨vs, e, hv⟩ := h
      exact ⟨vs, e, by rw [VL_nil hv]; trivial⟩
    | cons a b => simp [AV.dat1] at hx

theorem VL_dat1 {c c' : Cx} (hok : ∀ d v, c.DV d v → c'.DV d v) : ∀ {xs : List AV} {us : List Value}, xs.all AV.dat1 = true → VL c xs us → VL c' xs us
  | [], us, _, h => by rw [VL_nil h]; trivial
  | x :: xs, us, hx, h => by
    obtain ⟨u, us', rfl, h1, h2⟩ := VL_cons h
    simp only [List.all_cons, Bool.and_eq_true] at hx
    exact ⟨V_dat1 hok hx.1 h1, VL_dat1 hok hx.2 h2⟩

theorem V_dat {c c' : Cx} (hok : ∀ d v, c.DV d v → c'.DV d v) {x : AV} {u : Value} (hx : x.dat = true) (h : V c x u) : V c' x u := by
  cases x <;> first
    | (exact V_dat1 hok hx h)
    | (obtain ⟨vs, e, h⟩ := h; exact ⟨vs, e, VL_dat1 hok hx h⟩)

theorem VL_dat {c c' : Cx} (hok : ∀ d v, c.DV d v → c'.DV d v) : ∀ {xs : List AV} {us : List Value}, xs.all AV.dat = true → VL c xs us → VL c' xs us
  | [], us, _, h => by rw [VL_nil h]; trivial
  | x :: xs, us, hx, h => by
    obtain ⟨u, us', rfl, h1, h2⟩ := VL_cons h
    simp only [List.all_cons, Bool.and_eq_true] at hx
    exact ⟨V_dat hok hx.1 h1, VL_dat hok hx.2 h2⟩

/-- What arguments come to. -/
def ArgTo (ob : List (Nat × AV)) (v x : AV) (ws : Wr) : Prop :=
  ∀ (c c' : Cx) (u : Value), c.ob = look ob → Mono c c' → (∀ p ∈ ws, c'.ob p.1 = p.2) → V c v u → V c' x u

theorem argCell_ok {α : Type} {κ : Kd} {v : AV} {k : AV → Wr → Rd α} {σ : St} {r : α} (h : (argCell κ v k).val σ = some r) :
    ∃ x ws, (k x ws).val σ = some r ∧ Fz σ.ob ws ∧ x.dat1 = true ∧ ArgTo σ.ob v x ws := by
  unfold argCell at h
  split at h
  · rename_i τ
    cases v with
    | own id =>
      simp only [Rd.val] at h
      change (match σ.get (.m id) with | .row _ σ xs => _ | .frz σ xs => _ | _ => _ : Rd α).val σ = some r at h
      cases hob : σ.get (.m id) with
      | row e ρ xs =>
        rw [hob] at h
        simp only at h
        split at h
        · rename_i hh _
          subst hh
          refine ⟨_, _, h, fun p hp => ⟨e, ρ, xs, ?_, ?_⟩, rfl, fun c c' u hc hm hw hv => ?_⟩
          · simp only [List.mem_singleton] at hp; subst hp; exact hob
          · simp only [List.mem_singleton] at hp; subst hp; rfl
          · have h1 := hm.own id u hv
            have h2 := hw _ (List.mem_singleton.2 rfl)
            unfold OwnV at h1
            rw [h2] at h1
            exact h1
        · simp [Rd.val] at h
      | frz ρ xs =>
        rw [hob] at h
        simp only at h
        split at h
        · rename_i hh _
          subst hh
          refine ⟨_, _, h, Fz.nil _, rfl, fun c c' u hc hm hw hv => ?_⟩
          have h1 : OwnV c id u := hv
          unfold OwnV at h1
          rw [hc, show look σ.ob id = .frz ρ xs from hob] at h1
          exact hm.dv _ _ h1
        · simp [Rd.val] at h
      | _ => rw [hob] at h; simp [Rd.val] at h
    | lst ρ xs =>
      simp only at h
      split at h
      · rename_i hh _
        subst hh
        exact ⟨_, _, h, Fz.nil _, rfl, fun c c' u _ hm _ hv => hm.v _ _ hv⟩
      · simp [Rd.val] at h
    | emp => exact ⟨_, _, h, Fz.nil _, rfl, fun c c' u _ hm _ hv => by simp only [V] at hv; subst hv; exact DV.nil _ _ _ (fun _ => rfl)⟩
    | _ => simp [Rd.val] at h
  · cases v with
    | int _ _ => exact ⟨_, _, h, Fz.nil _, rfl, fun c c' u _ hm _ hv => hm.v _ _ hv⟩
    | bool _ => exact ⟨_, _, h, Fz.nil _, rfl, fun c c' u _ hm _ hv => hm.v _ _ hv⟩
    | str _ => exact ⟨_, _, h, Fz.nil _, rfl, fun c c' u _ hm _ hv => hm.v _ _ hv⟩
    | _ => simp [Rd.val] at h
  · rename_i f
    split at h
    · rename_i g
      obtain ⟨hg, h⟩ := val_bif h
      have hg := Nat.eq_of_beq_eq_true hg
      subst hg
      exact ⟨_, _, h, Fz.nil _, rfl, fun c c' u _ hm _ hv => hm.v _ _ hv⟩
    · simp [Rd.val] at h
  · split at h
    · exact ⟨_, _, h, Fz.nil _, rfl, fun c c' u _ hm _ hv => hm.v _ _ hv⟩
    · simp [Rd.val] at h
  · simp [Rd.val] at h

def ArgsTo (ob : List (Nat × AV)) (vs xs : List AV) (ws : Wr) : Prop :=
  ∀ (c c' : Cx) (us : List Value), c.ob = look ob → Mono c c' → (∀ p ∈ ws, c'.ob p.1 = p.2) → VL c vs us → VL c' xs us

theorem ArgsTo.cons {ob : List (Nat × AV)} {v x : AV} {vs xs : List AV} {ws ws' : Wr} (h : ArgTo ob v x ws) (k : ArgsTo ob vs xs ws') : ArgsTo ob (v :: vs) (x :: xs) (ws ++ ws') := by
  intro c c' us hc hm hw hv
  obtain ⟨u, us', rfl, hv1, hv2⟩ := VL_cons hv
  exact ⟨h c c' u hc hm (fun p hp => hw p (List.mem_append_left _ hp)) hv1, k c c' us' hc hm (fun p hp => hw p (List.mem_append_right _ hp)) hv2⟩

theorem argCells_ok {α : Type} {σ : St} {r : α} : ∀ {ks : List Kd} {vs : List AV} {k : List AV → Wr → Rd α}, (argCells ks vs k).val σ = some r →
    ∃ xs ws, (k xs ws).val σ = some r ∧ Fz σ.ob ws ∧ xs.all AV.dat1 = true ∧ ArgsTo σ.ob vs xs ws
  | [], [], k, h => ⟨[], [], h, Fz.nil _, rfl, fun c c' us _ _ _ hv => by rw [VL_nil hv]; trivial⟩
  | κ :: ks, v :: vs, k, h => by
    obtain ⟨x, ws, h1, h2, h3, h4⟩ := argCell_ok h
    obtain ⟨xs, ws', h5, h6, h7, h8⟩ := argCells_ok h1
    exact ⟨x :: xs, ws ++ ws', h5, h2.append h6, by simp only [List.all_cons, h3, h7, Bool.and_true], ArgsTo.cons h4 h8⟩
  | [], _ :: _, k, h => by simp [argCells, Rd.val] at h
  | _ :: _, [], k, h => by simp [argCells, Rd.val] at h

theorem argVal_ok {α : Type} {κ : Kd} {v : AV} {k : AV → Wr → Rd α} {σ : St} {r : α} (h : (argVal κ v k).val σ = some r) :
    ∃ x ws, (k x ws).val σ = some r ∧ Fz σ.ob ws ∧ x.dat = true ∧ ArgTo σ.ob v x ws := by
  unfold argVal at h
  split at h
  · cases v with
    | agg cs =>
      obtain ⟨xs, ws, h1, h2, h3, h4⟩ := argCells_ok h
      refine ⟨_, _, h1, h2, h3, fun c c' u hc hm hw hv => ?_⟩
      obtain ⟨vs, e, hv⟩ := hv
      exact ⟨vs, e, h4 c c' _ hc hm hw hv⟩
    | _ => simp [Rd.val] at h
  · obtain ⟨x, ws, h1, h2, h3, h4⟩ := argCell_ok h
    refine ⟨x, ws, h1, h2, ?_, h4⟩
    cases x <;> first | exact h3 | (simp [AV.dat1] at h3)

theorem argVals_ok {α : Type} {σ : St} {r : α} : ∀ {ks : List Kd} {vs : List AV} {k : List AV → Wr → Rd α}, (argVals ks vs k).val σ = some r →
    ∃ xs ws, (k xs ws).val σ = some r ∧ Fz σ.ob ws ∧ xs.all AV.dat = true ∧ ArgsTo σ.ob vs xs ws
  | [], [], k, h => ⟨[], [], h, Fz.nil _, rfl, fun c c' us _ _ _ hv => by rw [VL_nil hv]; trivial⟩
  | κ :: ks, v :: vs, k, h => by
    obtain ⟨x, ws, h1, h2, h3, h4⟩ := argVal_ok h
    obtain ⟨xs, ws', h5, h6, h7, h8⟩ := argVals_ok h1
    exact ⟨x :: xs, ws ++ ws', h5, h2.append h6, by simp only [List.all_cons, h3, h7, Bool.and_true], ArgsTo.cons h4 h8⟩
  | [], _ :: _, k, h => by simp [argVals, Rd.val] at h
  | _ :: _, [], k, h => by simp [argVals, Rd.val] at h

theorem val_freeAll {α : Type} {σ : St} {r : α} : ∀ {ws : Wr} {k : Rd α}, (freeAll ws k).val σ = some r → (∀ p ∈ ws, look σ.ob p.1 = .undef) ∧ k.val σ = some r
  | [], k, h => ⟨fun _ h => (by cases h), h⟩
  | (l, x) :: ws, k, h => by
    obtain ⟨h1, h2⟩ := val_rd_undef h
    obtain ⟨h3, h4⟩ := val_freeAll h2
    refine ⟨fun p hp => ?_, h4⟩
    rcases List.mem_cons.1 hp with rfl | hp
    · exact h1
    · exact h3 p hp

def Enter (P : Program) (f : FuncId) : Prop := ∃ fn, P.funcs[f]? = some fn ∧ fn.body.isNone = false ∧ (fn.name == "runtime.NumGoroutine") = false

theorem run_callFunc {P : Program} {f : FuncId} {args : Array Value} {w : World} (h : Enter P f) : (callFunc f args).run P w = .ok (.enter f args) w := by
  obtain ⟨fn, h1, h2, h3⟩ := h
  have h2' : fn.body ≠ none := by intro e; rw [e] at h2; simp at h2
  have h3' : ¬ fn.name = "runtime.NumGoroutine" := by simpa using h3
  simp [callFunc, h1, h2', h3']

theorem run_call {V : Env} {o : Oper} {a : Act} {c : Go.Call} {f : Operand} {g : FuncId} {caps : Array Value} {w : World} (ho : o.op = .call c) (hb : c.callee = .value f)
    (hf : a.eval f = .func (.func g) #[] caps) (he : Enter V.P g) : (execOp a.eval o).run V.P w = .ok (.enter g (c.args.map a.eval ++ caps)) w := by
  simp [execOp, ho, resolve, hb, hf, Deferred.ofValue, invoke, run_callFunc he]

theorem run_callB {V : Env} {o : Oper} {a : Act} {c : Go.Call} {f : Operand} {g : FuncId} {fs : Array Value} {w : World} (ho : o.op = .call c) (hb : c.callee = .value f)
    (hf : a.eval f = .func (.func g) fs #[]) (he : Enter V.P g) : (execOp a.eval o).run V.P w = .ok (.enter g (fs ++ c.args.map a.eval)) w := by
  simp [execOp, ho, resolve, hb, hf, Deferred.ofValue, invoke, run_callFunc he]

/-- A result that has no tables of others. -/
theorem V_strip {w' : World} {ob : List (Nat × AV)} {mu : Nat → Option Nat} {okA okB : Nat → Prop} {base : Nat} {r : AV} {v : Value} (hr : r.lends = false)
    (hob : ∀ p ∈ (impCell base r).2.1, look ob p.1 = p.2) (h : V (cx w' ob mu okA) (impCell base r).1 v) : V (cx w' ob mu okB) (impCell base r).1 v := by
  cases r <;> simp [AV.lends] at hr
  case int => exact h
  case bool => exact h
  case str => exact h
  case emp => exact h
  case ownv e τ xs =>
    have h1 := hob (base, .row e τ xs) (by simp [impCell])
    have h : OwnV (cx w' ob mu okA) base v := h
    show OwnV (cx w' ob mu okB) base v
    unfold OwnV at h ⊢
    rw [show (cx w' ob mu okA).ob base = .row e τ xs from h1] at h
    rw [show (cx w' ob mu okB).ob base = .row e τ xs from h1]
    exact h

theorem VL_strip {w' : World} {ob : List (Nat × AV)} {mu : Nat → Option Nat} {okA okB : Nat → Prop} : ∀ {rs : List AV} {base : Nat} {vs : List Value}, rs.any AV.lends = false →
    (∀ p ∈ (impCells base rs).2.1, look ob p.1 = p.2) → VL (cx w' ob mu okA) (impCells base rs).1 vs → VL (cx w' ob mu okB) (impCells base rs).1 vs
  | [], _, vs, _, _, h => by
    have h : VL (cx w' ob mu okA) [] vs := h
    rw [VL_nil h]; trivial
  | r :: rs, base, vs, hr, hob, h => by
    simp only [List.any_cons, Bool.or_eq_false_iff] at hr
    have h : VL (cx w' ob mu okA) ((impCell base r).1 :: (impCells (impCell base r).2.2 rs).1) vs := h
    obtain ⟨u, us, rfl, h1, h2⟩ := VL_cons h
    exact ⟨V_strip hr.1 (fun p hp => hob p (List.mem_append_left _ hp)) h1, VL_strip hr.2 (fun p hp => hob p (List.mem_append_right _ hp)) h2⟩

/-- Is a part of a result without tables of others? -/
def AV.lends1 : AV → Bool
  | .agg cs => cs.any AV.lends
  | v => v.lends

theorem V1_strip {w' : World} {ob : List (Nat × AV)} {mu : Nat → Option Nat} {okA okB : Nat → Prop} {base : Nat} {r : AV} {v : Value} (hr : r.lends1 = false)
    (hob : ∀ p ∈ (impVal base r).2.1, look ob p.1 = p.2) (h : V (cx w' ob mu okA) (impVal base r).1 v) : V (cx w' ob mu okB) (impVal base r).1 v := by
  by_cases ha : ∃ cs, r = .agg cs
  · obtain ⟨cs, rfl⟩ := ha
    obtain ⟨vs, e, h⟩ := h
    exact ⟨vs, e, VL_strip hr hob h⟩
  · have e1 : impVal base r = impCell base r := by cases r <;> first | rfl | exact (ha ⟨_, rfl⟩).elim
    have e2 : r.lends1 = r.lends := by cases r <;> first | rfl | exact (ha ⟨_, rfl⟩).elim
    rw [e1] at hob h ⊢
    exact V_strip (by rw [← e2]; exact hr) hob h

theorem VL1_strip {w' : World} {ob : List (Nat × AV)} {mu : Nat → Option Nat} {okA okB : Nat → Prop} : ∀ {rs : List AV} {base : Nat} {vs : List Value}, rs.any AV.lends1 = false →
    (∀ p ∈ (impVals base rs).2.1, look ob p.1 = p.2) → VL (cx w' ob mu okA) (impVals base rs).1 vs → VL (cx w' ob mu okB) (impVals base rs).1 vs
  | [], _, vs, _, _, h => by
    have h : VL (cx w' ob mu okA) [] vs := h
    rw [VL_nil h]; trivial
  | r :: rs, base, vs, hr, hob, h => by
    simp only [List.any_cons, Bool.or_eq_false_iff] at hr
    have h : VL (cx w' ob mu okA) ((impVal base r).1 :: (impVals (impVal base r).2.2 rs).1) vs := h
    obtain ⟨u, us, rfl, h1, h2⟩ := VL_cons h
    exact ⟨V1_strip hr.1 (fun p hp => hob p (List.mem_append_left _ hp)) h1, VL1_strip hr.2 (fun p hp => hob p (List.mem_append_right _ hp)) h2⟩

/-- Rows of plain numbers: what they are does not hang on the blocks that may be read. -/
def FlatRows (ws : Wr) : Prop := ∀ p ∈ ws, ∃ e τ, ∃ xs : List τ.den, p.2 = .row e τ xs ∧ τ.flat = true

theorem flat_cell {base : Nat} {r : AV} (hr : r.lends = false) : FlatRows (impCell base r).2.1 := by
  intro p hp
  cases r <;> simp [AV.lends] at hr <;> simp [impCell] at hp
  case ownv e τ xs => subst hp; exact ⟨e, τ, xs, rfl, hr⟩
theorem flat_cells : ∀ {rs : List AV} {base : Nat}, rs.any AV.lends = false → FlatRows (impCells base rs).2.1
  | [], _, _ => fun _ h => by cases h
  | r :: rs, base, hr => fun p hp => by
    simp only [List.any_cons, Bool.or_eq_false_iff] at hr
    rcases List.mem_append.1 hp with hp | hp
    · exact flat_cell hr.1 p hp
    · exact flat_cells hr.2 p hp
theorem flat_val {base : Nat} {r : AV} (hr : r.lends1 = false) : FlatRows (impVal base r).2.1 := by
  by_cases ha : ∃ cs, r = .agg cs
  · obtain ⟨cs, rfl⟩ := ha
    exact flat_cells hr
  · have e1 : impVal base r = impCell base r := by cases r <;> first | rfl | exact (ha ⟨_, rfl⟩).elim
    have e2 : r.lends1 = r.lends := by cases r <;> first | rfl | exact (ha ⟨_, rfl⟩).elim
    rw [e1]
    exact flat_cell (by rw [← e2]; exact hr)
theorem flat_vals : ∀ {rs : List AV} {base : Nat}, rs.any AV.lends1 = false → FlatRows (impVals base rs).2.1
  | [], _, _ => fun _ h => by cases h
  | r :: rs, base, hr => fun p hp => by
    simp only [List.any_cons, Bool.or_eq_false_iff] at hr
    rcases List.mem_append.1 hp with hp | hp
    · exact flat_val hr.1 p hp
    · exact flat_vals hr.2 p hp

theorem lendsAny_eq (r : AV) : r.lendsAny = match r with | .tup vs => vs.any AV.lends1 | v => v.lends1 := by
  cases r <;> rfl

/-- The same result, for a caller who knows nothing of its arguments' blocks. -/
theorem Res.strip {w w' : World} {okA : Nat → Prop} {r : AV} {v : Value} (h : Res w okA w' r v) (hr : r.lendsAny = false) : Res w (fun _ => False) w' r v := by
  intro base
  obtain ⟨mu, hm, hv⟩ := h base
  obtain ⟨n, hfr⟩ := impRes_fresh base r
  have hflat : FlatRows (impRes base r).2 := by
    rw [lendsAny_eq] at hr
    unfold impRes
    split
    · exact flat_vals hr
    · rename_i hnt
      have : r.lends1 = false := by cases r <;> first | exact hr | exact (hnt _ rfl).elim
      exact flat_val this
  have hin : ∀ p ∈ (impRes base r).2, look (appOb (impRes base r).2 []) p.1 = p.2 := fun p hp => look_appOb_in _ _ p hfr.2.2.2 hp
  refine ⟨mu, ⟨fun id => ?_, hm.inj, hm.base, hm.ext, fun b hb => .inr hb⟩, ?_⟩
  · have ho := hm.obj id
    unfold ObjOK at ho ⊢
    by_cases hid : ∃ p ∈ (impRes base r).2, p.1 = id
    · obtain ⟨p, hp, rfl⟩ := hid
      obtain ⟨e, τ, xs, he, hf⟩ := hflat p hp
      have hl : look (appOb (impRes base r).2 []) p.1 = .row e τ xs := (hin p hp).trans he
      rw [show (cx w' (appOb (impRes base r).2 []) mu fun b => okA b ∨ w.heap.size ≤ b).ob p.1 = .row e τ xs from hl] at ho
      rw [show (cx w' (appOb (impRes base r).2 []) mu fun b => False ∨ w.heap.size ≤ b).ob p.1 = .row e τ xs from hl]
      rcases ho with ho | ⟨b, cap, cur, h1, h2, h3, h4, h5⟩
      · exact .inl ho
      · exact .inr ⟨b, cap, cur, h1, h2, h3, h4, DVs_flats hf xs h5⟩
    · have hl : look (appOb (impRes base r).2 []) id = .undef := by
        rw [look_appOb_not _ _ _ (fun p hp e => hid ⟨p, hp, e⟩)]; rfl
      rw [show (cx w' (appOb (impRes base r).2 []) mu fun b => okA b ∨ w.heap.size ≤ b).ob id = .undef from hl] at ho
      rw [show (cx w' (appOb (impRes base r).2 []) mu fun b => False ∨ w.heap.size ≤ b).ob id = .undef from hl]
      exact ho
  · rw [lendsAny_eq] at hr
    revert hin hv
    generalize appOb (impRes base r).2 [] = ob
    unfold impRes
    split
    · intro hv hin
      obtain ⟨vs, e, hv⟩ := hv
      exact ⟨vs, e, VL1_strip hr hin hv⟩
    · rename_i hnt
      intro hv hin
      have : r.lends1 = false := by cases r <;> first | exact hr | exact (hnt _ rfl).elim
      exact V1_strip this hin hv

theorem val_call {α β : Type} {x : Option β} {k : β → Rd α} {σ : St} {r : α} (h : (Rd.call x k).val σ = some r) : ∃ y, x = some y ∧ (k y).val σ = some r := by
  cases x with
  | none => exact absurd h (by intro h; cases h)
  | some y => exact ⟨y, rfl, h⟩

mutual
theorem V_still {c c' : Cx} (hok : ∀ d v, c.DV d v → c'.DV d v) : ∀ (x : AV) (u : Value), x.still = true → V c x u → V c' x u
  | .int _ _, _, _, h => h
  | .bool _, _, _, h => h
  | .str _, _, _, h => h
  | .lst _ _, _, _, h => hok _ _ h
  | .emp, _, _, h => h
  | .cst _, _, _, h => h
  | .agg cs, _, hs, ⟨vs, e, h⟩ => ⟨vs, e, VL_stills hok cs vs.toList hs h⟩
  | .fn _ cs, _, hs, ⟨vs, e, h⟩ => ⟨vs, e, VL_stills hok cs vs.toList hs h⟩
  | .undef, _, hs, _ => by cases hs
  | .own _, _, hs, _ => by cases hs
  | .ownv _ _ _, _, hs, _ => by cases hs
  | .ptr _ _, _, hs, _ => by cases hs
  | .eptr _ _ _, _, hs, _ => by cases hs
  | .lptr _ _ _ _, _, hs, _ => by cases hs
  | .tup _, _, hs, _ => by cases hs
  | .ifc _ _, _, hs, _ => by cases hs
  | .box _, _, hs, _ => by cases hs
  | .row _ _ _, _, hs, _ => by cases hs
  | .frz _ _, _, hs, _ => by cases hs
  | .dead, _, hs, _ => by cases hs
theorem VL_stills {c c' : Cx} (hok : ∀ d v, c.DV d v → c'.DV d v) : ∀ (xs : List AV) (us : List Value), AV.stills xs = true → VL c xs us → VL c' xs us
  | [], [], _, _ => trivial
  | x :: xs, u :: us, hs, ⟨a, b⟩ => by
    unfold AV.stills at hs
    cases hx : x.still with
    | false => rw [hx] at hs; cases hs
    | true => rw [hx] at hs; exact ⟨V_still hok x u hx a, VL_stills hok xs us hs b⟩
end

/-- Functions that are walked into, and see nothing of the store. -/
def PureOK (P : Program) (pr : FuncId → Nat → List AV → Option (AV × Wr)) : Prop :=
  ∀ f fid args v ws, pr f fid args = some (v, ws) → Enter P f ∧ (ws.map (·.1)).Nodup ∧ ∀ (w : World) (ok : Nat → Prop) (vals : Array Value), VL (pcx w ok) args vals.toList →
    Calls P f vals w fun e w' => ∃ u mu, e = .returned u ∧ Mem w (cx w' (appOb ws []) mu fun b => ok b ∨ w.heap.size ≤ b) ∧ V (cx w' (appOb ws []) mu fun b => ok b ∨ w.heap.size ≤ b) v u

/-- **A call of a function that is known.** -/
theorem does_call {V : Env} {w0 w : World} {ok : Nat → Prop} {nt fid : Nat} {σ : St} {a : Act} {mu : Nat → Option Nat} {o : Oper} {v : AV} {ws : Wr} {c : Go.Call} {f : Operand}
    {next : Act → World → Prop} {Q : Exit → Act → World → Prop} (hG : ∀ f s, V.G f = some s → SpecOK V.P f s ∧ Enter V.P f) (hP : PureOK V.P V.pure)
    (ho : o.op = .call c) (hb : c.callee = .value f) (h : (evVal V fid o).val σ = some (v, ws)) (hr : R w0 ok nt ds σ a w mu)
    (hn : ∀ u w', Post w0 ok w σ.ob mu v ws u w' → next (a.put o.dst u) w') : o.wp V.P a w next Q := by
  simp only [evVal, ho, hb] at h
  have h := val_opd h
  have hf := V_operand hr f
  cases hfv : valOf σ f with
  | fn g caps =>
    rw [hfv] at h hf
    obtain ⟨cv, hf, hcv⟩ := hf
    simp only at h
    cases hg : V.G g with
    | none =>
      rw [hg] at h
      simp only at h
      have h := val_opds h
      obtain ⟨hst, h⟩ := val_bif h
      obtain ⟨⟨v1, ws1⟩, hp, h⟩ := val_call h
      obtain ⟨hfree, h⟩ := val_freeAll h
      have h2 := val_ret h
      injection h2 with h2 h3
      subst h2 h3
      obtain ⟨hent, hnd, hcall⟩ := hP _ _ _ _ _ hp
      have hargs : VL (cx w σ.ob mu ok) (c.args.toList.map (valOf σ) ++ caps) (c.args.map a.eval ++ cv).toList := by
        rw [Array.toList_append]
        exact (args_list hr).append hcv
      have hrun := run_call (w := w) ho hb hf hent
      unfold Oper.wp
      rw [hrun, Oper.upon_enter]
      have hpc : VL (pcx w (cx w σ.ob mu ok).okb) (c.args.toList.map (valOf σ) ++ caps) (c.args.map a.eval ++ cv).toList :=
        VL_stills (c := cx w σ.ob mu ok) (c' := pcx w (cx w σ.ob mu ok).okb) (fun d v hd => DV.mono (fun b hb => ⟨hb, hb.2.1, fun _ => by simp [pcx]⟩) (fun _ _ => rfl) hd) _ _ hst hargs
      refine (hcall w _ _ hpc).mono fun e w' he => ?_
      obtain ⟨u, mur, rfl, hmr, hvr⟩ := he
      obtain ⟨mu', k1, k2, k3⟩ := hr.mem.join hmr.ext hmr hnd hfree (fun b hb hbs => by
        rcases hb with hb | hb
        · exact ⟨hb.1, hb.2.2⟩
        · omega)
      exact hn _ _ ⟨mu', k2, k1, k3.v _ _ hvr⟩
    | some s =>
      rw [hg] at h
      simp only at h
      cases caps with
      | cons => simp [Rd.val] at h
      | nil =>
        simp only at h
        have hcv : cv = #[] := Array.ext' (VL_nil hcv)
        subst hcv
        obtain ⟨hspec, hent⟩ := hG g s hg
        have h := val_opds h
        obtain ⟨xs, ws1, h, hfz, hdat, hto⟩ := argVals_ok h
        obtain ⟨av, hdec, h⟩ := val_ofOpt h
        obtain ⟨b, hfn, h⟩ := val_call h
        obtain ⟨hfree, h⟩ := val_freeAll h
        have h2 := val_ret h
        injection h2 with h2 h3
        subst h2 h3
        have hargs := args_list (c := c) hr
        obtain ⟨mu1, hm1, hmono1, hws, hothers⟩ := freezeAll hfz hr.mem
        have hargs1 := hto _ _ _ rfl hmono1 hws hargs
        have hrun := run_call (w := w) ho hb hf hent
        rw [Array.append_empty] at hrun
        unfold Oper.wp
        rw [hrun]
        rw [Oper.upon_enter]
        obtain ⟨n, hfr⟩ := impRes_fresh ((fid * 1024 + o.dst.getD 1023) * 64) (s.enc b)
        cases hl : (s.enc b).lendsAny with
        | true =>
          rw [hl] at hn
          simp only [cond_true] at hn
          have hpc : VL (pcx w (cx w (appOb ws1 σ.ob) mu1 ok).okb) xs (c.args.map a.eval).toList :=
            VL_dat (c := cx w (appOb ws1 σ.ob) mu1 ok) (c' := pcx w (cx w (appOb ws1 σ.ob) mu1 ok).okb) (fun d v hd => DV.mono (fun b hb => ⟨hb, hb.2.1, fun _ => by simp [pcx]⟩) (fun _ _ => rfl) hd) hdat hargs1
          refine (hspec w _ xs _ av b hdec hfn hpc).mono fun e w' he => ?_
          obtain ⟨u, rfl, hbel, hres⟩ := he
          obtain ⟨mur, hmr, hvr⟩ := hres ((fid * 1024 + o.dst.getD 1023) * 64)
          obtain ⟨mu', k1, k2, k3⟩ := hm1.join hbel hmr hfr.2.2.2 (fun p hp => by
            have := hfree p hp
            rw [(hothers p.1 (fun q hq e => by
              obtain ⟨_, _, _, h1, _⟩ := hfz q hq
              rw [e, this] at h1
              cases h1)).1]
            exact this) (fun b hb hbs => by
              rcases hb with hb | hb
              · exact ⟨hb.1, hb.2.2⟩
              · omega)
          exact hn _ _ (Post.after hmono1 ⟨mu', k2, k1, k3.v _ _ hvr⟩)
        | false =>
          rw [hl] at hn
          simp only [cond_false, List.nil_append] at hn
          have hpc : VL (pcx w (fun _ => True)) xs (c.args.map a.eval).toList :=
            VL_dat (c := cx w (appOb ws1 σ.ob) mu1 ok) (c' := pcx w (fun _ => True)) (fun d v hd => DV.mono (fun b hb => ⟨trivial, hb.2.1, fun _ => by simp [pcx]⟩) (fun _ _ => rfl) hd) hdat hargs1
          refine (hspec w _ xs _ av b hdec hfn hpc).mono fun e w' he => ?_
          obtain ⟨u, rfl, hbel, hres⟩ := he
          obtain ⟨mur, hmr, hvr⟩ := hres.strip hl ((fid * 1024 + o.dst.getD 1023) * 64)
          obtain ⟨mu', k1, k2, k3⟩ := hr.mem.join hbel hmr hfr.2.2.2 hfree (fun b hb hbs => by
            rcases hb with hb | hb
            · exact hb.elim
            · omega)
          exact hn _ _ ⟨mu', k2, k1, k3.v _ _ hvr⟩
  | _ => rw [hfv] at h; simp [Rd.val] at h

end Go.Proofs.Mill
