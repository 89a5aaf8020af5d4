/- Code in which a goroutine alone talks to itself over a channel: steps of an ordinary call's frame. -/
import Derived.Test.YtcokmmhkajmkhaaMillAll2
import Derived.Conc.LoneCalls
import Derived.Conc.LoneSelect
import Derived.Conc.LoneSelectN
set_option linter.all false
namespace Go.Proofs.Mill
open Go.RowKit Go.Conc

/-- A piece of code of an ordinary call's frame comes to an end of which Q holds. -/
def Ends (P : Program) (c : Code) (Q : Exit → Act → World → Prop) (a : Act) (w : World) : Prop :=
  ∀ (b : Frame) (k : List Item) (cs : List Frame), b.kind = .normal → ∃ e a' w', Q e a' w' ∧ Arrives P (lone (b.at a (.code c :: k)) cs w) b k cs e a' w'

section
variable {P : Program} {Q : Exit → Act → World → Prop} {a : Act} {w : World}

theorem Ends.of_wp {c : Code} (h : c.wp P Q a w) : Ends P c Q a w := fun b k cs _ => h b k cs

theorem Ends.seq {x y : Code} (h : Ends P x (fun e a' w' => match e with | .normal => Ends P y Q a' w' | e => Q e a' w') a w) : Ends P (.seq x y) Q a w := by
  intro b k cs hb
  obtain ⟨e, a₁, w₁, hq, ha⟩ := h b (.code y :: k) cs hb
  by_cases he : e = .normal
  · subst he
    obtain ⟨e2, a2, w2, q2, r2⟩ := hq b k cs hb
    exact ⟨e2, a2, w2, q2, .of_steps (.head step_seq ha) r2⟩
  · have hq' : Q e a₁ w₁ := by cases e <;> first | exact hq | exact (he rfl).elim
    exact ⟨e, a₁, w₁, hq', .of_steps (.one step_seq) (.pass (x := .code y) rfl (fun _ _ => .inl he) ha)⟩

theorem Ends.cond {c : Operand} {x y : Code} {t : Bool} (hc : a.eval c = .bool t) (h : Ends P (if t then x else y) Q a w) : Ends P (.cond c x y) Q a w := by
  intro b k cs hb
  obtain ⟨e, a', w', hq, ha⟩ := h b k cs hb
  exact ⟨e, a', w', hq, .of_steps (.one (step_cond hc)) ha⟩

theorem Ends.imp {c : Code} {Q' : Exit → Act → World → Prop} (h : Ends P c Q a w) (hq : ∀ e a w, Q e a w → Q' e a w) : Ends P c Q' a w := by
  intro b k cs hb
  obtain ⟨e, a', w', q, r⟩ := h b k cs hb
  exact ⟨e, a', w', hq _ _ _ q, r⟩

/-- A region of which some operations are known step by step, the rest by what the kit says of it. -/
theorem Ends.region {id : Nat} {ops : Array Oper} {l : List Nat} {a' : Act} {w' : World}
    (h : ∀ (b : Frame) (k : List Item) (cs : List Frame), b.kind = .normal → Steps P (lone (b.at a (.inRegion ops (List.range ops.size) :: k)) cs w) (lone (b.at a' (.inRegion ops l :: k)) cs w'))
    (hq : wpOps P ops Q l a' w') : Ends P (.region id ops false) Q a w := by
  intro b k cs hb
  obtain ⟨e, a2, w2, q, r⟩ := wp_ops l a' w' hq b k cs
  exact ⟨e, a2, w2, q, .of_steps (.head step_region (h b k cs hb)) r⟩

/-- A function whose body comes to such an end. -/
theorem calls_of_ends {f : FuncId} {fn : Func} {c : Code} {args : Array Value} {R : Ending → World → Prop} (hf : P.funcs[f]? = some fn) (hb : fn.body = some c)
    (h : Ends P c (bodyPost P fn R) { tmps := args ++ Array.replicate (fn.ntmps - args.size) undef, defers := [] } w) (hno : ∀ w', ¬ R .outgrown w') : Calls P f args w R := by
  refine calls_of_loneTo (fun cs => ?_) hno
  obtain ⟨e, a', w', hq, ha⟩ := h (base f) [] cs rfl
  rw [← enter_at args hf hb] at ha
  cases e with
  | normal =>
    obtain ⟨hd, v, hr, hR⟩ := hq
    exact ⟨_, w', Steps.trans ha (.one step_end), .returned v, _, rfl, hR, rfl, rfl, hd, rfl, fn, hf, hr⟩
  | ret =>
    obtain ⟨hd, v, hr, hR⟩ := hq
    obtain ⟨todo, hs⟩ := ha
    exact ⟨_, w', hs, .returned v, _, rfl, hR, rfl, rfl, hd, rfl, fn, hf, hr⟩
  | panic chain =>
    obtain ⟨hd, hR⟩ := hq
    obtain ⟨todo, hs⟩ := ha
    exact ⟨_, w', hs, .panicked chain, _, rfl, hR, rfl, rfl, hd, fn, hf⟩
  | exit id => exact hq.elim
  | goto l => exact hq.elim
  | outgrown => exact (hno _ hq).elim

section
variable {b : Frame} {k : List Item} {cs : List Frame} {ops : Array Oper} {i : Nat} {rest : List Nat} {o : Oper}

/-- An operation that yields a value. -/
theorem step_value {v : Value} {w' : World} (ho : ops[i]? = some o) (hg : o.guard = none) (hr : (execOp a.eval o).run P w = .ok (.value v) w') :
    step P (lone (b.at a (.inRegion ops (i :: rest) :: k)) cs w) = .next (lone (b.at (a.put o.dst v) (.inRegion ops rest :: k)) cs w') := by
  have hw : Region.wanted o (yielded ops a.tmps) = true := by simp [Region.wanted, hg]
  have hf := Frame.finish_at b a ops i rest k v
  rw [ho] at hf
  refine step_lone_go ?_
  rw [stepG_op ho hw]
  simp [stepG.apply, hr, hf]

/-- A send into a buffer that has room. -/
theorem step_send {x y : Operand} {c cap s r : Nat} {buf : Array Value} {tm : Bool} (hb : b.kind = .normal) (ho : ops[i]? = some o) (hg : o.guard = none) (hop : o.op = .send x y)
    (hx : a.eval x = .chan (some c)) (hc : w.heap[c]? = some (.chan cap buf false s r tm)) (hroom : buf.size < cap) :
    step P (lone (b.at a (.inRegion ops (i :: rest) :: k)) cs w) = .next (lone (b.at (a.put o.dst undef) (.inRegion ops rest :: k)) cs (w.setChan c cap (buf.push (a.eval y)) false (s + 1) r tm)) := by
  have hw : Region.wanted o (yielded ops a.tmps) = true := by simp [Region.wanted, hg]
  have hf := Frame.finish_at b a ops i rest k undef
  rw [ho] at hf
  have hrun : (execOp a.eval o).run P w = .ok (.comm #[scase c (a.eval y) (.tuple #[])] true .send) w := by simp [execOp, hop, scase, hx]
  rw [lone_eq_solo, step_lone_send_room (stepG_comm ho hw (by rw [hb]; decide) hrun) hc hroom, hf]
  rfl

/-- A select of one receive with a default: the buffer holds something. -/
theorem step_select_buf {x : Operand} {e : TypeId} {c cap s r : Nat} {buf : Array Value} {closed tm : Bool} {z : Value} (hb : b.kind = .normal) (ho : ops[i]? = some o) (hg : o.guard = none)
    (hop : o.op = .select #[{ chan := x, send := none, elem := e }] false) (hx : a.eval x = .chan (some c)) (hz : (zeroValue e).run P w = .ok z w) (hc : w.heap[c]? = some (.chan cap buf closed s r tm)) (hsome : 0 < buf.size) :
    step P (lone (b.at a (.inRegion ops (i :: rest) :: k)) cs w) =
      .next (lone (b.at (a.put o.dst (.tuple #[goInt 0, .bool true, buf.getD 0 undef])) (.inRegion ops rest :: k)) cs (w.setChan c cap (buf.extract 1 buf.size) closed s (r + 1) tm)) := by
  have hw : Region.wanted o (yielded ops a.tmps) = true := by simp [Region.wanted, hg]
  have hf := Frame.finish_at b a ops i rest k (.tuple #[goInt 0, .bool true, buf.getD 0 undef])
  rw [ho] at hf
  have hrun : (execOp a.eval o).run P w = .ok (.comm #[rcase c z] false .select) w := by simp [execOp, hop, rcase, hx, hz]
  rw [lone_eq_solo, step_lone_select_recv_buf (stepG_comm ho hw (by rw [hb]; decide) hrun) hc hsome, hf]
  rfl

/-- The same, nothing lying there: the default. -/
theorem step_select_default {x : Operand} {e : TypeId} {c cap s r : Nat} {tm : Bool} {z : Value} (hb : b.kind = .normal) (ho : ops[i]? = some o) (hg : o.guard = none)
    (hop : o.op = .select #[{ chan := x, send := none, elem := e }] false) (hx : a.eval x = .chan (some c)) (hz : (zeroValue e).run P w = .ok z w) (hc : w.heap[c]? = some (.chan cap #[] false s r tm)) :
    step P (lone (b.at a (.inRegion ops (i :: rest) :: k)) cs w) =
      .next (lone (b.at (a.put o.dst (.tuple #[goInt (-1), .bool false, z])) (.inRegion ops rest :: k)) cs w) := by
  have hw : Region.wanted o (yielded ops a.tmps) = true := by simp [Region.wanted, hg]
  have hf := Frame.finish_at b a ops i rest k (.tuple #[goInt (-1), .bool false, z])
  rw [ho] at hf
  have hrun : (execOp a.eval o).run P w = .ok (.comm #[rcase c z] false .select) w := by simp [execOp, hop, rcase, hx, hz]
  rw [lone_eq_solo, step_lone_select_default (stepG_comm ho hw (by rw [hb]; decide) hrun) hc, hf]
  rfl
end
end

def notCall (o : Oper) : Bool := match o.op with | .call _ => false | _ => true

theorem evVal_does {ds : List Deferred} {V : Env} {w0 w : World} {ok : Nat → Prop} {nt fid : Nat} {σ : St} {a : Act} {mu : Nat → Option Nat} {o : Oper} {v : AV} {ws : Wr} (hc : notCall o = true)
    (h : (evVal V fid o).val σ = some (v, ws)) (hr : R w0 ok nt ds σ a w mu) : Does V.P w0 ok o a w σ.ob mu v ws := by
  cases ho : o.op with
  | move x => exact does_move (.inl ho) h hr
  | assign x => exact does_move (.inr ho) h hr
  | pick c x y => exact does_pick ho h hr
  | alloc e => exact does_alloc ho h hr
  | box e x => exact does_box ho h hr
  | build t ps => exact does_build ho h hr
  | buildSlice t n ps => exact does_buildSlice ho h hr
  | load t x => exact does_load ho h hr
  | store t x y => exact does_store ho h hr
  | binOp op t x y s => exact does_binOp ho h hr
  | nilCheck x => exact does_nilCheck ho h hr
  | typeAssert x s t b => exact does_typeAssert ho h hr
  | unOp op t x => exact does_unOp ho h hr
  | convert s t x => exact does_convert ho h hr
  | fieldAddr s x f => exact does_fieldAddr ho h hr
  | field s x f => exact does_field ho h hr
  | indexAddr t x y => exact does_indexAddr ho h hr
  | index t x y => exact does_index ho h hr
  | slice t x lo hi mx =>
    cases mx with
    | none => exact does_slice ho h hr
    | some _ => simp [evVal, ho, Rd.val] at h
  | extract x i => exact does_extract ho h hr
  | makeFunc fn first caps => exact does_makeFunc ho h hr
  | makeInterface t x => exact does_makeInterface ho h hr
  | makeSlice t x y => exact does_makeSlice ho h hr
  | call c => simp [notCall, ho] at hc
  | _ => simp [evVal, ho, Rd.val] at h

/-- An operation, as a step. -/
theorem step_does {P : Program} {w0 w : World} {ok : Nat → Prop} {o : Oper} {a : Act} {ob : List (Nat × AV)} {mu : Nat → Option Nat} {v : AV} {ws : Wr} {ops : Array Oper} {i : Nat}
    (h : Does P w0 ok o a w ob mu v ws) (ho : ops[i]? = some o) (hg : o.guard = none) :
    ∃ u w', Post w0 ok w ob mu v ws u w' ∧ ∀ (b : Frame) (k : List Item) (cs : List Frame) (rest : List Nat),
      step P (lone (b.at a (.inRegion ops (i :: rest) :: k)) cs w) = .next (lone (b.at (a.put o.dst u) (.inRegion ops rest :: k)) cs w') := by
  obtain ⟨u, w', h, hp⟩ := h
  rcases h with h | ⟨h, rfl⟩
  · exact ⟨u, w', hp, fun b k cs rest => step_value ho hg h⟩
  · refine ⟨undef, w', hp, fun b k cs rest => ?_⟩
    have hw : Region.wanted o (yielded ops a.tmps) = true := by simp [Region.wanted, hg]
    have hf := Frame.finish_at b a ops i rest k undef
    rw [ho] at hf
    refine step_lone_go ?_
    rw [stepG_op ho hw]
    simp [stepG.apply, h, hf]

/-- Some operations of a region, in the order in which they stand. -/
def runOps (V : Env) (fid nt : Nat) (ops : Array Oper) : List Nat → St → Option St
  | [], σ => some σ
  | i :: r, σ => match ops[i]? with
    | some o => bif o.guard.isNone && notCall o && dstOk nt o.dst then (match (evVal V fid o).val σ with
        | some p => runOps V fid nt ops r (σ.put o.dst p.1 p.2)
        | none => none) else none
    | none => none

theorem runOps_ok {ds : List Deferred} {V : Env} {J : Cx → Prop} {w0 : World} {ok : Nat → Prop} {nt fid : Nat} {ops : Array Oper} (hJ : Stays J) : ∀ {l : List Nat} {σ σ' : St} {a : Act} {w : World},
    Holds J w0 ok nt ds σ a w → runOps V fid nt ops l σ = some σ' → ∃ a' w', Holds J w0 ok nt ds σ' a' w' ∧ ∀ (b : Frame) (k : List Item) (cs : List Frame) (rest : List Nat),
      Steps V.P (lone (b.at a (.inRegion ops (l ++ rest) :: k)) cs w) (lone (b.at a' (.inRegion ops rest :: k)) cs w')
  | [], σ, σ', a, w, hh, h => by
    cases h
    exact ⟨a, w, hh, fun b k cs rest => Steps.refl _ _⟩
  | i :: r, σ, σ', a, w, hh, h => by
    unfold runOps at h
    split at h
    case h_2 => cases h
    rename_i o ho
    cases hc : (o.guard.isNone && notCall o && dstOk nt o.dst) with
    | false => rw [hc] at h; cases h
    | true =>
      rw [hc] at h
      simp only [cond_true] at h
      simp only [Bool.and_eq_true] at hc
      split at h
      case h_2 => cases h
      rename_i p hp
      obtain ⟨mu, hr, hj⟩ := hh
      have hg : o.guard = none := by simpa using hc.1.1
      obtain ⟨u, w', hpost, hstep⟩ := step_does (evVal_does hc.1.2 (show (evVal V fid o).val σ = some (p.1, p.2) from hp) hr) ho hg
      obtain ⟨a', w2, hh', hsteps⟩ := runOps_ok hJ (Holds.put hJ hr hj hc.2 hpost) h
      exact ⟨a', w2, hh', fun b k cs rest => .head (hstep b k cs (r ++ rest)) (hsteps b k cs rest)⟩
end Go.Proofs.Mill
