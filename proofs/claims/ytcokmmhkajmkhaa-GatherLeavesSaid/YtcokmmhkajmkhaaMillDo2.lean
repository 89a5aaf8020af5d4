/- What each operation does: numbers, addresses, parts. -/
import Derived.Test.YtcokmmhkajmkhaaMillDo
set_option linter.all false
namespace Go.Proofs.Mill
variable {ds : List Deferred}
open Go.RowKit

section
variable {V : Env} {w0 w : World} {ok : Nat → Prop} {nt fid : Nat} {σ : St} {a : Act} {mu : Nat → Option Nat} {o : Oper} {v : AV} {ws : Wr}

theorem run_eqGuard_one (op : BinOp) (t : TypeId) (x y : Operand) (a b : Value) (P : Program) (w : World) (ha : ∀ cs, a ≠ .agg cs) (hn : a ≠ .nilIface) :
    (eqGuard op t x y a b).run P w = .ok () w := by
  cases op <;> simp only [eqGuard] <;> cases a <;> first | exact (ha _ rfl).elim | exact (hn rfl).elim | simp

theorem V_int (c : Cx) (k : IntKind) (n : Int) : Mill.V c (.int k n) (.int k n) := by simp only [Mill.V]
theorem V_bool (c : Cx) (b : Bool) : Mill.V c (.bool b) (.bool b) := by simp only [Mill.V]
theorem V_str (c : Cx) (s : ByteArray) : Mill.V c (.str s) (.string s) := by simp only [Mill.V]

theorem arith_ok {op : BinOp} {k : IntKind} {m n : Int} {P : Program} {w : World} {t : TypeId}
    (h : (arith op k m n fun v => (.ret (v, []) : Rd (AV × Wr))).val σ = some (v, ws)) :
    ws = [] ∧ ∃ u, (binOp op t (.int k m) (.int k n)).run P w = .ok u w ∧ ∀ c : Cx, Mill.V c v u := by
  cases op <;> simp only [arith, wrapA_eq] at h <;> try (simp [Rd.val] at h; done)
  case quo =>
    obtain ⟨h0, h⟩ := val_ask' h
    have h2 := val_ret h
    injection h2 with h2 h3
    subst h2 h3
    have h0 : ¬ n = 0 := by simpa using h0
    exact ⟨rfl, .int k (k.wrap (m.tdiv n)), by simp [binOp, Op.intDiv, h0], fun _ => V_int _ _ _⟩
  case rem =>
    obtain ⟨h0, h⟩ := val_ask' h
    have h2 := val_ret h
    injection h2 with h2 h3
    subst h2 h3
    have h0 : ¬ n = 0 := by simpa using h0
    exact ⟨rfl, .int k (m.tmod n), by simp [binOp, Op.intDiv, h0], fun _ => V_int _ _ _⟩
  case shl =>
    obtain ⟨h0, h⟩ := val_ask' h
    have h2 := val_ret h
    injection h2 with h2 h3
    subst h2 h3
    have h0 : ¬ n < 0 := by simpa using h0
    exact ⟨rfl, .int k (k.wrap (m * 2 ^ min n.toNat k.bits)), by simp [binOp, Op.shift, h0], fun _ => V_int _ _ _⟩
  case shr =>
    obtain ⟨h0, h⟩ := val_ask' h
    have h2 := val_ret h
    injection h2 with h2 h3
    subst h2 h3
    have h0 : ¬ n < 0 := by simpa using h0
    exact ⟨rfl, .int k (m.fdiv (2 ^ min n.toNat k.bits)), by simp [binOp, Op.shift, h0], fun _ => V_int _ _ _⟩
  all_goals
    have h2 := val_ret h
    injection h2 with h2 h3
    subst h2 h3
  case add => exact ⟨rfl, _, by simp [binOp, Op.intArith], fun _ => V_int _ _ _⟩
  case sub => exact ⟨rfl, _, by simp [binOp, Op.intArith], fun _ => V_int _ _ _⟩
  case mul => exact ⟨rfl, _, by simp [binOp, Op.intArith], fun _ => V_int _ _ _⟩
  case and => exact ⟨rfl, .int k (k.wrap (BitVec.ofInt k.bits m &&& BitVec.ofInt k.bits n).toNat), by simp [binOp, Op.intBits], fun _ => V_int _ _ _⟩
  case or => exact ⟨rfl, .int k (k.wrap (BitVec.ofInt k.bits m ||| BitVec.ofInt k.bits n).toNat), by simp [binOp, Op.intBits], fun _ => V_int _ _ _⟩
  case xor => exact ⟨rfl, .int k (k.wrap (BitVec.ofInt k.bits m ^^^ BitVec.ofInt k.bits n).toNat), by simp [binOp, Op.intBits], fun _ => V_int _ _ _⟩
  case eql => exact ⟨rfl, .bool (m == n), by simp [binOp, Op.intCmp], fun _ => V_bool _ _⟩
  case neq => exact ⟨rfl, .bool (m != n), by simp [binOp, Op.intCmp], fun _ => V_bool _ _⟩
  case lss => exact ⟨rfl, .bool (decide (m < n)), by simp [binOp, Op.intCmp], fun _ => V_bool _ _⟩
  case leq => exact ⟨rfl, .bool (decide (m ≤ n)), by simp [binOp, Op.intCmp], fun _ => V_bool _ _⟩
  case gtr => exact ⟨rfl, .bool (decide (m > n)), by simp [binOp, Op.intCmp], fun _ => V_bool _ _⟩
  case geq => exact ⟨rfl, .bool (decide (m ≥ n)), by simp [binOp, Op.intCmp], fun _ => V_bool _ _⟩

theorem run_equalIn_fn (d : Nat) (t : TypeId) (P : Program) (w : World) (f : Fn) (a b : Array Value) {p r : Array TypeId} {va : Bool} (hu : P.underlying t = some (.func p r va)) :
    (Op.equalIn (d + 1) t (.func f a b) .nilFunc).run P w = .ok false w := by
  simp [Op.equalIn, run_underlying hu]
theorem run_equalIn_nf (d : Nat) (t : TypeId) (P : Program) (w : World) {p r : Array TypeId} {va : Bool} (hu : P.underlying t = some (.func p r va)) :
    (Op.equalIn (d + 1) t .nilFunc .nilFunc).run P w = .ok true w := by
  simp [Op.equalIn, run_underlying hu]
theorem run_eql_fn (t : TypeId) (P : Program) (w : World) (f : Fn) (a b : Array Value) {p r : Array TypeId} {va : Bool} (hu : P.underlying t = some (.func p r va)) :
    (binOp .eql t (.func f a b) .nilFunc).run P w = .ok (.bool false) w := by
  have := run_equalIn_fn 9999 t P w f a b hu
  simp only [binOp]
  simp [Op.equal, Op.maxDepth, this]
theorem run_neq_fn (t : TypeId) (P : Program) (w : World) (f : Fn) (a b : Array Value) {p r : Array TypeId} {va : Bool} (hu : P.underlying t = some (.func p r va)) :
    (binOp .neq t (.func f a b) .nilFunc).run P w = .ok (.bool true) w := by
  have := run_equalIn_fn 9999 t P w f a b hu
  simp only [binOp]
  simp [Op.equal, Op.maxDepth, this]
theorem run_eql_nf (t : TypeId) (P : Program) (w : World) {p r : Array TypeId} {va : Bool} (hu : P.underlying t = some (.func p r va)) :
    (binOp .eql t .nilFunc .nilFunc).run P w = .ok (.bool true) w := by
  have := run_equalIn_nf 9999 t P w hu
  simp only [binOp]
  simp [Op.equal, Op.maxDepth, this]
theorem run_neq_nf (t : TypeId) (P : Program) (w : World) {p r : Array TypeId} {va : Bool} (hu : P.underlying t = some (.func p r va)) :
    (binOp .neq t .nilFunc .nilFunc).run P w = .ok (.bool false) w := by
  have := run_equalIn_nf 9999 t P w hu
  simp only [binOp]
  simp [Op.equal, Op.maxDepth, this]

theorem run_equalIn_slice (d : Nat) (t : TypeId) (P : Program) (w : World) {e : TypeId} (A : Option Addr) (m n : Nat) (hu : P.underlying t = some (.slice e)) :
    (Op.equalIn (d + 1) t (.slice A m n) (.slice none 0 0)).run P w = .ok A.isNone w := by
  cases A <;> simp [Op.equalIn, run_underlying hu]

theorem run_equalIn_iface (d : Nat) (t : TypeId) (P : Program) (w : World) {ms : Array (String × TypeId)} (u : TypeId) (x : Value) (hu : P.underlying t = some (.interface ms)) :
    (Op.equalIn (d + 1) t (.iface u x) .nilIface).run P w = .ok false w := by
  simp [Op.equalIn, run_underlying hu]

theorem run_equalIn_iface2 (d : Nat) (t : TypeId) (P : Program) (w : World) {ms : Array (String × TypeId)} (hu : P.underlying t = some (.interface ms)) :
    (Op.equalIn (d + 1) t .nilIface .nilIface).run P w = .ok true w := by
  simp [Op.equalIn, run_underlying hu]

/-- Two comparisons out of what is alike. -/
theorem run_eqs (t : TypeId) (P : Program) (w : World) (x y : Value) (r : Bool) (h : (Op.equalIn (9999 + 1) t x y).run P w = .ok r w)
    (h1 : ∀ op, (binOp op t x y) = match op with | .eql => (do pure (.bool (← Op.equal t x y))) | .neq => (do pure (.bool (!(← Op.equal t x y)))) | _ => binOp op t x y) :
    (binOp .eql t x y).run P w = .ok (.bool r) w ∧ (binOp .neq t x y).run P w = .ok (.bool !r) w := by
  rw [h1 .eql, h1 .neq]
  simp only
  constructor <;> simp [Op.equal, Op.maxDepth, h]

theorem nilCmp_ok {op : BinOp} {t : TypeId} {x y : Operand} {a b : AV} {av bv : Value} {r : Bool} {c : Cx} (h : nilCmp V op t (isConst y) a b = some r) (ha : Mill.V c a av) (hb : Mill.V c b bv) (w : World) :
    (eqGuard op t x y av bv).run V.P w = .ok () w ∧ (binOp op t av bv).run V.P w = .ok (.bool r) w := by
  have two : ∀ q : Bool, cmpOf op q = some r → ((binOp .eql t av bv).run V.P w = .ok (.bool q) w ∧ (binOp .neq t av bv).run V.P w = .ok (.bool !q) w) →
      (binOp op t av bv).run V.P w = .ok (.bool r) w := by
    intro q hq h2
    cases op <;> first
      | (cases hq; done)
      | (obtain rfl := Option.some.inj hq; first | exact h2.1 | exact h2.2)
  unfold nilCmp at h
  generalize hu : V.P.underlying t = T at h
  split at h
  · obtain ⟨hd, hne⟩ := ha
    simp only [Mill.V] at hb
    subst hb
    obtain ⟨A, m, n, rfl, hA⟩ : ∃ A m n, av = .slice (some A) m n ∧ True := by
      unfold Cx.DV at hd
      generalize he : (D.lst _ _) = dd at hd
      cases hd with
      | int => cases he
      | bool => cases he
      | str => cases he
      | nil sz A n hA =>
        cases A with
        | none => rw [hA rfl] at hne; exact (hne rfl).elim
        | some A => exact ⟨A, 0, n, rfl, trivial⟩
      | lst => exact ⟨_, _, _, rfl, trivial⟩
    exact ⟨run_eqGuard_one _ t x y _ _ _ _ (by simp) (by simp), two false h (run_eqs t _ w _ _ _ (run_equalIn_slice 9999 t _ w _ _ _ hu) (fun op => by cases op <;> rfl))⟩
  · simp only [Mill.V] at ha hb
    subst ha hb
    exact ⟨run_eqGuard_one _ t x y _ _ _ _ (by simp) (by simp), two true h (run_eqs t _ w _ _ _ (run_equalIn_slice 9999 t _ w _ _ _ hu) (fun op => by cases op <;> rfl))⟩
  · obtain ⟨u, rfl, _⟩ := ha
    simp only [Mill.V] at hb
    subst hb
    exact ⟨run_eqGuard_one _ t x y _ _ _ _ (by simp) (by simp), two false h (run_eqs t _ w _ _ _ (run_equalIn_iface 9999 t _ w _ _ hu) (fun op => by cases op <;> rfl))⟩
  · simp only [Mill.V] at ha hb
    subst ha hb
    cases hy : isConst y with
    | false => rw [hy] at h; cases h
    | true =>
      rw [hy] at h
      simp only [cond_true] at h
      cases y <;> try (cases hy; done)
      exact ⟨by cases op <;> simp [eqGuard], two true h (run_eqs t _ w _ _ _ (run_equalIn_iface2 9999 t _ w hu) (fun op => by cases op <;> rfl))⟩
  · obtain ⟨vs, rfl, _⟩ := ha
    simp only [Mill.V] at hb
    subst hb
    exact ⟨run_eqGuard_one _ t x y _ _ _ _ (by simp) (by simp), two false h ⟨run_eql_fn _ _ _ _ _ _ hu, run_neq_fn _ _ _ _ _ _ hu⟩⟩
  · cases h

theorem does_binOp {op : BinOp} {t s : TypeId} {x y : Operand} (ho : o.op = .binOp op t x y s) (h : (evVal V fid o).val σ = some (v, ws)) (hr : R w0 ok nt ds σ a w mu) :
    Does V.P w0 ok o a w σ.ob mu v ws := by
  simp only [evVal, ho, wrapA_eq] at h
  have h := val_opd (val_opd h)
  have hx := V_operand hr x
  have hy := V_operand hr y
  have fin : ∀ u, ws = [] → (eqGuard op t x y (a.eval x) (a.eval y)).run V.P w = .ok () w → (binOp op t (a.eval x) (a.eval y)).run V.P w = .ok u w → Mill.V (cx w σ.ob mu ok) v u → Does V.P w0 ok o a w σ.ob mu v ws := by
    intro u hw h1 h2 h3
    subst hw
    exact .mk (by simp only [execOp, ho, Sem.run_bind, h1, h2, Result.andThen_ok]; rfl) (Post.pure hr.mem h3)
  cases hnc : nilCmp V op t (isConst y) (valOf σ x) (valOf σ y) with
  | some r =>
    rw [hnc] at h
    have h2 := val_ret h
    injection h2 with h2 h3
    subst h2 h3
    obtain ⟨k1, k2⟩ := nilCmp_ok (x := x) hnc hx hy w
    exact fin (.bool r) rfl k1 k2 (V_bool _ _)
  | none =>
  rw [hnc] at h
  simp only at h
  split at h
  · rename_i k m k' n e1 e2
    rw [e1] at hx; rw [e2] at hy
    simp only [Mill.V] at hx hy
    cases hk : decide (k = k') with
    | true =>
      have hk' := of_decide_eq_true hk
      subst hk'
      rw [hk] at h
      obtain ⟨hw, u, hu, hv⟩ := arith_ok (P := V.P) (w := w) (t := t) h
      exact fin u hw (by rw [hx]; exact run_eqGuard_one op t x y _ _ _ _ (by simp) (by simp)) (by rw [hx, hy]; exact hu) (hv _)
    | false =>
      rw [hk] at h
      simp only [cond_false] at h
      split at h
      · obtain ⟨h0, h⟩ := val_ask' h
        have h2 := val_ret h
        injection h2 with h2 h3
        subst h2 h3
        have h0 : ¬ n < 0 := by simpa using h0
        exact fin (.int k (k.wrap (m * 2 ^ min n.toNat k.bits))) rfl (by rw [hx]; exact run_eqGuard_one _ t x y _ _ _ _ (by simp) (by simp)) (by rw [hx, hy]; simp [binOp, Op.shift, h0]) (V_int _ _ _)
      · obtain ⟨h0, h⟩ := val_ask' h
        have h2 := val_ret h
        injection h2 with h2 h3
        subst h2 h3
        have h0 : ¬ n < 0 := by simpa using h0
        exact fin (.int k (m.fdiv (2 ^ min n.toNat k.bits))) rfl (by rw [hx]; exact run_eqGuard_one _ t x y _ _ _ _ (by simp) (by simp)) (by rw [hx, hy]; simp [binOp, Op.shift, h0]) (V_int _ _ _)
      · simp [Rd.val] at h
  · rename_i m n e1 e2
    rw [e1] at hx; rw [e2] at hy
    simp only [Mill.V] at hx hy
    have hq : ∀ r, eqA V 4 t (.bool m) (.bool n) = some r → (Op.equalIn 10000 t (.bool m) (.bool n)).run V.P w = .ok r w := fun r he =>
      eqA_ok (c := cx w σ.ob mu ok) 9996 w he (V_bool _ _) (V_bool _ _)
    split at h
    · obtain ⟨r, he, h⟩ := val_ofOpt h
      have h2 := val_ret h
      injection h2 with h2 h3
      subst h2 h3
      exact fin (.bool r) rfl (by rw [hx]; exact run_eqGuard_one _ t x y _ _ _ _ (by simp) (by simp)) (by rw [hx, hy]; simp [binOp, Op.equal, Op.maxDepth, hq r he]) (V_bool _ _)
    · obtain ⟨r, he, h⟩ := val_ofOpt h
      have h2 := val_ret h
      injection h2 with h2 h3
      subst h2 h3
      exact fin (.bool !r) rfl (by rw [hx]; exact run_eqGuard_one _ t x y _ _ _ _ (by simp) (by simp)) (by rw [hx, hy]; simp [binOp, Op.equal, Op.maxDepth, hq r he]) (V_bool _ _)
    · simp [Rd.val] at h
  · rename_i m n e1 e2
    rw [e1] at hx; rw [e2] at hy
    simp only [Mill.V] at hx hy
    split at h
    · have h2 := val_ret h
      injection h2 with h2 h3
      subst h2 h3
      exact fin (.bool (m.toList == n.toList)) rfl (by rw [hx]; exact run_eqGuard_one _ t x y _ _ _ _ (by simp) (by simp)) (by rw [hx, hy]; simp [binOp, Op.stringOp]) (V_bool _ _)
    · have h2 := val_ret h
      injection h2 with h2 h3
      subst h2 h3
      exact fin (.bool (!(m.toList == n.toList))) rfl (by rw [hx]; exact run_eqGuard_one _ t x y _ _ _ _ (by simp) (by simp)) (by rw [hx, hy]; simp [binOp, Op.stringOp]) (V_bool _ _)
    · obtain ⟨h0, h⟩ := val_ask h
      have h2 := val_ret h
      injection h2 with h2 h3
      subst h2 h3
      have h0 := few_ok h0
      unfold maxElems at h0
      have h1 : ¬ ((m.size : Int) + n.size > IntKind.i64.max) := by simp [IntKind.max, IntKind.signed, IntKind.bits]; omega
      exact fin (.string (m ++ n)) rfl (by rw [hx]; exact run_eqGuard_one _ t x y _ _ _ _ (by simp) (by simp)) (by rw [hx, hy]; simp [binOp, Op.stringOp]; simpa using h1) (V_str _ _)
    · simp [Rd.val] at h
  · rename_i cs ds e1 e2
    rw [e1] at hx; rw [e2] at hy
    obtain ⟨xa, hx1, hx2⟩ := hx
    obtain ⟨ya, hy1, hy2⟩ := hy
    have hvx : Mill.V (cx w σ.ob mu ok) (.agg cs) (.agg xa) := ⟨xa, rfl, hx2⟩
    have hvy : Mill.V (cx w σ.ob mu ok) (.agg ds) (.agg ya) := ⟨ya, rfl, hy2⟩
    split at h
    · cases hg : V.P.eqGuardType V.P.depth t with
      | true => rw [hg] at h; simp [Rd.val] at h
      | false =>
        rw [hg] at h
        simp only [cond_false] at h
        obtain ⟨r, he, h⟩ := val_ofOpt h
        have h2 := val_ret h
        injection h2 with h2 h3
        subst h2 h3
        have heq := eqA_ok 9996 w he hvx hvy
        exact fin (.bool r) rfl (by rw [hx1, hy1]; exact run_eqGuard_agg w _ t x y xa ya hg) (by rw [hx1, hy1, run_eql_struct, heq]; rfl) (V_bool _ _)
    · cases hg : V.P.eqGuardType V.P.depth t with
      | true => rw [hg] at h; simp [Rd.val] at h
      | false =>
        rw [hg] at h
        simp only [cond_false] at h
        obtain ⟨r, he, h⟩ := val_ofOpt h
        have h2 := val_ret h
        injection h2 with h2 h3
        subst h2 h3
        have heq := eqA_ok 9996 w he hvx hvy
        exact fin (.bool !r) rfl (by rw [hx1, hy1]; exact run_eqGuard_agg w _ t x y xa ya hg) (by rw [hx1, hy1, run_neq_struct, heq]; rfl) (V_bool _ _)
    · simp [Rd.val] at h
  · rename_i f caps e1 e2
    rw [e1] at hx; rw [e2] at hy
    obtain ⟨vs, hx, _⟩ := hx
    simp only [Mill.V] at hy
    generalize hu : V.P.underlying t = T at h
    split at h
    · have h2 := val_ret h
      injection h2 with h2 h3
      subst h2 h3
      exact fin (.bool false) rfl (by rw [hx]; exact run_eqGuard_one _ t x y _ _ _ _ (by simp) (by simp)) (by rw [hx, hy]; exact run_eql_fn _ _ _ _ _ _ hu) (V_bool _ _)
    · have h2 := val_ret h
      injection h2 with h2 h3
      subst h2 h3
      exact fin (.bool true) rfl (by rw [hx]; exact run_eqGuard_one _ t x y _ _ _ _ (by simp) (by simp)) (by rw [hx, hy]; exact run_neq_fn _ _ _ _ _ _ hu) (V_bool _ _)
    · simp [Rd.val] at h
  · rename_i e1 e2
    rw [e1] at hx; rw [e2] at hy
    simp only [Mill.V] at hx hy
    generalize hu : V.P.underlying t = T at h
    split at h
    · have h2 := val_ret h
      injection h2 with h2 h3
      subst h2 h3
      exact fin (.bool true) rfl (by rw [hx]; exact run_eqGuard_one _ t x y _ _ _ _ (by simp) (by simp)) (by rw [hx, hy]; exact run_eql_nf _ _ _ hu) (V_bool _ _)
    · have h2 := val_ret h
      injection h2 with h2 h3
      subst h2 h3
      exact fin (.bool false) rfl (by rw [hx]; exact run_eqGuard_one _ t x y _ _ _ _ (by simp) (by simp)) (by rw [hx, hy]; exact run_neq_nf _ _ _ hu) (V_bool _ _)
    · simp [Rd.val] at h
  · simp [Rd.val] at h

theorem does_unOp {op : UnOp} {t : TypeId} {x : Operand} (ho : o.op = .unOp op t x) (h : (evVal V fid o).val σ = some (v, ws)) (hr : R w0 ok nt ds σ a w mu) :
    Does V.P w0 ok o a w σ.ob mu v ws := by
  simp only [evVal, ho, wrapA_eq] at h
  have h := val_opd h
  have hx := V_operand hr x
  generalize e : valOf σ x = X at h
  split at h
  · rename_i k n _
    rw [e] at hx
    simp only [Mill.V] at hx
    have h2 := val_ret h
    injection h2 with h2 h3
    subst h2 h3
    exact .mk (u := .int k (k.wrap (0 - n))) (by simp [execOp, ho, hx, Op.unary, Op.intArith]) (Post.pure hr.mem (V_int _ _ _))
  · rename_i b _
    rw [e] at hx
    simp only [Mill.V] at hx
    have h2 := val_ret h
    injection h2 with h2 h3
    subst h2 h3
    exact .mk (u := .bool !b) (by simp [execOp, ho, hx, Op.unary]) (Post.pure hr.mem (V_bool _ _))
  · simp [Rd.val] at h

theorem does_convert {s t : TypeId} {x : Operand} (ho : o.op = .convert s t x) (h : (evVal V fid o).val σ = some (v, ws)) (hr : R w0 ok nt ds σ a w mu) :
    Does V.P w0 ok o a w σ.ob mu v ws := by
  simp only [evVal, ho, wrapA_eq] at h
  have h := val_opd h
  have hx := V_operand hr x
  generalize e : valOf σ x = X at h
  generalize hs : V.P.underlying s = S at h
  generalize ht : V.P.underlying t = T at h
  split at h
  · rename_i d0 d k k' n
    rw [e] at hx
    simp only [Mill.V] at hx
    have h2 := val_ret h
    injection h2 with h2 h3
    subst h2 h3
    refine .mk (u := .int k (k.wrap n)) ?_ (Post.pure hr.mem (V_int _ _ _))
    simp only [execOp, ho, hx, convert, Sem.run_bind, run_underlying hs, run_underlying ht, Result.andThen_ok]
    cases d <;> simp [Conv.intToInt]
  · simp [Rd.val] at h

theorem add_pos (x : Addr) (n : Nat) : ∃ y, x.add n = y := ⟨_, rfl⟩

theorem addOff_ok {α : Type} {p : AV} {n : Nat} {k : AV → Rd α} {r : α} {c : Cx} {pv : Value} (h : (addOff p n k).val σ = some r) (hp : Mill.V c p pv) :
    ∃ p' x, (k p').val σ = some r ∧ pv = .pointer (some x) ∧ Mill.V c p' (.pointer (some (x.add n))) := by
  cases p with
  | ptr id off =>
    have hp : PtrV c id off pv := hp
    unfold PtrV at hp
    split at hp
    · rename_i cs e
      obtain ⟨b, hb, rfl⟩ := hp
      refine ⟨_, _, h, rfl, ?_⟩
      show PtrV c id (off + n) _
      unfold PtrV
      rw [e]
      exact ⟨b, hb, by rw [add_none]⟩
    · rename_i e
      obtain ⟨x, rfl⟩ := hp
      refine ⟨_, _, h, rfl, ?_⟩
      show PtrV c id (off + n) _
      unfold PtrV
      rw [e]
      exact ⟨_, rfl⟩
    · exact hp.elim
  | eptr id i off =>
    have hp : EptrV c id i off pv := hp
    unfold EptrV at hp
    split at hp
    · rename_i e1 τ xs e
      obtain ⟨b, hb, rfl, hi⟩ := hp
      refine ⟨_, _, h, rfl, ?_⟩
      show EptrV c id i (off + n) _
      unfold EptrV
      rw [e]
      exact ⟨b, hb, by rw [add_none, Nat.add_assoc], hi⟩
    · rename_i τ xs e
      obtain ⟨hi, b, o', u, rfl, h1, h2, h3⟩ := hp
      refine ⟨_, _, h, rfl, ?_⟩
      show EptrV c id i (off + n) _
      unfold EptrV
      rw [e]
      exact ⟨hi, b, o', u, by rw [add_none, Nat.add_assoc], h1, h2, h3⟩
    · rename_i e
      obtain ⟨x, rfl⟩ := hp
      refine ⟨_, _, h, rfl, ?_⟩
      show EptrV c id i (off + n) _
      unfold EptrV
      rw [e]
      exact ⟨_, rfl⟩
    · exact hp.elim
  | lptr τ xs i off =>
    obtain ⟨hi, b, o', u, rfl, h1, h2, h3⟩ := hp
    exact ⟨_, _, h, rfl, hi, b, o', u, by rw [add_none, Nat.add_assoc], h1, h2, h3⟩
  | _ => simp [addOff, Rd.val] at h

theorem does_fieldAddr {s : TypeId} {x : Operand} {f : Nat} (ho : o.op = .fieldAddr s x f) (h : (evVal V fid o).val σ = some (v, ws)) (hr : R w0 ok nt ds σ a w mu) :
    Does V.P w0 ok o a w σ.ob mu v ws := by
  simp only [evVal, ho, wrapA_eq] at h
  have h := val_opd h
  obtain ⟨n, hf, h⟩ := val_ofOpt h
  obtain ⟨p', y, h, hx, hv⟩ := addOff_ok h (V_operand hr x)
  have h2 := val_ret h
  injection h2 with h2 h3
  subst h2 h3
  unfold fieldOff at hf
  split at hf
  case h_2 => cases hf
  rename_i fs hu
  split at hf
  case h_2 => cases hf
  rename_i fl hfl
  split at hf
  case h_2 => cases hf
  rename_i k hs
  obtain rfl := Option.some.inj hf
  obtain ⟨_, i, hi, hsz⟩ := info_size hs
  refine .mk (u := .pointer (some (y.add fl.offset))) ?_ (Post.pure hr.mem hv)
  have hne : ¬ i.size = 0 := by omega
  simp [execOp, ho, hx, Instr.fieldAt, run_underlying hu, hfl, Instr.sureAddr, fieldPlace, sizeOf, typeInfo, hi, hne]

theorem does_field {s : TypeId} {x : Operand} {f : Nat} (ho : o.op = .field s x f) (h : (evVal V fid o).val σ = some (v, ws)) (hr : R w0 ok nt ds σ a w mu) :
    Does V.P w0 ok o a w σ.ob mu v ws := by
  simp only [evVal, ho, wrapA_eq] at h
  have h := val_opd h
  have hx := V_operand hr x
  generalize e : valOf σ x = X at h
  generalize hu : V.P.underlying s = S at h
  split at h
  · rename_i cs fs _
    rw [e] at hx
    obtain ⟨xa, hx, hxv⟩ := hx
    split at h
    · rename_i fl hfl
      obtain ⟨av, hc, h⟩ := val_ofOpt h
      have h := val_giveCut h
      have h2 := val_ret h
      injection h2 with h2 h3
      subst h2 h3
      obtain ⟨u, hrun, hv⟩ := part_cut hxv hc w
      exact .mk (by simp [execOp, ho, hx, Instr.field, run_underlying hu, hfl, asAgg, hrun]) (Post.pure hr.mem hv)
    · simp [Rd.val] at h
  · simp [Rd.val] at h

theorem does_extract {x : Operand} {i : Nat} (ho : o.op = .extract x i) (h : (evVal V fid o).val σ = some (v, ws)) (hr : R w0 ok nt ds σ a w mu) :
    Does V.P w0 ok o a w σ.ob mu v ws := by
  simp only [evVal, ho, wrapA_eq] at h
  have h := val_opd h
  have hx := V_operand hr x
  generalize e : valOf σ x = X at h
  split at h
  · rename_i vs _
    rw [e] at hx
    obtain ⟨xa, hx, hxv⟩ := hx
    obtain ⟨av, hc, h⟩ := val_ofOpt h
    have h2 := val_ret h
    injection h2 with h2 h3
    subst h2 h3
    obtain ⟨u, hu, hv⟩ := hxv.get i av hc
    have hu : xa[i]? = some u := by simpa using hu
    exact .mk (by simp [execOp, ho, hx, Instr.extract, hu]) (Post.pure hr.mem hv)
  · simp [Rd.val] at h

theorem does_makeFunc {fn : Fn} {first caps : Array Operand} (ho : o.op = .makeFunc fn first caps) (h : (evVal V fid o).val σ = some (v, ws)) (hr : R w0 ok nt ds σ a w mu) :
    Does V.P w0 ok o a w σ.ob mu v ws := by
  simp only [evVal, ho, wrapA_eq] at h
  cases fn <;> simp only at h <;> try (simp [Rd.val] at h; done)
  case func f =>
    cases h00 : Nat.beq first.size 0 with
    | false =>
      rw [h00] at h
      simp only [cond_false] at h
      obtain ⟨h0, h⟩ := val_bif h
      have h := val_opds h
      have h2 := val_ret h
      injection h2 with h2 h3
      subst h2 h3
      have h0 : caps = #[] := Array.eq_empty_of_size_eq_zero (Nat.eq_of_beq_eq_true h0)
      subst h0
      refine .mk (u := .func (.func f) (first.map a.eval) #[]) (by simp [execOp, ho, Instr.makeFunc]) (Post.pure hr.mem ⟨_, rfl, ?_⟩)
      have := VL_operands hr first.toList
      simpa using this
    | true =>
    rw [h00] at h
    simp only [cond_true] at h
    have h0 := h00
    have h := val_opds h
    have h2 := val_ret h
    injection h2 with h2 h3
    subst h2 h3
    have h0 : first = #[] := Array.eq_empty_of_size_eq_zero (Nat.eq_of_beq_eq_true h0)
    subst h0
    refine .mk (u := .func (.func f) #[] (caps.map a.eval)) (by simp [execOp, ho, Instr.makeFunc]) (Post.pure hr.mem ⟨_, rfl, ?_⟩)
    have := VL_operands hr caps.toList
    simpa using this

theorem does_nilCheck {x : Operand} (ho : o.op = .nilCheck x) (h : (evVal V fid o).val σ = some (v, ws)) (hr : R w0 ok nt ds σ a w mu) :
    Does V.P w0 ok o a w σ.ob mu v ws := by
  simp only [evVal, ho] at h
  have h := val_opd h
  have hx := V_operand hr x
  generalize e : valOf σ x = X at h hx
  have fin : ∀ {p : AV}, Mill.V (cx w σ.ob mu ok) p (a.eval x) → (∃ q, a.eval x = .pointer (some q)) → (p, ([] : Wr)) = (v, ws) → Does V.P w0 ok o a w σ.ob mu v ws := by
    rintro p hp ⟨q, hq⟩ h2
    injection h2 with h2 h3
    subst h2 h3
    exact .mk (u := a.eval x) (by simp [execOp, ho, hq]) (Post.pure hr.mem hp)
  cases X <;> try (simp [Rd.val] at h; done)
  case ptr id off => exact fin hx (PtrV.some hx) (val_ret h)
  case eptr id i off => exact fin hx (EptrV.some hx) (val_ret h)
  case lptr τ xs i off =>
    have hx' := hx
    obtain ⟨_, b, o', u, he, _⟩ := hx'
    exact fin hx ⟨_, he⟩ (val_ret h)

theorem does_typeAssert {s t : TypeId} {x : Operand} {b : Bool} (ho : o.op = .typeAssert x s t b) (h : (evVal V fid o).val σ = some (v, ws)) (hr : R w0 ok nt ds σ a w mu) :
    Does V.P w0 ok o a w σ.ob mu v ws := by
  simp only [evVal, ho] at h
  have h := val_opd h
  have hx := V_operand hr x
  generalize e : valOf σ x = X at h hx
  generalize hu : V.P.underlying t = T at h
  split at h
  · simp [Rd.val] at h
  · rename_i d u y hni
    obtain ⟨xv, hxe, hxv⟩ := hx
    have hrun : ∀ ok' : Bool, (Instr.typeAssert (.iface u xv) s t ok').run V.P w = if u = t then (Result.ok (if ok' then .tuple #[xv, .bool true] else xv) w) else
        (do if ok' then pure (.tuple #[← zeroValue t, .bool false]) else runtimePanic (.typeAssertion (some s) (some u) t "") : Sem Value).run V.P w := by
      intro ok'
      unfold Instr.typeAssert
      simp only [Sem.run_bind, run_underlying hu, Result.andThen_ok]
      cases d <;> first
        | exact (hni _ rfl).elim
        | (split <;> rfl)
    cases hut : Nat.beq u t with
    | true =>
      rw [hut] at h
      have hut := Nat.eq_of_beq_eq_true hut
      have h2 := val_ret h
      injection h2 with h2 h3
      subst h2 h3
      refine .mk (u := if b then .tuple #[xv, .bool true] else xv) (by simp only [execOp, ho, hxe, Sem.run_bind, hrun b, if_pos hut, Result.andThen_ok]; rfl) (Post.pure hr.mem ?_)
      cases b
      · exact hxv
      · exact ⟨_, rfl, hxv, V_bool _ _, trivial⟩
    | false =>
      rw [hut] at h
      have hne : ¬ u = t := fun e => by rw [e] at hut; simp at hut
      simp only [cond_false] at h
      cases b with
      | false => simp [Rd.val] at h
      | true =>
        simp only [cond_true] at h
        obtain ⟨z, hz, h⟩ := val_ofOpt h
        have h2 := val_ret h
        injection h2 with h2 h3
        subst h2 h3
        unfold zeroA? at hz
        cases hi : V.P.info? t with
        | none => rw [hi] at hz; cases hz
        | some i =>
          rw [hi] at hz
          simp only [Option.bind_some] at hz
          cases hzz : i.zero with
          | none => rw [hzz] at hz; cases hz
          | some zv =>
            rw [hzz] at hz
            obtain rfl := Option.some.inj hz
            have hzr : (zeroValue t).run V.P w = .ok zv w := by simp [zeroValue, typeInfo, hi, hzz]
            refine .mk (u := .tuple #[zv, .bool false]) ?_ (Post.pure hr.mem ⟨_, rfl, V_ofValue _ _, V_bool _ _, trivial⟩)
            simp only [execOp, ho, hxe, Sem.run_bind, hrun true, if_neg hne, Result.andThen_ok]
            simp [hzr]
  · simp [Rd.val] at h

theorem does_makeInterface {t : TypeId} {x : Operand} (ho : o.op = .makeInterface t x) (h : (evVal V fid o).val σ = some (v, ws)) (hr : R w0 ok nt ds σ a w mu) :
    Does V.P w0 ok o a w σ.ob mu v ws := by
  simp only [evVal, ho, wrapA_eq] at h
  have h := val_opd h
  generalize hu : V.P.underlying t = T at h
  split at h
  · simp [Rd.val] at h
  · rename_i d hni
    have h2 := val_ret h
    injection h2 with h2 h3
    subst h2 h3
    refine .mk (u := .iface t (a.eval x)) ?_ (Post.pure hr.mem ⟨_, rfl, V_operand hr x⟩)
    have hc : V.P.concrete t = true := by
      unfold Program.concrete
      rw [hu]
      cases d <;> first | rfl | exact (hni _ rfl).elim
    simp only [execOp, ho, Sem.run_bind, run_makeInterface w t (a.eval x) hc, Result.andThen_ok]
    rfl
  · simp [Rd.val] at h

end
end Go.Proofs.Mill
