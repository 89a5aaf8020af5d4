/- What it means that the machine's values and memory are those that the evaluator knows; and that this stays so when memory grows or is written. -/
import Derived.Test.YtcokmmhkajmkhaaMillEval
import Derived.Below
import Derived.Laws.Cells
import Derived.Laws.CopyRow
import Derived.Laws.AppendOwn
set_option linter.all false
namespace Go.Proofs.Mill
open Go.RowKit

/-- Plain data in memory; 'ok': the blocks that it may lie in. -/
inductive DV (w : World) (ok : Nat → Prop) : D → Value → Prop
  | int (k : IntKind) (n : Int) : DV w ok (.int k n) (.int k n)
  | bool (b : Bool) : DV w ok (.bool b) (.bool b)
  | str (s : ByteArray) : DV w ok (.str s) (.string s)
  | nil (sz : Nat) (A : Option Addr) (c : Nat) (hA : A = none → c = 0) : DV w ok (.lst sz []) (.slice A 0 c)
  | lst (sz : Nat) (rows : List (List D)) (b off c : Nat) (u : Nat → Value) (hc : rows.length ≤ c) (hsz : ∀ r ∈ rows, r.length = sz)
      (hcell : ∀ j d, rows.flatten[j]? = some d → w.cell? ⟨b, off + j, none⟩ = some (u j))
      (hdv : ∀ j d, rows.flatten[j]? = some d → DV w ok d (u j)) (hok : ok b) :
      DV w ok (.lst sz rows) (.slice (some ⟨b, off, none⟩) rows.length c)

theorem cell?_heap {w w' : World} {b : Nat} (h : w'.heap[b]? = w.heap[b]?) (o : Nat) : w'.cell? ⟨b, o, none⟩ = w.cell? ⟨b, o, none⟩ :=
  World.cell?_of_block (w := w) (w' := w') (a := ⟨b, o, none⟩) h

theorem flatten_nil_of {sz : Nat} (hs : 0 < sz) : ∀ (rows : List (List D)), (∀ r ∈ rows, r.length = sz) → rows ≠ [] → ∃ d, rows.flatten[0]? = some d
  | [], _, h => (h rfl).elim
  | r :: rs, h, _ => by
    have := h r (by simp)
    cases r with
    | nil => simp at this; omega
    | cons d r => exact ⟨d, by simp⟩

theorem DV.mono {w w' : World} {ok ok' : Nat → Prop} (hok : ∀ b, ok b → ok' b) (hw : ∀ b, ok b → w'.heap[b]? = w.heap[b]?) :
    ∀ {d v}, DV w ok d v → DV w' ok' d v := by
  intro d v h
  induction h with
  | int k n => exact .int k n
  | bool b => exact .bool b
  | str s => exact .str s
  | nil sz A c hA => exact .nil sz A c hA
  | lst sz rows b off c u hc hsz hcell hdv hb ih =>
    exact .lst sz rows b off c u hc hsz (fun j d hj => (cell?_heap (hw b hb) _).trans (hcell j d hj)) (fun j d hj => ih j d hj) (hok b hb)

structure Cx where
  w : World
  ob : Nat → AV
  mu : Nat → Option Nat
  ok : Nat → Prop

/-- A block that nobody here writes. -/
def Cx.okb (c : Cx) (b : Nat) : Prop := c.ok b ∧ b < c.w.heap.size ∧ ∀ id, c.mu id ≠ some b

def Cx.DV (c : Cx) : D → Value → Prop := Mill.DV c.w c.okb

def Cx.DVs (c : Cx) : List D → List Value → Prop
  | [], [] => True
  | d :: ds, v :: vs => c.DV d v ∧ c.DVs ds vs
  | _, _ => False

def LptrV (c : Cx) (τ : Ty) (xs : List τ.den) (i off : Nat) (v : Value) : Prop :=
  i < xs.length ∧ ∃ b o, ∃ u : Nat → Value, v = .pointer (some ⟨b, o + i * τ.sz + off, none⟩) ∧ c.okb b ∧
    (∀ j d, (xs.map τ.enc).flatten[j]? = some d → c.w.cell? ⟨b, o + j, none⟩ = some (u j)) ∧ ∀ j d, (xs.map τ.enc).flatten[j]? = some d → c.DV d (u j)

/-- The block of a row of the call's own. -/
def RowAt (c : Cx) (e : TypeId) (τ : Ty) (b : Nat) (cap : Nat) (cur : Array Value) : Prop :=
  c.w.heap[b]? = some (.cells cur e (0, 0)) ∧ cur.size = cap * τ.sz

def OwnV (c : Cx) (id : Nat) (v : Value) : Prop :=
  match c.ob id with
  | .row e τ xs => (c.mu id = none ∧ xs = [] ∧ ∃ A, v = .slice A 0 0) ∨
      ∃ b cap cur, c.mu id = some b ∧ RowAt c e τ b cap cur ∧ xs.length ≤ cap ∧ v = .slice (some ⟨b, 0, none⟩) xs.length cap
  | .frz τ xs => c.DV (.lst τ.sz (xs.map τ.enc)) v
  | .dead => v.oneCell' = true
  | _ => False

def PtrV (c : Cx) (id off : Nat) (v : Value) : Prop :=
  match c.ob id with
  | .box _ => ∃ b, c.mu id = some b ∧ v = .pointer (some ⟨b, off, none⟩)
  | .dead => ∃ a, v = .pointer (some a)
  | _ => False

def EptrV (c : Cx) (id i off : Nat) (v : Value) : Prop :=
  match c.ob id with
  | .row _ τ xs => ∃ b, c.mu id = some b ∧ v = .pointer (some ⟨b, i * τ.sz + off, none⟩) ∧ i < xs.length
  | .frz τ xs => LptrV c τ xs i off v
  | .dead => ∃ a, v = .pointer (some a)
  | _ => False

theorem Cx.DV.one {c : Cx} {d : D} {v : Value} (h : c.DV d v) : v.oneCell' = true := by
  cases h <;> rfl

theorem OwnV.one {c : Cx} {id : Nat} {v : Value} (h : OwnV c id v) : v.oneCell' = true := by
  unfold OwnV at h
  split at h
  · rcases h with ⟨_, _, A, rfl⟩ | ⟨_, _, _, _, _, _, rfl⟩ <;> rfl
  · exact h.one
  · exact h
  · exact h.elim

theorem PtrV.some {c : Cx} {id off : Nat} {v : Value} (h : PtrV c id off v) : ∃ a, v = .pointer (some a) := by
  unfold PtrV at h
  split at h
  · obtain ⟨_, _, rfl⟩ := h; exact ⟨_, rfl⟩
  · exact h
  · exact h.elim
theorem PtrV.one {c : Cx} {id off : Nat} {v : Value} (h : PtrV c id off v) : v.oneCell' = true := by
  obtain ⟨a, rfl⟩ := h.some; rfl

theorem EptrV.some {c : Cx} {id i off : Nat} {v : Value} (h : EptrV c id i off v) : ∃ a, v = .pointer (some a) := by
  unfold EptrV at h
  split at h
  · obtain ⟨_, _, rfl, _⟩ := h; exact ⟨_, rfl⟩
  · obtain ⟨_, _, _, _, rfl, _⟩ := h; exact ⟨_, rfl⟩
  · exact h
  · exact h.elim
theorem EptrV.one {c : Cx} {id i off : Nat} {v : Value} (h : EptrV c id i off v) : v.oneCell' = true := by
  obtain ⟨a, rfl⟩ := h.some; rfl

mutual
def V (c : Cx) : AV → Value → Prop
  | .undef, _ => True
  | .int k n, v => v = .int k n
  | .bool b, v => v = .bool b
  | .str s, v => v = .string s
  | .lst τ xs, v => c.DV (.lst τ.sz (xs.map τ.enc)) v
  | .lstn τ xs, v => c.DV (.lst τ.sz (xs.map τ.enc)) v ∧ v ≠ .slice none 0 0
  | .emp, v => v = .slice none 0 0
  | .own id, v => OwnV c id v
  | .ownv _ _ _, _ => False
  | .ptr id off, v => PtrV c id off v
  | .eptr id i off, v => EptrV c id i off v
  | .lptr τ xs i off, v => LptrV c τ xs i off v
  | .agg cs, v => ∃ vs : Array Value, v = .agg vs ∧ VL c cs vs.toList
  | .tup cs, v => ∃ vs : Array Value, v = .tuple vs ∧ VL c cs vs.toList
  | .fn f caps, v => ∃ vs : Array Value, v = .func (.func f) #[] vs ∧ VL c caps vs.toList
  | .bfn f first, v => ∃ vs : Array Value, v = .func (.func f) vs #[] ∧ VL c first vs.toList
  | .cst u, v => v = u
  | .ifc t x, v => ∃ u, v = .iface t u ∧ V c x u
  | .box _, _ => False
  | .row _ _ _, _ => False
  | .frz _ _, _ => False
  | .dead, _ => False
def VL (c : Cx) : List AV → List Value → Prop
  | [], [] => True
  | x :: xs, v :: vs => V c x v ∧ VL c xs vs
  | _, _ => False
end

/-- What was known of values stays so. -/
structure Mono5 (c c' : Cx) : Prop where
  dv : ∀ d v, c.DV d v → c'.DV d v
  own : ∀ id v, OwnV c id v → OwnV c' id v
  ptr : ∀ id off v, PtrV c id off v → PtrV c' id off v
  eptr : ∀ id i off v, EptrV c id i off v → EptrV c' id i off v
  lptr : ∀ τ xs i off v, LptrV c τ xs i off v → LptrV c' τ xs i off v

mutual
theorem Mono5.v {c c' : Cx} (h : Mono5 c c') : ∀ (x : AV) (v : Value), V c x v → V c' x v
  | .undef, _, _ => trivial
  | .int _ _, _, hv => hv
  | .bool _, _, hv => hv
  | .str _, _, hv => hv
  | .lst _ _, _, hv => h.dv _ _ hv
  | .lstn _ _, _, hv => ⟨h.dv _ _ hv.1, hv.2⟩
  | .emp, _, hv => hv
  | .own _, _, hv => h.own _ _ hv
  | .ownv _ _ _, _, hv => hv
  | .ptr _ _, _, hv => h.ptr _ _ _ hv
  | .eptr _ _ _, _, hv => h.eptr _ _ _ _ hv
  | .lptr _ _ _ _, _, hv => h.lptr _ _ _ _ _ hv
  | .agg cs, _, ⟨vs, e, hv⟩ => ⟨vs, e, h.vl cs vs.toList hv⟩
  | .tup cs, _, ⟨vs, e, hv⟩ => ⟨vs, e, h.vl cs vs.toList hv⟩
  | .fn _ caps, _, ⟨vs, e, hv⟩ => ⟨vs, e, h.vl caps vs.toList hv⟩
  | .bfn _ first, _, ⟨vs, e, hv⟩ => ⟨vs, e, h.vl first vs.toList hv⟩
  | .cst _, _, hv => hv
  | .ifc _ x, _, ⟨u, e, hv⟩ => ⟨u, e, h.v x u hv⟩
  | .box _, _, hv => hv
  | .row _ _ _, _, hv => hv
  | .frz _ _, _, hv => hv
  | .dead, _, hv => hv
theorem Mono5.vl {c c' : Cx} (h : Mono5 c c') : ∀ (xs : List AV) (vs : List Value), VL c xs vs → VL c' xs vs
  | [], [], hv => hv
  | x :: xs, v :: vs, ⟨a, b⟩ => ⟨h.v x v a, h.vl xs vs b⟩
end

/-- The same; and the blocks that nobody here writes lie as they lay. -/
structure Mono (c c' : Cx) : Prop extends Mono5 c c' where
  blk : ∀ b, c.okb b → c'.okb b ∧ c'.w.heap[b]? = c.w.heap[b]?

theorem Mono5.refl (c : Cx) : Mono5 c c := ⟨fun _ _ h => h, fun _ _ h => h, fun _ _ _ h => h, fun _ _ _ _ h => h, fun _ _ _ _ _ h => h⟩
theorem Mono5.trans {a b c : Cx} (h : Mono5 a b) (k : Mono5 b c) : Mono5 a c :=
  ⟨fun _ _ x => k.dv _ _ (h.dv _ _ x), fun _ _ x => k.own _ _ (h.own _ _ x), fun _ _ _ x => k.ptr _ _ _ (h.ptr _ _ _ x),
   fun _ _ _ _ x => k.eptr _ _ _ _ (h.eptr _ _ _ _ x), fun _ _ _ _ _ x => k.lptr _ _ _ _ _ (h.lptr _ _ _ _ _ x)⟩
theorem Mono.refl (c : Cx) : Mono c c := ⟨Mono5.refl c, fun _ h => ⟨h, rfl⟩⟩
theorem Mono.trans {a b c : Cx} (h : Mono a b) (k : Mono b c) : Mono a c :=
  ⟨h.toMono5.trans k.toMono5, fun x hx => ⟨(k.blk x (h.blk x hx).1).1, ((k.blk x (h.blk x hx).1).2).trans (h.blk x hx).2⟩⟩

theorem VL.length {c : Cx} : ∀ {xs : List AV} {vs : List Value}, VL c xs vs → xs.length = vs.length
  | [], [], _ => rfl
  | _ :: _, _ :: _, ⟨_, b⟩ => by simp [VL.length b]

theorem VL.get {c : Cx} : ∀ {xs : List AV} {vs : List Value}, VL c xs vs → ∀ (i : Nat) (x : AV), xs[i]? = some x → ∃ v, vs[i]? = some v ∧ V c x v
  | [], [], _, i, x, h => by simp at h
  | _ :: _, v :: _, ⟨a, _⟩, 0, _, h => by simp at h; subst h; exact ⟨v, rfl, a⟩
  | _ :: _, _ :: _, ⟨_, b⟩, i + 1, x, h => by simp at h; simpa using VL.get b i x h

theorem VL.append {c : Cx} : ∀ {xs ys : List AV} {vs us : List Value}, VL c xs vs → VL c ys us → VL c (xs ++ ys) (vs ++ us)
  | [], _, [], _, _, h => h
  | _ :: _, _, _ :: _, _, ⟨a, b⟩, h => ⟨a, VL.append b h⟩

theorem VL.take {c : Cx} : ∀ {xs : List AV} {vs : List Value} (n : Nat), VL c xs vs → VL c (xs.take n) (vs.take n)
  | [], [], _, _ => by simp [VL]
  | _ :: _, _ :: _, 0, _ => by simp [VL]
  | _ :: _, _ :: _, n + 1, ⟨a, b⟩ => ⟨a, VL.take n b⟩

theorem VL.drop {c : Cx} : ∀ {xs : List AV} {vs : List Value} (n : Nat), VL c xs vs → VL c (xs.drop n) (vs.drop n)
  | [], [], _, _ => by simp [VL]
  | _ :: _, _ :: _, 0, h => h
  | _ :: _, _ :: _, n + 1, ⟨_, b⟩ => VL.drop n b

theorem VL.split {c : Cx} : ∀ {xs ys : List AV} {vs : List Value}, VL c (xs ++ ys) vs → ∃ us ws, vs = us ++ ws ∧ VL c xs us ∧ VL c ys ws
  | [], _, vs, h => ⟨[], vs, rfl, trivial, h⟩
  | _ :: _, _, v :: vs, ⟨a, b⟩ => by
    obtain ⟨us, ws, rfl, h1, h2⟩ := VL.split b
    exact ⟨v :: us, ws, rfl, ⟨a, h1⟩, h2⟩

/-- An object of the store is what its block holds. -/
def ObjOK (c : Cx) (id : Nat) : Prop :=
  match c.ob id with
  | .box cs => ∃ b cur e, c.mu id = some b ∧ c.w.heap[b]? = some (.cells cur e (0, 0)) ∧ VL c cs cur.toList
  | .row e τ xs => (c.mu id = none ∧ xs = []) ∨
      ∃ b cap cur, c.mu id = some b ∧ RowAt c e τ b cap cur ∧ xs.length ≤ cap ∧ cap ≤ maxLen ∧ c.DVs (xs.map τ.enc).flatten (cur.toList.take (xs.length * τ.sz))
  | .undef => c.mu id = none
  | .dead => c.mu id = none
  | .frz _ _ => c.mu id = none
  | _ => False

/-- The store is the memory's. -/
structure Mem (w0 : World) (c : Cx) : Prop where
  obj : ∀ id, ObjOK c id
  inj : ∀ id id' b, c.mu id = some b → c.mu id' = some b → id = id'
  base : ∀ id b, c.mu id = some b → w0.heap.size ≤ b
  ext : Below w0.heap.size w0 c.w
  okn : ∀ b, w0.heap.size ≤ b → c.ok b

theorem Mem.lt {w0 : World} {c : Cx} (h : Mem w0 c) {id b : Nat} (hb : c.mu id = some b) : b < c.w.heap.size := by
  have ho := h.obj id
  have key : ∀ {o : Obj}, c.w.heap[b]? = some o → b < c.w.heap.size := fun h => (Array.getElem?_eq_some_iff.1 h).1
  unfold ObjOK at ho
  split at ho
  · obtain ⟨b', cur, e, h1, h2, _⟩ := ho
    rw [hb] at h1; cases h1; exact key h2
  · rcases ho with ⟨h1, _⟩ | ⟨b', cap, cur, h1, h2, _⟩
    · rw [hb] at h1; cases h1
    · rw [hb] at h1; cases h1; exact key h2.1
  · rw [hb] at ho; cases ho
  · rw [hb] at ho; cases ho
  · rw [hb] at ho; cases ho
  · exact ho.elim

/-- The state of a function's run. -/
structure R (w0 : World) (ok : Nat → Prop) (nt : Nat) (ds : List Deferred) (σ : St) (a : Act) (w : World) (mu : Nat → Option Nat) : Prop where
  mem : Mem w0 ⟨w, look σ.ob, mu, ok⟩
  tm : ∀ t, t < nt → V ⟨w, look σ.ob, mu, ok⟩ (look σ.tm t) (a.tmps.getD t undef)
  far : ∀ t, nt ≤ t → look σ.tm t = .undef
  size : a.tmps.size = nt
  defers : a.defers = ds

end Go.Proofs.Mill
