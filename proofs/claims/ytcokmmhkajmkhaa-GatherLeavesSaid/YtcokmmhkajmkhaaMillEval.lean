/- An evaluator of the machine's code over plain data: what an operation reads, asks and writes; regions, calls, loops. -/
import Derived.Test.YtcokmmhkajmkhaaMillData
set_option linter.all false
namespace Go.Proofs.Mill

/-- A place: a temporary, or an object of the store. -/
inductive Loc where
  | t (n : Nat)
  | m (id : Nat)

def Loc.beq : Loc → Loc → Bool
  | .t a, .t b => Nat.beq a b
  | .m a, .m b => Nat.beq a b
  | _, _ => false

structure St where
  tm : List (Nat × AV)
  ob : List (Nat × AV)

def look : List (Nat × AV) → Nat → AV
  | [], _ => .undef
  | (k, v) :: r, n => bif Nat.beq k n then v else look r n

def St.get (σ : St) : Loc → AV
  | .t n => look σ.tm n
  | .m n => look σ.ob n

/-- What is written into the store. -/
abbrev Wr := List (Nat × AV)

def appOb : Wr → List (Nat × AV) → List (Nat × AV)
  | [], ob => ob
  | p :: r, ob => appOb r (p :: ob)

def St.put (σ : St) (d : Option Nat) (v : AV) (ws : Wr) : St :=
  match d with
  | some d => ⟨(d, v) :: σ.tm, appOb ws σ.ob⟩
  | none => ⟨σ.tm, appOb ws σ.ob⟩

/-- What an operation does: it reads places, asks of conditions, hands on what a call answers, and ends with what it writes. -/
inductive Rd (α : Type) : Type 1 where
  | ret (a : α)
  | rd (l : Loc) (k : AV → Rd α)
  | ask (b : Bool) (t e : Rd α)
  | call {β : Type} (x : Option β) (k : β → Rd α)
  | fail

def Rd.bind {α β : Type} : Rd α → (α → Rd β) → Rd β
  | .ret a, f => f a
  | .rd l k, f => .rd l fun v => (k v).bind f
  | .ask b t e, f => .ask b (t.bind f) (e.bind f)
  | .call x k, f => .call x fun y => (k y).bind f
  | .fail, _ => .fail

/-- It, run in a state. -/
def Rd.run {α : Type} : Rd α → St → Option (α × List Loc)
  | .ret a, _ => some (a, [])
  | .rd l k, σ => ((k (σ.get l)).run σ).map fun p => (p.1, l :: p.2)
  | .ask b t e, σ => bif b then t.run σ else e.run σ
  | .call x k, σ => x.bind fun y => (k y).run σ
  | .fail, _ => none

/-- It, run in a state, and then what goes on. -/
def Rd.runK {α ρ : Type} : Rd α → St → List Loc → (α → List Loc → Option ρ) → Option ρ
  | .ret a, _, log, k => k a log
  | .rd l f, σ, log, k => (f (σ.get l)).runK σ (l :: log) k
  | .ask b t e, σ, log, k => bif b then t.runK σ log k else e.runK σ log k
  | .call x f, σ, log, k => match x with
    | some y => (f y).runK σ log k
    | none => none
  | .fail, _, _, _ => none

/-- What a value is to be, where it is handed over: as it is; a row of the call's own; plain data; a struct (or the variable that holds it), cell by cell. -/
inductive Kd where
  | any
  | own (e : TypeId) (τ : Ty)
  | lst (τ : Ty)
  | box (ks : List Kd)
  /-- that function -/
  | fnc (f : FuncId)
  /-- the nil slice -/
  | nil

/-- A function that is known: what its arguments are, what it answers. -/
structure Spec where
  ak : List Kd
  α : Type
  β : Type
  dec : List AV → Option α
  fn : α → Option β
  enc : β → AV

structure Env where
  P : Program
  /-- what the elements of a slice of that element's type are -/
  E : TypeId → Option Ty
  G : FuncId → Option Spec
  /-- is that a function that has a body? -/
  ent : FuncId → Bool
  /-- a function that is walked into, and that sees nothing of the store: what it answers, and what it makes -/
  pure : FuncId → Nat → List AV → Option (AV × Wr)
  /-- is that a function whose slice expressions take over the row that they cut? -/
  mv : FuncId → Bool := fun _ => false

def ofCell : Value → AV
  | .int k n => .int k n
  | .bool b => .bool b
  | .string s => .str s
  | .slice none 0 0 => .emp
  | v => .cst v

def ofValue : Value → AV
  | .agg cs => .agg (cs.toList.map ofCell)
  | .int k n => .int k n
  | .bool b => .bool b
  | .string s => .str s
  | .slice none 0 0 => .emp
  | v => .cst v

/-- Is it a value of one cell? -/
def AV.one : AV → Bool
  | .undef | .agg _ | .tup _ | .ownv _ _ _ | .box _ | .row _ _ _ | .frz _ _ | .dead => false
  | .cst v => match v with | .agg _ | .tuple _ => false | _ => true
  | _ => true

def AV.cells : AV → List AV
  | .agg cs => cs
  | v => [v]

def opd {α : Type} (x : Operand) (k : AV → Rd α) : Rd α :=
  match x with
  | .tmp t => .rd (.t t) k
  | .const v => k (ofValue v)
  | .func f => k (.fn f [])
  | .global _ => .fail

def opds {α : Type} : List Operand → (List AV → Rd α) → Rd α
  | [], k => k []
  | x :: r, k => opd x fun v => opds r fun vs => k (v :: vs)

/-- A list whose spine is laid bare. -/
def bare {ρ : Type 1} : List AV → (List AV → ρ) → ρ
  | [], k => k []
  | x :: r, k => bare r fun ys => k (x :: ys)

def splice (cs : List AV) (off : Nat) (vs : List AV) : List AV := cs.take off ++ vs ++ cs.drop (off + vs.length)

/-- Plain data out of a cell; what was of the call's own is nobody's to write any more. -/
def dataCell {α : Type} (v : AV) (k : AV → Wr → Rd α) : Rd α :=
  match v with
  | .own id => .rd (.m id) fun
    | .row _ τ xs => k (.lst τ xs) [(id, .frz τ xs)]
    | .frz τ xs => k (.lst τ xs) []
    | _ => .fail
  | .int _ _ | .bool _ | .str _ | .lst _ _ | .emp => k v []
  | _ => .fail

def dataCells {α : Type} : List AV → (List AV → Wr → Rd α) → Rd α
  | [], k => k [] []
  | v :: r, k => dataCell v fun x ws => dataCells r fun xs ws' => k (x :: xs) (ws ++ ws')

/-- Arguments as plain data; which rows of the call's own are lent. -/
def argCell {α : Type} (κ : Kd) (v : AV) (k : AV → Wr → Rd α) : Rd α :=
  match κ with
  | .lst τ => match v with
    | .own id => .rd (.m id) fun
      | .row _ σ xs => match Ty.eqTy σ τ with
        | some ⟨h⟩ => k (.lst τ (h ▸ xs)) [(id, .frz σ xs)]
        | none => .fail
      | .frz σ xs => match Ty.eqTy σ τ with
        | some ⟨h⟩ => k (.lst τ (h ▸ xs)) []
        | none => .fail
      | _ => .fail
    | .lst σ xs => match Ty.eqTy σ τ with
      | some ⟨h⟩ => k (.lst τ (h ▸ xs)) []
      | none => .fail
    | .emp => k (.lst τ []) []
    | _ => .fail
  | .any => match v with
    | .int _ _ | .bool _ | .str _ => k v []
    | _ => .fail
  | .fnc f => match v with
    | .fn g [] => bif Nat.beq g f then k (.fn f []) [] else .fail
    | _ => .fail
  | .nil => match v with
    | .emp => k .emp []
    | _ => .fail
  | _ => .fail

def argCells {α : Type} : List Kd → List AV → (List AV → Wr → Rd α) → Rd α
  | [], [], k => k [] []
  | κ :: ks, v :: r, k => argCell κ v fun x ws => argCells ks r fun xs ws' => k (x :: xs) (ws ++ ws')
  | _, _, _ => .fail

def argVal {α : Type} (κ : Kd) (v : AV) (k : AV → Wr → Rd α) : Rd α :=
  match κ with
  | .box ks => match v with
    | .agg cs => argCells ks cs fun xs ws => k (.agg xs) ws
    | _ => .fail
  | κ => argCell κ v k

def argVals {α : Type} : List Kd → List AV → (List AV → Wr → Rd α) → Rd α
  | [], [], k => k [] []
  | κ :: ks, v :: r, k => argVal κ v fun x ws => argVals ks r fun xs ws' => k (x :: xs) (ws ++ ws')
  | _, _, _ => .fail

/-- May a slice that is not of plain numbers have another one's tables below? -/
def Ty.flat : Ty → Bool
  | .lst _ | .thread => false
  | _ => true

mutual
/-- A value that does not hang on the store. -/
def AV.still : AV → Bool
  | .int _ _ | .bool _ | .str _ | .lst _ _ | .emp | .cst _ => true
  | .agg cs => AV.stills cs
  | .fn _ cs => AV.stills cs
  | _ => false
def AV.stills : List AV → Bool
  | [] => true
  | v :: r => bif v.still then AV.stills r else false
end

/-- Does a result bear slices that may be an argument's? -/
def AV.lends : AV → Bool
  | .int _ _ | .bool _ | .str _ | .emp => false
  | .ownv _ τ _ => !τ.flat
  | _ => true

def AV.lendsAny : AV → Bool
  | .agg cs => cs.any AV.lends
  | .tup vs => vs.any fun | .agg cs => cs.any AV.lends | v => v.lends
  | v => v.lends

/-- A result's rows of its own become the caller's. -/
def impCell (id : Nat) (v : AV) : AV × Wr × Nat :=
  match v with
  | .ownv e τ xs => (.own id, [(id, .row e τ xs)], id + 1)
  | v => (v, [], id)

def impCells : Nat → List AV → List AV × Wr × Nat
  | id, [] => ([], [], id)
  | id, v :: r => match impCell id v with
    | (x, ws, id') => match impCells id' r with
      | (xs, ws', id'') => (x :: xs, ws ++ ws', id'')

def impVal (id : Nat) (v : AV) : AV × Wr × Nat :=
  match v with
  | .agg cs => match impCells id cs with
    | (xs, ws, id') => (.agg xs, ws, id')
  | v => impCell id v

def impVals : Nat → List AV → List AV × Wr × Nat
  | id, [] => ([], [], id)
  | id, v :: r => match impVal id v with
    | (x, ws, id') => match impVals id' r with
      | (xs, ws', id'') => (x :: xs, ws ++ ws', id'')

def impRes (id : Nat) (v : AV) : AV × Wr :=
  match v with
  | .tup vs => match impVals id vs with
    | (xs, ws, _) => (.tup xs, ws)
  | v => match impVal id v with
    | (x, ws, _) => (x, ws)

/-- Those places are not taken yet. -/
def freeAll {α : Type} : Wr → Rd α → Rd α
  | [], k => k
  | (l, _) :: r, k => .rd (.m l) fun | .undef => freeAll r k | _ => .fail

section
variable (V : Env)

def sizeOf? (t : TypeId) : Option Nat := match V.P.underlying t with | some _ => (V.P.info? t).map (·.size) | none => none
def isAgg? (t : TypeId) : Bool := match V.P.underlying t with | some (.struct _) | some (.array _ _) => true | _ => false
def zeroCells? (t : TypeId) : Option (List AV) := ((V.P.info? t).bind (·.zero)).map fun v => (ofValue v).cells

def cut (t : TypeId) (cs : List AV) (off : Nat) : Option AV :=
  match sizeOf? V t with
  | none => none
  | some n => bif isAgg? V t then (bif Nat.ble (off + n) cs.length then some (.agg ((cs.drop off).take n)) else none) else cs[off]?

def ofOpt {α β : Type} (x : Option α) (k : α → Rd β) : Rd β := match x with | some a => k a | none => .fail

/-- A load's value is laid bare. -/
def giveCut {α : Type} (v : AV) (k : AV → Rd α) : Rd α :=
  match v with
  | .agg cs => bare cs fun cs => k (.agg cs)
  | v => k v

def rdAt {α : Type} (t : TypeId) (a : AV) (k : AV → Rd α) : Rd α :=
  match a with
  | .ptr id off => .rd (.m id) fun
    | .box cs => ofOpt (cut V t cs off) fun v => giveCut v k
    | _ => .fail
  | .eptr id i off => .rd (.m id) fun
    | .row _ τ xs => ofOpt (cut V t (τ.encA (xs.getD i τ.dflt)) off) fun v => giveCut v k
    | .frz τ xs => ofOpt (cut V t (τ.encA (xs.getD i τ.dflt)) off) fun v => giveCut v k
    | _ => .fail
  | .lptr τ xs i off => ofOpt (cut V t (τ.encA (xs.getD i τ.dflt)) off) fun v => giveCut v k
  | _ => .fail

def wrAt {α : Type} (t : TypeId) (a x : AV) (k : Wr → Rd α) : Rd α :=
  ofOpt (sizeOf? V t) fun n =>
  bif Nat.beq x.cells.length n && x.cells.all AV.one then
    match a with
    | .ptr id off => .rd (.m id) fun
      | .box cs => bif Nat.ble (off + n) cs.length then bare (splice cs off x.cells) fun cs => k [(id, .box cs)] else .fail
      | _ => .fail
    | .eptr id i off => dataCells x.cells fun vs ws => .rd (.m id) fun
      | .row e τ xs => bif Nat.ble (off + n) τ.sz && ws.all (fun p => !(Nat.beq p.1 id)) then
          ofOpt (τ.decA (splice (τ.encA (xs.getD i τ.dflt)) off vs)) fun y => k (ws ++ [(id, .row e τ (xs.set i y))])
        else .fail
      | _ => .fail
    | _ => .fail
  else .fail

def fieldOff (s : TypeId) (f : Nat) : Option Nat :=
  match V.P.underlying s with
  | some (.struct fs) => match fs[f]? with
    | some f => match sizeOf? V f.type with
      | some (_ + 1) => some f.offset
      | _ => none
    | none => none
  | _ => none

def addOff {α : Type} (a : AV) (n : Nat) (k : AV → Rd α) : Rd α :=
  match a with
  | .ptr id off => k (.ptr id (off + n))
  | .eptr id i off => k (.eptr id i (off + n))
  | .lptr τ xs i off => k (.lptr τ xs i (off + n))
  | _ => .fail

/-- Is an index one of a list of that length? -/
def inBounds {α : Type} (n : Int) (len : Nat) (k : Rd α) : Rd α := .ask (decide (0 ≤ n)) (.ask (decide (n < (len : Int))) k .fail) .fail

/-- Is that a slice whose elements have so many cells? -/
def sliceSz (t : TypeId) (sz : Nat) : Bool := match V.P.underlying t with
  | some (.slice e) => match sizeOf? V e with | some n => Nat.beq n sz | none => false
  | _ => false

/-- Which of so many numbers is it? -/
def eachOne {α : Type} (n : Int) : Nat → Nat → (Nat → Rd α) → Rd α
  | 0, _, _ => .fail
  | r + 1, i, k => .ask (decide (n = (i : Int))) (k i) (eachOne n r (i + 1) k)

def idxAt {α : Type} (t : TypeId) (x : AV) (n : Int) (k : AV → Rd α) : Rd α :=
  match x with
  | .own id => .rd (.m id) fun
    | .row _ τ xs => bif sliceSz V t τ.sz then inBounds n xs.length (k (.eptr id n.toNat 0)) else .fail
    | .frz τ xs => bif sliceSz V t τ.sz then inBounds n xs.length (k (.lptr τ xs n.toNat 0)) else .fail
    | _ => .fail
  | .lst τ xs => bif sliceSz V t τ.sz then inBounds n xs.length (k (.lptr τ xs n.toNat 0)) else .fail
  | .ptr id off => match V.P.underlying t with
    | some (.array len e) => match sizeOf? V e with
      | some sz => inBounds n len (eachOne n len 0 fun i => k (.ptr id (off + i * sz)))
      | none => .fail
    | _ => .fail
  | _ => .fail

/-- A slice's elements, told; and what that leaves of it. -/
def elems {α : Type} (x : AV) (k : (τ : Ty) → List τ.den → Rd α) (nil : Rd α) : Rd α :=
  match x with
  | .own id => .rd (.m id) fun
    | .row _ τ xs => k τ xs
    | .frz τ xs => k τ xs
    | _ => .fail
  | .lst τ xs => k τ xs
  | .lstn τ xs => k τ xs
  | .emp => nil
  | _ => .fail

def fillA : (Nat → Option (Nat × Nat)) → List AV → List (Nat × AV) → Option (List AV)
  | _, cells, [] => some cells
  | place, cells, (i, v) :: r => match place i with
    | none => none
    | some (off, n) => bif Nat.beq v.cells.length n && Nat.ble (off + n) cells.length && v.cells.all AV.one then fillA place (splice cells off v.cells) r else none

def buildA (t : TypeId) (z : List AV) (parts : List (Nat × AV)) : Option (List AV) :=
  match V.P.underlying t with
  | some (.struct fs) => match fs.toList.mapM (fun f => (V.P.info? f.type).map fun i => (f.offset, i.size)) with
    | some places => fillA (fun x => places.toArray[x]?) z parts
    | none => none
  | some (.array _ e) => match V.P.info? e with
    | some ie => fillA (fun i => some (i * ie.size, ie.size)) z parts
    | none => none
  | _ => none

def elemOf? (t : TypeId) : Option TypeId := match V.P.underlying t with | some (.slice e) => some e | _ => none

def rowsOf (τ : Ty) (sz : Nat) : Nat → List AV → Option (List τ.den)
  | 0, _ => some []
  | n + 1, cs => match τ.decA (cs.take sz) with
    | none => none
    | some x => match rowsOf τ sz n (cs.drop sz) with
      | none => none
      | some r => some (x :: r)

/-- Elements of that type are read as the table says; they have some bytes, not too many. -/
def elemOk (e : TypeId) (τ : Ty) : Bool := match V.P.info? e, sizeOf? V e, zeroCells? V e with
  | some i, some sz, some z => Nat.beq sz τ.sz && Nat.beq z.length τ.sz && Nat.ble i.bytes 1024
  | _, _, _ => false

def maxElems : Int := 4294967296

/-- So many at most: it looks at the first number only. -/
def fewB (n : Nat) : Bool := Nat.ble n 4294967296

theorem few_ok {n : Nat} (h : fewB n = true) : (n : Int) ≤ maxElems := by
  have := Nat.le_of_ble_eq_true h
  unfold maxElems
  omega

/-- Is that a number of 64 bits? It looks at small numbers only. -/
def in64 : Int → Bool
  | .ofNat m => Nat.ble m 9223372036854775807
  | .negSucc m => Nat.ble m 9223372036854775807

/-- IntKind.wrap, so that a number that is not known is not counted. -/
def wrapA (k : IntKind) (n : Int) : Int := match k with
  | .i64 => bif in64 n then n else IntKind.wrap .i64 n
  | k => k.wrap n

theorem in64_ok {n : Int} (h : in64 n = true) : IntKind.wrap .i64 n = n := by
  have hb : -9223372036854775808 ≤ n ∧ n ≤ 9223372036854775807 := by
    cases n with
    | ofNat m =>
      have := Nat.le_of_ble_eq_true (show Nat.ble m 9223372036854775807 = true from h)
      constructor <;> simp <;> omega
    | negSucc m =>
      have := Nat.le_of_ble_eq_true (show Nat.ble m 9223372036854775807 = true from h)
      constructor <;> omega
  simp [IntKind.wrap, IntKind.signed, IntKind.bits]
  omega

theorem wrapA_eq (k : IntKind) (n : Int) : wrapA k n = k.wrap n := by
  unfold wrapA
  split
  · cases h : in64 n with
    | true => exact (in64_ok h).symm
    | false => rfl
  · rfl

def arith (op : BinOp) (k : IntKind) (a b : Int) (kv : AV → Rd (AV × Wr)) : Rd (AV × Wr) :=
  match op with
  | .add => kv (.int k (wrapA k (a + b)))
  | .sub => kv (.int k (wrapA k (a - b)))
  | .mul => kv (.int k (wrapA k (a * b)))
  | .quo => .ask (decide (b = 0)) .fail (kv (.int k (wrapA k (a.tdiv b))))
  | .rem => .ask (decide (b = 0)) .fail (kv (.int k (a.tmod b)))
  | .and => kv (.int k (wrapA k (BitVec.ofInt k.bits a &&& BitVec.ofInt k.bits b).toNat))
  | .or => kv (.int k (wrapA k (BitVec.ofInt k.bits a ||| BitVec.ofInt k.bits b).toNat))
  | .xor => kv (.int k (wrapA k (BitVec.ofInt k.bits a ^^^ BitVec.ofInt k.bits b).toNat))
  | .eql => kv (.bool (a == b))
  | .neq => kv (.bool (a != b))
  | .lss => kv (.bool (decide (a < b)))
  | .leq => kv (.bool (decide (a ≤ b)))
  | .gtr => kv (.bool (decide (a > b)))
  | .geq => kv (.bool (decide (a ≥ b)))
  | .shl => .ask (decide (b < 0)) .fail (kv (.int k (wrapA k (a * 2 ^ (min b.toNat k.bits)))))
  | .shr => .ask (decide (b < 0)) .fail (kv (.int k (a.fdiv (2 ^ (min b.toNat k.bits)))))
  | _ => .fail

/-- Are two values alike, as the model compares them: cell by cell, in the order of the fields. -/
def eqA : Nat → TypeId → AV → AV → Option Bool
  | 0, _, _, _ => none
  | d + 1, t, x, y => match V.P.underlying t, x, y with
    | some (.int _), .int k a, .int k' b => bif decide (k = k') then some (a == b) else none
    | some .bool, .bool a, .bool b => some (a == b)
    | some .string, .str a, .str b => some (a.toList == b.toList)
    | some (.struct fs), .agg xs, .agg ys => bif V.P.stoodInHeld t then none else
      fs.toList.foldr (fun f r => bif f.name != "_" then
          match cut V f.type xs f.offset, cut V f.type ys f.offset with
          | some a, some b => match eqA d f.type a b, r with
            | some e, some r => some (e && r)
            | _, _ => none
          | _, _ => none
        else r) (some true)
    | _, _, _ => none

def opdo {α : Type} (x : Option Operand) (k : Option AV → Rd α) : Rd α := match x with | none => k none | some x => opd x fun v => k (some v)

/-- A bound of a slice expression; -1: it is none. -/
def bnd (d : Int) : Option AV → Int
  | none => d
  | some (.int _ n) => n
  | _ => -1

def sliceA (t : TypeId) (a : AV) (lo hi : Option AV) : Rd (AV × Wr) :=
  match a with
  | .str s => match V.P.underlying t with
    | some .string => .ask (decide (0 ≤ bnd 0 lo)) (.ask (decide (bnd 0 lo ≤ bnd s.size hi)) (.ask (decide (bnd s.size hi ≤ (s.size : Int)))
        (.ret (.str (s.extract (bnd 0 lo).toNat (bnd s.size hi).toNat), [])) .fail) .fail) .fail
    | _ => .fail
  | a => dataCell a fun v ws => match v with
    | .lst τ xs => bif sliceSz V t τ.sz then
        .ask (decide (0 ≤ bnd 0 lo)) (.ask (decide (bnd 0 lo ≤ bnd xs.length hi)) (.ask (decide (bnd xs.length hi ≤ (xs.length : Int)))
          (.ret (.lst τ ((xs.take (bnd xs.length hi).toNat).drop (bnd 0 lo).toNat), ws)) .fail) .fail) .fail
      else .fail
    | _ => .fail

/-- A slice expression that takes over the row. -/
def sliceTo (nid : Nat) (t : TypeId) (a : AV) (n : Int) : Rd (AV × Wr) :=
  match a with
  | .emp => match elemOf? V t with
    | some e => match sizeOf? V e with
      | some _ => .ask (decide (n = 0)) (.ret (.emp, [])) .fail
      | none => .fail
    | none => .fail
  | .own id => .rd (.m id) fun
    | .row e τ xs => bif sliceSz V t τ.sz then .rd (.m nid) fun
        | .undef => .ask (decide (0 ≤ n)) (.ask (decide (n ≤ (xs.length : Int)))
            (.ret (.own nid, [(id, .dead), (nid, .row e τ (xs.take n.toNat))])) .fail) .fail
        | _ => .fail
      else .fail
    | _ => .fail
  | _ => .fail

def sliceMv (nid : Nat) (t : TypeId) (a : AV) (lo hi : Option AV) : Rd (AV × Wr) :=
  match lo, hi with
  | none, some (.int _ n) => sliceTo V nid t a n
  | _, _ => .fail

/-- append of so many zeros onto nil. -/
def zerosA (nid : Nat) (ts : Array TypeId) (s x : AV) : Rd (AV × Wr) :=
  bif Nat.beq ts.size 2 then
    match s, x, V.P.underlying (ts.getD 1 0) with
    | .emp, .int .i64 n, some (.int _) => .ask (decide (0 ≤ n)) (.ask (decide (n ≤ maxElems))
        (ofOpt (elemOf? V (ts.getD 0 0)) fun e => ofOpt (V.E e) fun τ => ofOpt (zeroCells? V e) fun z => ofOpt (τ.decA z) fun y =>
          bif elemOk V e τ then .rd (.m nid) fun
            | .undef => .ret (.own nid, [(nid, .row e τ (List.replicate n.toNat y))])
            | _ => .fail
          else .fail) .fail) .fail
    | _, _, _ => .fail
  else .fail

def isConst : Operand → Bool
  | .const _ => true
  | _ => false

def cmpOf (op : BinOp) (r : Bool) : Option Bool := match op with | .eql => some r | .neq => some (!r) | _ => none

/-- A comparison with nil. -/
def nilCmp (op : BinOp) (t : TypeId) (yc : Bool) (a b : AV) : Option Bool :=
  match a, b, V.P.underlying t with
  | .lstn _ _, .emp, some (.slice _) => cmpOf op false
  | .emp, .emp, some (.slice _) => cmpOf op true
  | .ifc _ _, .cst .nilIface, some (.interface _) => cmpOf op false
  | .cst .nilIface, .cst .nilIface, some (.interface _) => bif yc then cmpOf op true else none
  | .bfn _ _, .cst .nilFunc, some (.func _ _ _) => cmpOf op false
  | _, _, _ => none

/-- A type's zero. -/
def zeroA? (t : TypeId) : Option AV := ((V.P.info? t).bind (·.zero)).map ofValue

/-- What a region's operation does: its value, and what it writes beside. -/
def evVal (fid : Nat) (o : Oper) : Rd (AV × Wr) :=
  let nid := (fid * 1024 + o.dst.getD 1023) * 64
  let pure (v : AV) : Rd (AV × Wr) := .ret (v, [])
  match o.op with
  | .move x | .assign x => opd x fun v => pure v
  | .pick c a b => opd c fun
    | .bool t => .ask t (opd a fun v => pure v) (opd b fun v => pure v)
    | _ => .fail
  | .alloc e => ofOpt (zeroCells? V e) fun cs => .rd (.m nid) fun
    | .undef => bare cs fun cs => .ret (.ptr nid 0, [(nid, .box cs)])
    | _ => .fail
  | .box _ x => opd x fun v => bif v.cells.all AV.one then .rd (.m nid) fun
    | .undef => bare v.cells fun cs => .ret (.ptr nid 0, [(nid, .box cs)])
    | _ => .fail
    else .fail
  | .build t parts => opds (parts.toList.map (·.2)) fun vs =>
      ofOpt (zeroCells? V t) fun z =>
      ofOpt (buildA V t z ((parts.toList.map (·.1)).zip vs)) fun cs => bare cs fun cs => pure (.agg cs)
  | .buildSlice t len parts => opds (parts.toList.map (·.2)) fun vs =>
      ofOpt (elemOf? V t) fun e => ofOpt (V.E e) fun τ => ofOpt (zeroCells? V e) fun z =>
      bif elemOk V e τ && Nat.ble (len * τ.sz) 16777216 then
        ofOpt (fillA (fun i => some (i * τ.sz, τ.sz)) ((List.replicate len z).flatten) ((parts.toList.map (·.1)).zip vs)) fun cs =>
        dataCells cs fun cs ws => ofOpt (rowsOf τ τ.sz len cs) fun xs => .rd (.m nid) fun
          | .undef => .ret (.own nid, ws ++ [(nid, .row e τ xs)])
          | _ => .fail
      else .fail
  | .load t a => opd a fun p => rdAt V t p fun v => pure v
  | .store t a x => opd a fun p => opd x fun v => wrAt V t p v fun ws => .ret (.undef, ws)
  | .nilCheck x => opd x fun
    | .ptr id off => pure (.ptr id off)
    | .eptr id i off => pure (.eptr id i off)
    | .lptr τ xs i off => pure (.lptr τ xs i off)
    | _ => .fail
  | .typeAssert x _ t ok => opd x fun a => match V.P.underlying t, a with
    | some (.interface _), _ => .fail
    | some _, .ifc u y => bif Nat.beq u t then pure (bif ok then .tup [y, .bool true] else y)
        else bif ok then ofOpt (zeroA? V t) fun z => pure (.tup [z, .bool false]) else .fail
    | _, _ => .fail
  | .binOp op t x y _ => opd x fun a => opd y fun b => match nilCmp V op t (isConst y) a b with | some r => pure (.bool r) | none => match a, b with
    | .int k m, .int k' n => bif decide (k = k') then arith op k m n pure else
        (match op with
        | .shl => .ask (decide (n < 0)) .fail (pure (.int k (wrapA k (m * 2 ^ (min n.toNat k.bits)))))
        | .shr => .ask (decide (n < 0)) .fail (pure (.int k (m.fdiv (2 ^ (min n.toNat k.bits)))))
        | _ => .fail)
    | .bool m, .bool n => match op with
      | .eql => ofOpt (eqA V 4 t (.bool m) (.bool n)) fun r => pure (.bool r)
      | .neq => ofOpt (eqA V 4 t (.bool m) (.bool n)) fun r => pure (.bool !r)
      | _ => .fail
    | .str m, .str n => match op with
      | .eql => pure (.bool (m.toList == n.toList))
      | .neq => pure (.bool (!(m.toList == n.toList)))
      | .add => .ask (fewB (m.size + n.size)) (pure (.str (m ++ n))) .fail
      | _ => .fail
    | .agg cs, .agg ds => match op with
      | .eql => bif V.P.eqGuardType V.P.depth t then .fail else ofOpt (eqA V 4 t (.agg cs) (.agg ds)) fun r => pure (.bool r)
      | .neq => bif V.P.eqGuardType V.P.depth t then .fail else ofOpt (eqA V 4 t (.agg cs) (.agg ds)) fun r => pure (.bool !r)
      | _ => .fail
    | .fn _ _, .cst .nilFunc => match V.P.underlying t, op with
      | some (.func _ _ _), .eql => pure (.bool false)
      | some (.func _ _ _), .neq => pure (.bool true)
      | _, _ => .fail
    | .cst .nilFunc, .cst .nilFunc => match V.P.underlying t, op with
      | some (.func _ _ _), .eql => pure (.bool true)
      | some (.func _ _ _), .neq => pure (.bool false)
      | _, _ => .fail
    | _, _ => .fail
  | .unOp op _ x => opd x fun a => match op, a with
    | .neg, .int k n => pure (.int k (wrapA k (0 - n)))
    | .not, .bool b => pure (.bool !b)
    | _, _ => .fail
  | .convert src dst x => opd x fun a => match V.P.underlying src, V.P.underlying dst, a with
    | some _, some (.int k), .int _ n => pure (.int k (k.wrap n))
    | _, _, _ => .fail
  | .fieldAddr s x f => opd x fun a => ofOpt (fieldOff V s f) fun n => addOff a n pure
  | .field s x f => opd x fun a => match a, V.P.underlying s with
    | .agg cs, some (.struct fs) => match fs[f]? with
      | some fl => ofOpt (cut V fl.type cs fl.offset) fun v => giveCut v pure
      | none => .fail
    | _, _ => .fail
  | .indexAddr t x ix => opd x fun a => opd ix fun i => match i with
    | .int _ n => idxAt V t a n pure
    | _ => .fail
  | .index t x ix => opd x fun a => opd ix fun i => match V.P.underlying t, a, i with
    | some .string, .str s, .int _ n => inBounds n s.size (pure (.int .u8 ((s.data.toList.getD n.toNat 0).toNat : Int)))
    | some (.array len e), .agg cs, .int _ n => ofOpt (sizeOf? V e) fun sz => inBounds n len (eachOne n len 0 fun i => ofOpt (cut V e cs (i * sz)) fun v => giveCut v pure)
    | _, _, _ => .fail
  | .slice t x lo hi none => opdo lo fun l => opdo hi fun h => opd x fun a => bif V.mv fid then sliceMv V nid t a l h else sliceA V t a l h
  | .extract x i => opd x fun a => match a with
    | .tup vs => ofOpt vs[i]? pure
    | _ => .fail
  | .makeFunc (.func f) first caps => bif Nat.beq first.size 0 then opds caps.toList fun vs => pure (.fn f vs)
      else bif Nat.beq caps.size 0 then opds first.toList fun vs => pure (.bfn f vs) else .fail
  | .makeInterface t x => opd x fun a => match V.P.underlying t with
    | some (.interface _) => .fail
    | some _ => pure (.ifc t a)
    | none => .fail
  | .makeSlice t l c => opd l fun a => opd c fun b => match a, b with
    | .int .i64 n, .int .i64 m => .ask (n == m) (.ask (decide (0 ≤ n)) (.ask (decide (n ≤ maxElems))
        (ofOpt (elemOf? V t) fun e => ofOpt (V.E e) fun τ => ofOpt (zeroCells? V e) fun z => ofOpt (τ.decA z) fun y =>
          bif elemOk V e τ then .rd (.m nid) fun
            | .undef => .ret (.own nid, [(nid, .row e τ (List.replicate n.toNat y))])
            | _ => .fail
          else .fail) .fail) .fail) .fail
    | _, _ => .fail
  | .call c => match c.callee with
    | .builtin .len => bif Nat.ble 1 c.argTypes.size then opds c.args.toList fun
      | [x] => match V.P.underlying (c.argTypes.getD 0 0), x with
        | some .string, .str s => pure (.i s.size)
        | some (.slice _), x => elems x (fun _ xs => pure (.i xs.length)) (pure (.i 0))
        | _, _ => .fail
      | _ => .fail
      else .fail
    | .builtin .cap => bif Nat.ble 1 c.argTypes.size then opds c.args.toList fun
      | [x] => match V.P.underlying (c.argTypes.getD 0 0), x with
        | some (.slice _), .emp => pure (.i 0)
        | _, _ => .fail
      | _ => .fail
      else .fail
    | .builtin .max => opds c.args.toList fun
      | [.int .i64 a, .int .i64 b] => pure (.i (if b > a then b else a))
      | _ => .fail
    | .builtin .min => opds c.args.toList fun
      | [.int .i64 a, .int .i64 b] => pure (.i (if b < a then b else a))
      | _ => .fail
    | .builtin .append => opds c.args.toList fun
      | [s, x] =>
        bif Nat.beq c.argTypes.size 2 && Nat.beq (c.argTypes.getD 0 0) (c.argTypes.getD 1 1) then
        ofOpt (elemOf? V (c.argTypes.getD 0 0)) fun e => ofOpt (V.E e) fun τ =>
        bif elemOk V e τ then
          .rd (.m nid) fun
          | .undef => elems x (fun σ ys => match Ty.eqTy σ τ with
              | some ⟨h⟩ => match s with
                | .emp => .ask (fewB ys.length) (.ret (.own nid, [(nid, .row e τ (h ▸ ys))])) .fail
                | .own id => .rd (.m id) fun
                  | .row e' ρ xs => bif Nat.beq e' e then match Ty.eqTy ρ τ with
                    | some ⟨g⟩ => .ask (fewB (xs.length + ys.length)) (.ret (.own nid, [(id, .dead), (nid, .row e τ ((g ▸ xs : List τ.den) ++ (h ▸ ys : List τ.den)))])) .fail
                    | none => .fail
                    else .fail
                  | _ => .fail
                | _ => .fail
              | none => .fail)
              (match s with
                | .emp => .ret (.own nid, [(nid, .row e τ [])])
                | .own id => .rd (.m id) fun
                  | .row e' ρ xs => bif Nat.beq e' e then match Ty.eqTy ρ τ with
                    | some ⟨g⟩ => .ret (.own nid, [(id, .dead), (nid, .row e τ (g ▸ xs))])
                    | none => .fail
                    else .fail
                  | _ => .fail
                | _ => .fail)
          | _ => .fail
        else .fail
        else zerosA V nid c.argTypes s x
      | _ => .fail
    | .value f => opd f fun
      | .fn f caps => match V.G f with
        | some s => (match caps with
          | [] => opds c.args.toList fun vs => argVals s.ak vs fun vs ws =>
            ofOpt (s.dec vs) fun a => .call (s.fn a) fun b =>
              match impRes nid (s.enc b) with
              | (v, ws') => freeAll ws' (.ret (v, (bif (s.enc b).lendsAny then ws else []) ++ ws'))
          | _ => .fail)
        | none => opds c.args.toList fun vs =>
          bif AV.stills (vs ++ caps) then .call (V.pure f (fid * 1024 + o.dst.getD 1023) (vs ++ caps)) fun p => freeAll p.2 (.ret (p.1, p.2)) else .fail
      | _ => .fail
    | _ => .fail
  | _ => .fail

/-- Is that a temporary of the frame? -/
def dstOk (nt : Nat) (d : Option Nat) : Bool := match d with | some d => Nat.blt d nt | none => true

inductive Ex where
  | normal
  | exit (id : Nat)
  | goto (l : Nat)
  | ret

/-- A cell, taken out of the store: what is of the call's own goes along. -/
def expoCell (κ : Kd) (v : AV) (ob : List (Nat × AV)) : Option (AV × List (Nat × AV)) :=
  match κ with
  | .own e τ => match v with
    | .own id => match look ob id with
      | .row e' σ xs => match Ty.eqTy σ τ with
        | some ⟨h⟩ => bif Nat.beq e' e then some (.ownv e τ (h ▸ xs), (id, .dead) :: ob) else none
        | none => none
      | _ => none
    | .emp => some (.ownv e τ [], ob)
    | _ => none
  | .lst τ => match v with
    | .own id => match look ob id with
      | .row _ σ xs => match Ty.eqTy σ τ with
        | some ⟨h⟩ => some (.lst τ (h ▸ xs), (id, .frz σ xs) :: ob)
        | none => none
      | .frz σ xs => match Ty.eqTy σ τ with
        | some ⟨h⟩ => some (.lst τ (h ▸ xs), ob)
        | none => none
      | _ => none
    | .lst σ xs => match Ty.eqTy σ τ with
        | some ⟨h⟩ => some (.lst τ (h ▸ xs), ob)
        | none => none
    | .emp => some (.lst τ [], ob)
    | _ => none
  | .any => match v with
    | .int _ _ | .bool _ | .str _ | .fn _ [] | .cst _ => some (v, ob)
    | _ => none
  | .fnc f => match v with
    | .fn g [] => bif Nat.beq g f then some (.fn f [], ob) else none
    | _ => none
  | .nil => none
  | .box _ => none

def expoCells : List Kd → List AV → List (Nat × AV) → Option (List AV × List (Nat × AV))
  | [], [], ob => some ([], ob)
  | κ :: ks, v :: vs, ob => match expoCell κ v ob with
    | some (x, ob) => match expoCells ks vs ob with
      | some (xs, ob) => some (x :: xs, ob)
      | none => none
    | none => none
  | _, _, _ => none

/-- A slot, taken out of the store. -/
def expoSlot (κ : Kd) (v : AV) (ob : List (Nat × AV)) : Option (AV × List (Nat × AV)) :=
  match κ with
  | .box ks => match v with
    | .ptr id 0 => match look ob id with
      | .box cs => match expoCells ks cs ((id, .dead) :: ob) with
        | some (xs, ob) => some (.box xs, ob)
        | none => none
      | _ => none
    | .agg cs => match expoCells ks cs ob with
        | some (xs, ob) => some (.agg xs, ob)
        | none => none
    | _ => none
  | κ => expoCell κ v ob

def expoSlots : List (Nat × Kd) → List (Nat × AV) → List (Nat × AV) → Option (List AV × List (Nat × AV))
  | [], _, ob => some ([], ob)
  | (t, κ) :: r, tm, ob => match expoSlot κ (look tm t) ob with
    | some (x, ob) => match expoSlots r tm ob with
      | some (xs, ob) => some (x :: xs, ob)
      | none => none
    | none => none


def impSlot (id : Nat) (v : AV) : AV × Wr :=
  match v with
  | .box cs => match impCells (id + 1) cs with
    | (xs, ws, _) => (.ptr id 0, (id, .box xs) :: ws)
  | .agg cs => match impCells (id + 1) cs with
    | (xs, ws, _) => (.agg xs, ws)
  | v => match impCell id v with
    | (x, ws, _) => (x, ws)

def build : List (Nat × Kd) → List AV → St
  | (t, _) :: ks, v :: vs => match impSlot ((1024 + t) * 64) v with
    | (x, ws) => match build ks vs with
      | ⟨tm, ob⟩ => ⟨(t, x) :: tm, ws ++ ob⟩
  | _, _ => ⟨[], []⟩

/-- No number twice. -/
def apartN : List (Nat × AV) → Bool
  | [] => true
  | p :: r => bif r.all fun q => !(Nat.beq p.1 q.1) then apartN r else false

/-- The state at a loop's head, and nothing else of it. -/
def norm (ks : List (Nat × Kd)) (σ : St) : Option (List AV) :=
  match expoSlots ks σ.tm σ.ob with
  | some (xs, _) => bif apartN (build ks xs).ob then some xs else none
  | none => none

/-- A loop that is known. -/
structure LSpec where
  keep : List (Nat × Kd)
  σ : Type
  ρ : Type
  dec : List AV → Option σ
  run : σ → Option ρ
  enc : ρ → Ex × List AV
  /-- what lives behind it, by the way in which it is left -/
  keepX : Ex → List (Nat × Kd)
  out : (R : Type) → ρ → (Ex → List AV → R) → R
  law : ∀ (R : Type) (y : ρ) (k : Ex → List AV → R), out R y k = k (enc y).1 (enc y).2

/-- Rounds of a loop from its head. -/
def iterK {ρ : Type} (body : St → (Ex → St → Option ρ) → Option ρ) (ks : List (Nat × Kd)) (k : Ex → List AV → Option ρ) : Nat → List AV → Option ρ
  | 0, _ => none
  | n + 1, hd => body (build ks hd) fun e σ => match norm ks σ with
    | some hd => match e with
      | .normal => iterK body ks k n hd
      | e => k e hd
    | none => none

/-- Rounds one by one, with the whole state. -/
def rollK {ρ : Type} (body : St → (Ex → St → Option ρ) → Option ρ) (k : Ex → St → Option ρ) : Nat → St → Option ρ
  | 0, _ => none
  | n + 1, σ => body σ fun e σ => match e with
    | .normal => rollK body k n σ
    | e => k e σ

def firstRegion : Code → Nat
  | .region id _ _ => id
  | .seq a _ => firstRegion a
  | .block _ c => firstRegion c
  | .loop c => firstRegion c
  | .scope c => firstRegion c
  | _ => 0

/-! Regions. -/

def valOf (σ : St) : Operand → AV
  | .tmp t => look σ.tm t
  | .const v => ofValue v
  | .func f => .fn f []
  | .global _ => .undef

/-- Is an operation a call that is walked into? Its function, and its arguments. -/
def inlined (σ : St) (o : Oper) : Option (FuncId × List AV) :=
  match o.op with
  | .call c => match c.callee with
    | .value f => match valOf σ f with
      | .fn f caps => match caps, V.G f with
        | [], some _ => none
        | caps, _ => some (f, c.args.toList.map (valOf σ) ++ caps)
      | .bfn f first => some (f, first ++ c.args.toList.map (valOf σ))
      | _ => none
    | _ => none
  | _ => none

abbrev Inl (ρ : Type) := FuncId → Nat → List AV → List (Nat × AV) → (AV → List (Nat × AV) → Option ρ) → Option ρ

def actK {ρ : Type} (inl : Inl ρ) (fid nt : Nat) (o : Oper) (σ : St) (k : St → Option ρ) : Option ρ :=
  bif dstOk nt o.dst then
    match inlined V σ o with
    | some (f, args) => inl f (fid * 1024 + o.dst.getD 1023) args σ.ob fun v ob => k (St.put ⟨σ.tm, ob⟩ o.dst v [])
    | none => (evVal V fid o).runK σ [] fun p _ => k (σ.put o.dst p.1 p.2)
  else none

def opK {ρ : Type} (inl : Inl ρ) (fid nt : Nat) (ops : Array Oper) (o : Oper) (σ : St) (k : St → Option ρ) : Option ρ :=
  match o.guard with
  | none => actK V inl fid nt o σ k
  | some (j, want) => match (ops[j]?).bind (·.dst) with
    | some d => match look σ.tm d with
      | .bool b => bif b then
          (bif want then actK V inl fid nt o ⟨(d, .bool true) :: σ.tm, σ.ob⟩ k else bif dstOk nt o.dst then k (St.put ⟨(d, .bool true) :: σ.tm, σ.ob⟩ o.dst (.tup []) []) else none)
        else
          (bif want then bif dstOk nt o.dst then k (St.put ⟨(d, .bool false) :: σ.tm, σ.ob⟩ o.dst (.tup []) []) else none else actK V inl fid nt o ⟨(d, .bool false) :: σ.tm, σ.ob⟩ k)
      | .tup [] => bif dstOk nt o.dst then k (σ.put o.dst (.tup []) []) else none
      | _ => none
    | none => none

def opsK {ρ : Type} (inl : Inl ρ) (fid nt : Nat) (ops : Array Oper) : List Oper → St → (St → Option ρ) → Option ρ
  | [], σ, k => k σ
  | o :: r, σ, k => opK V inl fid nt ops o σ fun σ => opsK inl fid nt ops r σ k

/-- An operation's transaction: what it read, and what it wrote. -/
structure Tx where
  rs : List Loc
  dst : Option Nat
  v : AV
  ws : Wr

def Loc.mem (l : Loc) : List Loc → Bool
  | [] => false
  | a :: r => bif Loc.beq a l then true else Loc.mem l r

/-- The places that it writes. -/
def Tx.wl (x : Tx) : List Loc :=
  match x.dst with
  | some d => .t d :: x.ws.map fun p => .m p.1
  | none => x.ws.map fun p => .m p.1

def apartL (a b : List Loc) : Bool := a.all fun l => !(l.mem b)

/-- Two transactions of which neither sees what the other one writes. -/
def Tx.apart (a b : Tx) : Bool := apartL a.wl b.rs && apartL b.wl a.rs && apartL a.wl b.wl

/-- Which operations come ahead of which, as a number's bits: Region.before. -/
def txOk (bef : List Nat) (done : List (Nat × Tx)) (i : Nat) (x : Tx) : Bool :=
  done.all fun p => (bef.getD i 0).testBit p.1 || p.2.apart x

/-- How many operations, from the first one on, may come up in an open order: behind them each waits for all ahead of it. -/
def waitsAll (bef : List Nat) (i : Nat) : Bool := (List.range i).all fun j => (bef.getD i 0).testBit j

def drawnLen (bef : List Nat) : Nat → Nat
  | 0 => 0
  | n + 1 => bif waitsAll bef n then drawnLen bef n else n + 1

/-- An operation of a region that draws its order, and the rest. -/
def txK {ρ : Type} (fid nt : Nat) (ops : Array Oper) (bef : List Nat) (o : Oper) (i : Nat) (done : List (Nat × Tx)) (σ : St)
    (k : List (Nat × Tx) → St → Option ρ) : Option ρ :=
  let act (σ : St) (log : List Loc) : Option ρ := (evVal V fid o).runK σ log fun p rs =>
    bif txOk bef done i ⟨rs, o.dst, p.1, p.2⟩ then k ((i, ⟨rs, o.dst, p.1, p.2⟩) :: done) (σ.put o.dst p.1 p.2) else none
  let skip (σ : St) (log : List Loc) : Option ρ :=
    bif txOk bef done i ⟨log, o.dst, .tup [], []⟩ then k ((i, ⟨log, o.dst, .tup [], []⟩) :: done) (σ.put o.dst (.tup []) []) else none
  bif dstOk nt o.dst then
    match o.guard with
    | none => act σ []
    | some (j, want) => match (ops[j]?).bind (·.dst) with
      | some d => match look σ.tm d with
        | .bool b => bif b then
            (bif want then act ⟨(d, .bool true) :: σ.tm, σ.ob⟩ [.t d] else skip ⟨(d, .bool true) :: σ.tm, σ.ob⟩ [.t d])
          else
            (bif want then skip ⟨(d, .bool false) :: σ.tm, σ.ob⟩ [.t d] else act ⟨(d, .bool false) :: σ.tm, σ.ob⟩ [.t d])
        | .tup [] => skip σ [.t d]
        | _ => none
      | none => none
  else none

def txsK {ρ : Type} (fid nt : Nat) (ops : Array Oper) (bef : List Nat) : List Oper → Nat → List (Nat × Tx) → St → (St → Option ρ) → Option ρ
  | [], _, _, σ, k => k σ
  | o :: r, i, done, σ, k => txK V fid nt ops bef o i done σ fun done σ => txsK fid nt ops bef r (i + 1) done σ k

/-- Every edge goes back. -/
def backOk : Nat → List Oper → Bool
  | _, [] => true
  | i, o :: r => bif o.after.toList.all fun e => !(Region.binds .any e) || Nat.blt e.on i then backOk (i + 1) r else false

/-- A list of numbers, each worked out first. -/
def forceL {α : Type} : List Nat → (List Nat → α) → α
  | [], k => k []
  | n :: r, k => CheckFast.force n fun n => forceL r fun r => k (n :: r)

theorem forceL_eq {α : Type} : ∀ (l : List Nat) (k : List Nat → α), forceL l k = k l
  | [], _ => rfl
  | n :: r, k => by rw [forceL, CheckFast.force_eq, forceL_eq r]

def regK {ρ : Type} (inl : Inl ρ) (fid nt : Nat) (ops : Array Oper) (draw : Bool) (σ : St) (k : St → Option ρ) : Option ρ :=
  bif draw then
    forceL (CheckFast.beforeL ops.toList 0 []) fun bef => CheckFast.force (drawnLen bef ops.toList.length) fun n =>
    bif backOk 0 ops.toList then txsK V fid nt ops bef (ops.toList.take n) 0 [] σ fun σ => opsK V inl fid nt ops (ops.toList.drop n) σ k else none
  else opsK V inl fid nt ops ops.toList σ k

/-- Code, and then what goes on. 'L': its loops that are known; the others go round so often at most. -/
def evK {ρ : Type} (L : Nat → Option LSpec) (inl : Inl ρ) (fid nt rounds : Nat) : Code → St → (Ex → St → Option ρ) → Option ρ
  | .skip, σ, k => k .normal σ
  | .label _, σ, k => k .normal σ
  | .region _ ops draw, σ, k => regK V inl fid nt ops draw σ fun σ => k .normal σ
  | .seq a b, σ, k => evK L inl fid nt rounds a σ fun e σ => match e with
    | .normal => evK L inl fid nt rounds b σ k
    | e => k e σ
  | .cond c a b, σ, k => match valOf σ c with
    | .bool t => bif t then evK L inl fid nt rounds a σ k else evK L inl fid nt rounds b σ k
    | _ => none
  | .scope c, σ, k => evK L inl fid nt rounds c σ fun e σ => match e with
    | .goto _ => none
    | e => k e σ
  | .block id c, σ, k => evK L inl fid nt rounds c σ fun e σ => match e with
    | .exit id' => bif Nat.beq id' id then k .normal σ else k (.exit id') σ
    | e => k e σ
  | .loop c, σ, k => match L (firstRegion c) with
    | none => rollK (fun σ k => evK L inl fid nt rounds c σ k) k rounds σ
    | some s => match norm s.keep σ with
      | none => none
      | some hd => match s.dec hd with
        | none => none
        | some x => match s.run x with
          | none => none
          | some y => s.out _ y fun e hd => k e (build (s.keepX e) hd)
  | .exit id, σ, k => k (.exit id) σ
  | .ret, σ, k => k .ret σ
  | .goto l, σ, k => k (.goto l) σ
  | _, _, _ => none

/-! Functions. -/

def resRd {α : Type} : List ResultVar → (List AV → Rd α) → Rd α
  | [], k => k []
  | .tmp t :: r, k => .rd (.t t) fun v => resRd r fun vs => k (v :: vs)
  | .cell a t :: r, k => .rd (.t a) fun p => rdAt V t p fun v => resRd r fun vs => k (v :: vs)

def resOf : List AV → AV
  | [v] => v
  | vs => .tup vs

def paramsFrom : Nat → List AV → List (Nat × AV)
  | _, [] => []
  | i, v :: r => (i, v) :: paramsFrom (i + 1) r

def fnK {ρ : Type} (L : Nat → Option LSpec) (inl : Inl ρ) (rounds : Nat) (f : FuncId) (fid : Nat) (args : List AV) (ob : List (Nat × AV))
    (k : AV → List (Nat × AV) → Option ρ) : Option ρ :=
  match V.P.funcs[f]? with
  | some fn => match fn.body with
    | some c => bif Nat.ble args.length fn.ntmps then evK V L inl fid fn.ntmps rounds c ⟨paramsFrom 0 args, ob⟩ fun e σ =>
      let fin : Option ρ := (resRd V fn.results.toList fun vs => .ret (resOf vs)).runK σ [] fun v _ => k v σ.ob
      match e with
      | .normal => fin
      | .ret => fin
      | _ => none
      else none
    | none => none
  | none => none

/-- Functions that are walked into, so deep. -/
def inlK {ρ : Type} (rounds : Nat) : Nat → Inl ρ
  | 0 => fun _ _ _ _ _ => none
  | d + 1 => fun f fid args ob k => bif V.ent f then fnK V (fun _ => none) (inlK rounds d) rounds f fid args ob k else none

/-- A result's part. -/
def expoVal (κ : Kd) (v : AV) (ob : List (Nat × AV)) : Option (AV × List (Nat × AV)) :=
  match κ with
  | .box ks => match v with
    | .agg cs => match expoCells ks cs ob with
        | some (xs, ob) => some (.agg xs, ob)
        | none => none
    | _ => none
  | κ => expoCell κ v ob

def expoVals : List Kd → List AV → List (Nat × AV) → Option (List AV × List (Nat × AV))
  | [], [], ob => some ([], ob)
  | κ :: ks, v :: vs, ob => match expoVal κ v ob with
    | some (x, ob) => match expoVals ks vs ob with
      | some (xs, ob) => some (x :: xs, ob)
      | none => none
    | none => none
  | _, _, _ => none

/-- A result, taken out of the store. -/
def expoRes (ks : List Kd) (v : AV) (ob : List (Nat × AV)) : Option AV :=
  match v with
  | .tup vs => match expoVals ks vs ob with
    | some (xs, _) => some (.tup xs)
    | none => none
  | v => match ks with
    | [κ] => match expoVal κ v ob with
      | some (x, _) => some x
      | none => none
    | _ => none

/-- A function, from its arguments to its result. -/
def runFn {ρ : Type} (L : Nat → Option LSpec) (rounds depth : Nat) (f : FuncId) (rk : List Kd) (args : List AV) (k : AV → Option ρ) : Option ρ :=
  fnK V L (inlK V rounds depth) rounds f 1 args [] fun v ob => match expoRes rk v ob with
    | some r => k r
    | none => none

end

end Go.Proofs.Mill
