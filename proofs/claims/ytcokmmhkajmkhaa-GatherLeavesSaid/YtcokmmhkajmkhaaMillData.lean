/- The plain data of the machine: what a slice's elements are, as Lean structures, and how their cells lie in memory. -/
import Derived.WalkKit
import Derived.CheckFast
set_option linter.all false
namespace Go.Proofs.Mill

structure Op where
  tag : Int
  v : Int
  deriving DecidableEq
structure Entry where
  t : Int
  op : Op
  deriving DecidableEq
structure Kid where
  t : Int
  ahead : Int
  deriving DecidableEq
structure Mark where
  t : Int
  item : Int
  op : Op
  prior : Int
  step : Int
  deriving DecidableEq
structure Event where
  kind : Int
  t : Int
  item : Int
  op : Op
  prior : Int
  did : Bool
  step : Int
  deriving DecidableEq
structure Thread where
  phase : Int
  item : Int
  op : Op
  batch : List Entry
  kids : List Kid
  held : List Int
  stop : Int
  node : Int
  at_ : Int
  layer : Int
  left : Int
  width : Int
  who : Int
  x : Int
  y : Int
  until_ : Int
  deriving DecidableEq
structure SEntry where
  kind : Int
  t : Int
  item : Int
  op : Op
  deriving DecidableEq
structure Want where
  item : Int
  k : Int
  deriving DecidableEq
structure SCall where
  kind : Int
  t : Int
  a : Want
  b : Want
  deriving DecidableEq
structure Client where
  call : SCall
  stage : Int
  deriving DecidableEq
structure Reply where
  t : Int
  kind : Int
  granted : Int
  deriving DecidableEq

/-- What a slice's element may be. -/
inductive Ty where
  | int | u8 | str | entry | kid | mark | event | thread | sentry | want | client | reply
  | lst (t : Ty)

def Ty.den : Ty → Type
  | .int => Int
  | .u8 => Int
  | .str => ByteArray
  | .entry => Entry
  | .kid => Kid
  | .mark => Mark
  | .event => Event
  | .thread => Thread
  | .sentry => SEntry
  | .want => Want
  | .client => Client
  | .reply => Reply
  | .lst t => List t.den

/-- Plain data, cell by cell. -/
inductive D where
  | int (k : IntKind) (n : Int)
  | bool (b : Bool)
  | str (s : ByteArray)
  | lst (sz : Nat) (rows : List (List D))

abbrev D.i (n : Int) : D := .int .i64 n

def encInt (n : Int) : List D := [.i n]
def encU8 (n : Int) : List D := [.int .u8 n]
def encStr (s : ByteArray) : List D := [.str s]
def encEntry (e : Entry) : List D := [.i e.t, .i e.op.tag, .i e.op.v]
def encKid (e : Kid) : List D := [.i e.t, .i e.ahead]
def encMark (e : Mark) : List D := [.i e.t, .i e.item, .i e.op.tag, .i e.op.v, .i e.prior, .i e.step]
def encEvent (e : Event) : List D := [.i e.kind, .i e.t, .i e.item, .i e.op.tag, .i e.op.v, .i e.prior, .bool e.did, .i e.step]
def encThread (e : Thread) : List D :=
  [.i e.phase, .i e.item, .i e.op.tag, .i e.op.v, .lst 3 (e.batch.map encEntry), .lst 2 (e.kids.map encKid), .lst 1 (e.held.map encInt),
   .i e.stop, .i e.node, .i e.at_, .i e.layer, .i e.left, .i e.width, .i e.who, .i e.x, .i e.y, .i e.until_]
def encSEntry (e : SEntry) : List D := [.i e.kind, .i e.t, .i e.item, .i e.op.tag, .i e.op.v]
def encWant (e : Want) : List D := [.i e.item, .i e.k]
def encClient (e : Client) : List D := [.i e.call.kind, .i e.call.t, .i e.call.a.item, .i e.call.a.k, .i e.call.b.item, .i e.call.b.k, .i e.stage]
def encReply (e : Reply) : List D := [.i e.t, .i e.kind, .i e.granted]

/-- How many cells an element has. -/
def Ty.sz : Ty → Nat
  | .int => 1 | .u8 => 1 | .str => 1 | .entry => 3 | .kid => 2 | .mark => 6 | .event => 8 | .thread => 17 | .sentry => 5 | .want => 2 | .client => 7 | .reply => 3
  | .lst _ => 1

def Ty.enc : (τ : Ty) → τ.den → List D
  | .int => encInt
  | .u8 => encU8
  | .str => encStr
  | .entry => encEntry
  | .kid => encKid
  | .mark => encMark
  | .event => encEvent
  | .thread => encThread
  | .sentry => encSEntry
  | .want => encWant
  | .client => encClient
  | .reply => encReply
  | .lst t => fun xs => [.lst t.sz (xs.map t.enc)]

theorem Ty.enc_length (τ : Ty) (x : τ.den) : (τ.enc x).length = τ.sz := by
  cases τ <;> rfl

theorem Ty.sz_pos (τ : Ty) : 0 < τ.sz := by cases τ <;> simp [Ty.sz]

def Ty.dflt : (τ : Ty) → τ.den
  | .int => (0 : Int)
  | .u8 => (0 : Int)
  | .str => ByteArray.empty
  | .entry => (⟨0, ⟨0, 0⟩⟩ : Entry)
  | .kid => (⟨0, 0⟩ : Kid)
  | .mark => (⟨0, 0, ⟨0, 0⟩, 0, 0⟩ : Mark)
  | .event => (⟨0, 0, 0, ⟨0, 0⟩, 0, false, 0⟩ : Event)
  | .thread => (⟨0, 0, ⟨0, 0⟩, [], [], [], 0, 0, 0, 0, 0, 0, 0, 0, 0, 0⟩ : Thread)
  | .sentry => (⟨0, 0, 0, ⟨0, 0⟩⟩ : SEntry)
  | .want => (⟨0, 0⟩ : Want)
  | .client => (⟨⟨0, 0, ⟨0, 0⟩, ⟨0, 0⟩⟩, 0⟩ : Client)
  | .reply => (⟨0, 0, 0⟩ : Reply)
  | .lst _ => []

/-- A value of the machine as the evaluator knows it. -/
inductive AV where
  | undef
  | int (k : IntKind) (n : Int)
  | bool (b : Bool)
  | str (s : ByteArray)
  /-- a slice whose elements nobody writes any more -/
  | lst (τ : Ty) (xs : List τ.den)
  /-- such a slice, not nil -/
  | lstn (τ : Ty) (xs : List τ.den)
  /-- a slice of length 0 and capacity 0 -/
  | emp
  /-- a slice of the call's own: its elements stand in the store -/
  | own (id : Nat)
  /-- the same, on its way to the caller -/
  | ownv (e : TypeId) (τ : Ty) (xs : List τ.den)
  | ptr (id : Nat) (off : Nat)
  | eptr (id : Nat) (i : Nat) (off : Nat)
  | lptr (τ : Ty) (xs : List τ.den) (i : Nat) (off : Nat)
  | agg (cs : List AV)
  | tup (vs : List AV)
  | fn (f : FuncId) (caps : List AV)
  /-- a method of a value -/
  | bfn (f : FuncId) (first : List AV)
  | cst (v : Value)
  | ifc (t : TypeId) (x : AV)
  /-- objects of the store -/
  | box (cs : List AV)
  | row (e : TypeId) (τ : Ty) (xs : List τ.den)
  | frz (τ : Ty) (xs : List τ.den)
  | dead

abbrev AV.i (n : Int) : AV := .int .i64 n

/-- An element's cells as values. -/
def Ty.encA : (τ : Ty) → τ.den → List AV
  | .int => fun (n : Int) => [.i n]
  | .u8 => fun (n : Int) => [.int .u8 n]
  | .str => fun (s : ByteArray) => [.str s]
  | .entry => fun (e : Entry) => [.i e.t, .i e.op.tag, .i e.op.v]
  | .kid => fun (e : Kid) => [.i e.t, .i e.ahead]
  | .mark => fun (e : Mark) => [.i e.t, .i e.item, .i e.op.tag, .i e.op.v, .i e.prior, .i e.step]
  | .event => fun (e : Event) => [.i e.kind, .i e.t, .i e.item, .i e.op.tag, .i e.op.v, .i e.prior, .bool e.did, .i e.step]
  | .thread => fun (e : Thread) =>
    [.i e.phase, .i e.item, .i e.op.tag, .i e.op.v, .lst .entry e.batch, .lst .kid e.kids, .lst .int e.held,
     .i e.stop, .i e.node, .i e.at_, .i e.layer, .i e.left, .i e.width, .i e.who, .i e.x, .i e.y, .i e.until_]
  | .sentry => fun (e : SEntry) => [.i e.kind, .i e.t, .i e.item, .i e.op.tag, .i e.op.v]
  | .want => fun (e : Want) => [.i e.item, .i e.k]
  | .client => fun (e : Client) => [.i e.call.kind, .i e.call.t, .i e.call.a.item, .i e.call.a.k, .i e.call.b.item, .i e.call.b.k, .i e.stage]
  | .reply => fun (e : Reply) => [.i e.t, .i e.kind, .i e.granted]
  | .lst t => fun (xs : List t.den) => [.lst t xs]

/-- A value that is plain data. -/
def AV.toD : AV → Option D
  | .int k n => some (.int k n)
  | .bool b => some (.bool b)
  | .str s => some (.str s)
  | .lst τ xs => some (.lst τ.sz (xs.map τ.enc))
  | _ => none

theorem Ty.encA_toD (τ : Ty) (x : τ.den) : (τ.encA x).map AV.toD = (τ.enc x).map some := by
  cases τ <;> rfl

/-! Cells read back. -/
def AV.int? : AV → Option Int
  | .int .i64 n => some n
  | _ => none
def AV.ints? : AV → Option (List Int)
  | .lst .int xs => some xs
  | .emp => some []
  | _ => none
def AV.entries? : AV → Option (List Entry)
  | .lst .entry xs => some xs
  | .emp => some []
  | _ => none
def AV.kids? : AV → Option (List Kid)
  | .lst .kid xs => some xs
  | .emp => some []
  | _ => none

def Ty.eqTy : (a b : Ty) → Option (PLift (a = b))
  | .int, .int => some ⟨rfl⟩
  | .u8, .u8 => some ⟨rfl⟩
  | .str, .str => some ⟨rfl⟩
  | .entry, .entry => some ⟨rfl⟩
  | .kid, .kid => some ⟨rfl⟩
  | .mark, .mark => some ⟨rfl⟩
  | .event, .event => some ⟨rfl⟩
  | .thread, .thread => some ⟨rfl⟩
  | .sentry, .sentry => some ⟨rfl⟩
  | .want, .want => some ⟨rfl⟩
  | .client, .client => some ⟨rfl⟩
  | .reply, .reply => some ⟨rfl⟩
  | .lst a, .lst b => match Ty.eqTy a b with
    | some ⟨h⟩ => some ⟨congrArg Ty.lst h⟩
    | none => none
  | _, _ => none

/-- A slice's elements, of a type. -/
def AV.list? (τ : Ty) : AV → Option (List τ.den)
  | .lst σ xs => match Ty.eqTy σ τ with
    | some ⟨h⟩ => some (h ▸ xs)
    | none => none
  | .emp => some []
  | _ => none

def decInt : List AV → Option Int
  | [.int .i64 a] => some a
  | _ => none
def decU8 : List AV → Option Int
  | [.int .u8 a] => some a
  | _ => none
def decStr : List AV → Option ByteArray
  | [.str s] => some s
  | _ => none
def decEntry : List AV → Option Entry
  | [.int .i64 a, .int .i64 b, .int .i64 c] => some (⟨a, ⟨b, c⟩⟩ : Entry)
  | _ => none
def decKid : List AV → Option Kid
  | [.int .i64 a, .int .i64 b] => some (⟨a, b⟩ : Kid)
  | _ => none
def decMark : List AV → Option Mark
  | [.int .i64 a, .int .i64 b, .int .i64 c, .int .i64 d, .int .i64 e, .int .i64 f] => some (⟨a, b, ⟨c, d⟩, e, f⟩ : Mark)
  | _ => none
def decSEntry : List AV → Option SEntry
  | [.int .i64 a, .int .i64 b, .int .i64 c, .int .i64 d, .int .i64 e] => some (⟨a, b, c, ⟨d, e⟩⟩ : SEntry)
  | _ => none
def decWant : List AV → Option Want
  | [.int .i64 a, .int .i64 b] => some (⟨a, b⟩ : Want)
  | _ => none
def decClient : List AV → Option Client
  | [.int .i64 a, .int .i64 b, .int .i64 c, .int .i64 d, .int .i64 e, .int .i64 f, .int .i64 g] => some (⟨⟨a, b, ⟨c, d⟩, ⟨e, f⟩⟩, g⟩ : Client)
  | _ => none
def decReply : List AV → Option Reply
  | [.int .i64 a, .int .i64 b, .int .i64 c] => some (⟨a, b, c⟩ : Reply)
  | _ => none
def decEvent : List AV → Option Event
  | [.int .i64 a, .int .i64 b, .int .i64 c, .int .i64 d, .int .i64 e, .int .i64 f, .bool g, .int .i64 h] => some ⟨a, b, c, ⟨d, e⟩, f, g, h⟩
  | _ => none
def decThread : List AV → Option Thread
  | [.int .i64 a, .int .i64 b, .int .i64 c, .int .i64 d, bt, ks, hs, .int .i64 e, .int .i64 f, .int .i64 g, .int .i64 h, .int .i64 i, .int .i64 j, .int .i64 k, .int .i64 l, .int .i64 m, .int .i64 n] =>
    match bt.entries?, ks.kids?, hs.ints? with
    | some bt, some ks, some hs => some ⟨a, b, ⟨c, d⟩, bt, ks, hs, e, f, g, h, i, j, k, l, m, n⟩
    | _, _, _ => none
  | _ => none
def decLst (t : Ty) : List AV → Option (List t.den)
  | [x] => x.list? t
  | _ => none

def Ty.decA : (τ : Ty) → List AV → Option τ.den
  | .int => decInt
  | .u8 => decU8
  | .str => decStr
  | .entry => decEntry
  | .kid => decKid
  | .mark => decMark
  | .event => decEvent
  | .thread => decThread
  | .sentry => decSEntry
  | .want => decWant
  | .client => decClient
  | .reply => decReply
  | .lst t => decLst t

end Go.Proofs.Mill
