/- The program's structs, as Lean structures. -/
import Derived.Test.YtcokmmhkajmkhaaMillCodec
set_option linter.all false
namespace Go.Proofs.Mill

def celOp : Cel := celAs (celApp (celInt .i64) (celInt .i64)) Op (fun y => ⟨y.1, y.2⟩) (fun x => (x.tag, x.v)) (fun _ => rfl)

def celEntry : Cel := celAs (celApp (celInt .i64) celOp) Entry (fun y => ⟨y.1, y.2⟩) (fun x => (x.t, x.op)) (fun _ => rfl)

def celKid : Cel := celAs (celApp (celInt .i64) (celInt .i64)) Kid (fun y => ⟨y.1, y.2⟩) (fun x => (x.t, x.ahead)) (fun _ => rfl)

def celMark : Cel := celAs (celApp (celInt .i64) (celApp (celInt .i64) (celApp celOp (celApp (celInt .i64) (celInt .i64))))) Mark (fun y => ⟨y.1, y.2.1, y.2.2.1, y.2.2.2.1, y.2.2.2.2⟩) (fun x => (x.t, (x.item, (x.op, (x.prior, x.step))))) (fun _ => rfl)

def celEvent : Cel := celAs (celApp (celInt .i64) (celApp (celInt .i64) (celApp (celInt .i64) (celApp celOp (celApp (celInt .i64) (celApp celBool (celInt .i64))))))) Event (fun y => ⟨y.1, y.2.1, y.2.2.1, y.2.2.2.1, y.2.2.2.2.1, y.2.2.2.2.2.1, y.2.2.2.2.2.2⟩) (fun x => (x.kind, (x.t, (x.item, (x.op, (x.prior, (x.did, x.step))))))) (fun _ => rfl)

def celThread : Cel := celAs (celApp (celInt .i64) (celApp (celInt .i64) (celApp celOp (celApp (celLst .entry) (celApp (celLst .kid) (celApp (celLst .int) (celApp (celInt .i64) (celApp (celInt .i64) (celApp (celInt .i64) (celApp (celInt .i64) (celApp (celInt .i64) (celApp (celInt .i64) (celApp (celInt .i64) (celApp (celInt .i64) (celApp (celInt .i64) (celInt .i64)))))))))))))))) Thread (fun y => ⟨y.1, y.2.1, y.2.2.1, y.2.2.2.1, y.2.2.2.2.1, y.2.2.2.2.2.1, y.2.2.2.2.2.2.1, y.2.2.2.2.2.2.2.1, y.2.2.2.2.2.2.2.2.1, y.2.2.2.2.2.2.2.2.2.1, y.2.2.2.2.2.2.2.2.2.2.1, y.2.2.2.2.2.2.2.2.2.2.2.1, y.2.2.2.2.2.2.2.2.2.2.2.2.1, y.2.2.2.2.2.2.2.2.2.2.2.2.2.1, y.2.2.2.2.2.2.2.2.2.2.2.2.2.2.1, y.2.2.2.2.2.2.2.2.2.2.2.2.2.2.2⟩) (fun x => (x.phase, (x.item, (x.op, (x.batch, (x.kids, (x.held, (x.stop, (x.node, (x.at_, (x.layer, (x.left, (x.width, (x.who, (x.x, (x.y, x.until_)))))))))))))))) (fun _ => rfl)

def celSEntry : Cel := celAs (celApp (celInt .i64) (celApp (celInt .i64) (celApp (celInt .i64) celOp))) SEntry (fun y => ⟨y.1, y.2.1, y.2.2.1, y.2.2.2⟩) (fun x => (x.kind, (x.t, (x.item, x.op)))) (fun _ => rfl)

def celWant : Cel := celAs (celApp (celInt .i64) (celInt .i64)) Want (fun y => ⟨y.1, y.2⟩) (fun x => (x.item, x.k)) (fun _ => rfl)

def celSCall : Cel := celAs (celApp (celInt .i64) (celApp (celInt .i64) (celApp celWant celWant))) SCall (fun y => ⟨y.1, y.2.1, y.2.2.1, y.2.2.2⟩) (fun x => (x.kind, (x.t, (x.a, x.b)))) (fun _ => rfl)

def celClient : Cel := celAs (celApp celSCall (celInt .i64)) Client (fun y => ⟨y.1, y.2⟩) (fun x => (x.call, x.stage)) (fun _ => rfl)

def celReply : Cel := celAs (celApp (celInt .i64) (celApp (celInt .i64) (celInt .i64))) Reply (fun y => ⟨y.1, y.2.1, y.2.2⟩) (fun x => (x.t, (x.kind, x.granted))) (fun _ => rfl)

structure Config where
  threads : Int
  items : Int
  backend : Int
  depth : Int
  layers : Int
  width : Int
  spin : Int
  wait : Int
  bounded : Bool
  lo : Int
  hi : Int
  init : Int

def celConfig : Cel := celAs (celApp (celInt .i64) (celApp (celInt .i64) (celApp (celInt .i64) (celApp (celInt .i64) (celApp (celInt .i64) (celApp (celInt .i64) (celApp (celInt .i64) (celApp (celInt .i64) (celApp celBool (celApp (celInt .i64) (celApp (celInt .i64) (celInt .i64)))))))))))) Config (fun y => ⟨y.1, y.2.1, y.2.2.1, y.2.2.2.1, y.2.2.2.2.1, y.2.2.2.2.2.1, y.2.2.2.2.2.2.1, y.2.2.2.2.2.2.2.1, y.2.2.2.2.2.2.2.2.1, y.2.2.2.2.2.2.2.2.2.1, y.2.2.2.2.2.2.2.2.2.2.1, y.2.2.2.2.2.2.2.2.2.2.2⟩) (fun x => (x.threads, (x.items, (x.backend, (x.depth, (x.layers, (x.width, (x.spin, (x.wait, (x.bounded, (x.lo, (x.hi, x.init)))))))))))) (fun _ => rfl)

structure Memo where
  words : List Int
  boxes : List (List Entry)

def celMemo : Cel := celAs (celApp (celLst .int) (celLst (.lst .entry))) Memo (fun y => ⟨y.1, y.2⟩) (fun x => (x.words, x.boxes)) (fun _ => rfl)

structure Tape where
  l : List Int
  at_ : Int

def celTape : Cel := celAs (celApp (celLst .int) (celInt .i64)) Tape (fun y => ⟨y.1, y.2⟩) (fun x => (x.l, x.at_)) (fun _ => rfl)

structure Turn where
  c : Config
  t : Int
  now : Int
  m : Memo
  th : Thread
  tape : Tape
  log : List Mark
  done : Bool

def celTurn : Cel := celAs (celApp celConfig (celApp (celInt .i64) (celApp (celInt .i64) (celApp celMemo (celApp celThread (celApp celTape (celApp (celLst .mark) celBool))))))) Turn (fun y => ⟨y.1, y.2.1, y.2.2.1, y.2.2.2.1, y.2.2.2.2.1, y.2.2.2.2.2.1, y.2.2.2.2.2.2.1, y.2.2.2.2.2.2.2⟩) (fun x => (x.c, (x.t, (x.now, (x.m, (x.th, (x.tape, (x.log, x.done)))))))) (fun _ => rfl)

structure Said where
  kind : Int
  n : Int

def celSaid : Cel := celAs (celApp (celInt .i64) (celInt .i64)) Said (fun y => ⟨y.1, y.2⟩) (fun x => (x.kind, x.n)) (fun _ => rfl)

structure Plan where
  nodes : Int
  slots : Int
  block : Int
  lines : Int

def celPlan : Cel := celAs (celApp (celInt .i64) (celApp (celInt .i64) (celApp (celInt .i64) (celInt .i64)))) Plan (fun y => ⟨y.1, y.2.1, y.2.2.1, y.2.2.2⟩) (fun x => (x.nodes, (x.slots, (x.block, x.lines)))) (fun _ => rfl)

structure Asked where
  op : Op
  item : Int

def celAsked : Cel := celAs (celApp celOp (celInt .i64)) Asked (fun y => ⟨y.1, y.2⟩) (fun x => (x.op, x.item)) (fun _ => rfl)

structure Shut where
  who : Int
  so : Int
  no : Int

def celShut : Cel := celAs (celApp (celInt .i64) (celApp (celInt .i64) (celInt .i64))) Shut (fun y => ⟨y.1, y.2.1, y.2.2⟩) (fun x => (x.who, (x.so, x.no))) (fun _ => rfl)

structure Wld where
  c : Config
  m : Memo
  t : List Thread
  now : Int
  steps : Int
  tape : Tape
  log : List Mark
  hist : List Event

def celWld : Cel := celAs (celApp celConfig (celApp celMemo (celApp (celLst .thread) (celApp (celInt .i64) (celApp (celInt .i64) (celApp celTape (celApp (celLst .mark) (celLst .event)))))))) Wld (fun y => ⟨y.1, y.2.1, y.2.2.1, y.2.2.2.1, y.2.2.2.2.1, y.2.2.2.2.2.1, y.2.2.2.2.2.2.1, y.2.2.2.2.2.2.2⟩) (fun x => (x.c, (x.m, (x.t, (x.now, (x.steps, (x.tape, (x.log, x.hist)))))))) (fun _ => rfl)

def dOp : Op := ⟨0, 0⟩
def dEntry : Entry := ⟨0, ⟨0, 0⟩⟩
def dKid : Kid := ⟨0, 0⟩
def dMark : Mark := ⟨0, 0, ⟨0, 0⟩, 0, 0⟩
def dEvent : Event := ⟨0, 0, 0, ⟨0, 0⟩, 0, false, 0⟩
def dThread : Thread := ⟨0, 0, ⟨0, 0⟩, [], [], [], 0, 0, 0, 0, 0, 0, 0, 0, 0, 0⟩
def dSEntry : SEntry := ⟨0, 0, 0, ⟨0, 0⟩⟩
def dWant : Want := ⟨0, 0⟩
def dClient : Client := ⟨⟨0, 0, ⟨0, 0⟩, ⟨0, 0⟩⟩, 0⟩
def dReply : Reply := ⟨0, 0, 0⟩
end Go.Proofs.Mill
