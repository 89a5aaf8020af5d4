/- Parts of the proof: MillData, MillEval, MillRel, MillMono, MillChange, MillOps, MillMemOps, MillStore, MillFreeze. -/
import Derived.WalkKit
import Derived.CheckFast
import Derived.Below
import Derived.Laws.Cells
import Derived.Laws.CopyRow
import Derived.Laws.AppendOwn
import Derived.Laws.Rows
import Derived.Laws.Tables
set_option linter.all false
namespace Go.Proofs.Mill
structure Op where
  tag:Int
  v:Int
  deriving DecidableEq
structure Entry where
  t:Int
  op:Op
  deriving DecidableEq
structure Kid where
  t:Int
  ahead:Int
  deriving DecidableEq
structure Mark where
  t:Int
  item:Int
  op:Op
  prior:Int
  step:Int
  deriving DecidableEq
structure Event where
  kind:Int
  t:Int
  item:Int
  op:Op
  prior:Int
  did:Bool
  step:Int
  deriving DecidableEq
structure Thread where
  phase:Int
  item:Int
  op:Op
  batch:List Entry
  kids:List Kid
  held:List Int
  stop:Int
  node:Int
  at_:Int
  layer:Int
  left:Int
  width:Int
  who:Int
  x:Int
  y:Int
  until_:Int
  deriving DecidableEq
structure SEntry where
  kind:Int
  t:Int
  item:Int
  op:Op
  deriving DecidableEq
structure Want where
  item:Int
  k:Int
  deriving DecidableEq
structure SCall where
  kind:Int
  t:Int
  a:Want
  b:Want
  deriving DecidableEq
structure Client where
  call:SCall
  stage:Int
  deriving DecidableEq
structure Reply where
  t:Int
  kind:Int
  granted:Int
  deriving DecidableEq
structure Part where
  name:ByteArray
  step:Nat
inductive Ty where
  | int | u8 | str | entry | kid | mark | event | thread | sentry | want | client | reply | part
  | lst (t:Ty)
def Ty.den:Ty->Type
 | .int=>Int
 | .u8=>Int
 | .str=>ByteArray
 | .entry=>Entry
 | .kid=>Kid
 | .mark=>Mark
 | .event=>Event
 | .thread=>Thread
 | .sentry=>SEntry
 | .want=>Want
 | .client=>Client
 | .reply=>Reply
 | .part=>Part
 | .lst t=>List t.den
inductive D where
  | int (k:IntKind) (n:Int)
  | bool (b:Bool)
  | str (s:ByteArray)
  | fn (f:FuncId)
  | lst (sz:Nat) (rows:List (List D))
abbrev D.i (n:Int):D:=.int .i64 n
def ZnP (n:Int):List D:=[.i n]
def ZwA (n:Int):List D:=[.int .u8 n]
def Ztq (s:ByteArray):List D:=[.str s]
def ZkS (e:Entry):List D:=[.i e.t,.i e.op.tag,.i e.op.v]
def Zop (e:Kid):List D:=[.i e.t,.i e.ahead]
def Zro (e:Mark):List D:=[.i e.t,.i e.item,.i e.op.tag,.i e.op.v,.i e.prior,.i e.step]
def ZpL (e:Event):List D:=[.i e.kind,.i e.t,.i e.item,.i e.op.tag,.i e.op.v,.i e.prior,.bool e.did,.i e.step]
def Zox (e:Thread):List D := [.i e.phase,.i e.item,.i e.op.tag,.i e.op.v,.lst 3 (e.batch.map ZkS),.lst 2 (e.kids.map Zop),.lst 1 (e.held.map ZnP), .i e.stop,.i e.node,.i e.at_,.i e.layer,.i e.left,.i e.width,.i e.who,.i e.x,.i e.y,.i e.until_]
def Zn4 (e:SEntry):List D:=[.i e.kind,.i e.t,.i e.item,.i e.op.tag,.i e.op.v]
def Zrj (e:Want):List D:=[.i e.item,.i e.k]
def ZnT (e:Client):List D:=[.i e.call.kind,.i e.call.t,.i e.call.a.item,.i e.call.a.k,.i e.call.b.item,.i e.call.b.k,.i e.stage]
def ZpW (e:Reply):List D:=[.i e.t,.i e.kind,.i e.granted]
def Zv1 (e:Part):List D:=[.str e.name,.fn e.step]
def Ty.sz:Ty->Nat
 | .int=>1 | .u8=>1 | .str=>1 | .entry=>3 | .kid=>2 | .mark=>6 | .event=>8 | .thread=>17 | .sentry=>5 | .want=>2 | .client=>7 | .reply=>3 | .part=>2
 | .lst _=>1
def Ty.enc:(τ:Ty)->τ.den->List D
 | .int=>ZnP
 | .u8=>ZwA
 | .str=>Ztq
 | .entry=>ZkS
 | .kid=>Zop
 | .mark=>Zro
 | .event=>ZpL
 | .thread=>Zox
 | .sentry=>Zn4
 | .want=>Zrj
 | .client=>ZnT
 | .reply=>ZpW
 | .part=>Zv1
 | .lst t=>fun xs=>[.lst t.sz (xs.map t.enc)]
theorem Ty.enc_length (τ:Ty) (x:τ.den):(τ.enc x).length=τ.sz:=by
 cases τ <;> rfl
theorem Ty.sz_pos (τ:Ty):0<τ.sz:=by cases τ <;> simp [Ty.sz]
def Ty.dflt:(τ:Ty)->τ.den
 | .int=>(0:Int)
 | .u8=>(0:Int)
 | .str=>ByteArray.empty
 | .entry=>(⟨0,⟨0,0⟩⟩:Entry)
 | .kid=>(⟨0,0⟩:Kid)
 | .mark=>(⟨0,0,⟨0,0⟩,0,0⟩:Mark)
 | .event=>(⟨0,0,0,⟨0,0⟩,0,false,0⟩:Event)
 | .thread=>(⟨0,0,⟨0,0⟩,[],[],[],0,0,0,0,0,0,0,0,0,0⟩:Thread)
 | .sentry=>(⟨0,0,0,⟨0,0⟩⟩:SEntry)
 | .want=>(⟨0,0⟩:Want)
 | .client=>(⟨⟨0,0,⟨0,0⟩,⟨0,0⟩⟩,0⟩:Client)
 | .reply=>(⟨0,0,0⟩:Reply)
 | .part=>(⟨ByteArray.empty,0⟩:Part)
 | .lst _=>[]
inductive AV where
  | undef
  | int (k:IntKind) (n:Int)
  | bool (b:Bool)
  | str (s:ByteArray)
  | lst (τ:Ty) (xs:List τ.den)
  | lstn (τ:Ty) (xs:List τ.den)
  | emp
  | own (id:Nat)
  | ownv (e:TypeId) (τ:Ty) (xs:List τ.den)
  | ptr (id:Nat) (off:Nat)
  | eptr (id:Nat) (i:Nat) (off:Nat)
  | lptr (τ:Ty) (xs:List τ.den) (i:Nat) (off:Nat)
  | cptr (cs:List AV) (off:Nat)
  | agg (cs:List AV)
  | tup (vs:List AV)
  | fn (f:FuncId) (caps:List AV)
  | bfn (f:FuncId) (first:List AV)
  | cst (v:Value)
  | ifc (t:TypeId) (x:AV)
  | box (cs:List AV)
  | row (e:TypeId) (τ:Ty) (xs:List τ.den)
  | frz (τ:Ty) (xs:List τ.den)
  | dead
  | gone (n:Nat)
abbrev AV.i (n:Int):AV:=.int .i64 n
def Ty.encA:(τ:Ty)->τ.den->List AV
 | .int=>fun (n:Int)=>[.i n]
 | .u8=>fun (n:Int)=>[.int .u8 n]
 | .str=>fun (s:ByteArray)=>[.str s]
 | .entry=>fun (e:Entry)=>[.i e.t,.i e.op.tag,.i e.op.v]
 | .kid=>fun (e:Kid)=>[.i e.t,.i e.ahead]
 | .mark=>fun (e:Mark)=>[.i e.t,.i e.item,.i e.op.tag,.i e.op.v,.i e.prior,.i e.step]
 | .event=>fun (e:Event)=>[.i e.kind,.i e.t,.i e.item,.i e.op.tag,.i e.op.v,.i e.prior,.bool e.did,.i e.step]
 | .thread => fun (e : Thread) =>
   [.i e.phase,.i e.item,.i e.op.tag,.i e.op.v,.lst .entry e.batch,.lst .kid e.kids,.lst .int e.held,
    .i e.stop,.i e.node,.i e.at_,.i e.layer,.i e.left,.i e.width,.i e.who,.i e.x,.i e.y,.i e.until_]
 | .sentry=>fun (e:SEntry)=>[.i e.kind,.i e.t,.i e.item,.i e.op.tag,.i e.op.v]
 | .want=>fun (e:Want)=>[.i e.item,.i e.k]
 | .client=>fun (e:Client)=>[.i e.call.kind,.i e.call.t,.i e.call.a.item,.i e.call.a.k,.i e.call.b.item,.i e.call.b.k,.i e.stage]
 | .reply=>fun (e:Reply)=>[.i e.t,.i e.kind,.i e.granted]
 | .part=>fun (e:Part)=>[.str e.name,.fn e.step []]
 | .lst t=>fun (xs:List t.den)=>[.lst t xs]
def AV.ints?:AV->Option (List Int)
 | .lst .int xs=>some xs
 | .emp=>some []
 | _=>none
def AV.entries?:AV->Option (List Entry)
 | .lst .entry xs=>some xs
 | .emp=>some []
 | _=>none
def AV.kids?:AV->Option (List Kid)
 | .lst .kid xs=>some xs
 | .emp=>some []
 | _=>none
def Ty.eqTy:(a b:Ty)->Option (PLift (a=b))
 | .int,.int=>some ⟨rfl⟩
 | .u8,.u8=>some ⟨rfl⟩
 | .str,.str=>some ⟨rfl⟩
 | .entry,.entry=>some ⟨rfl⟩
 | .kid,.kid=>some ⟨rfl⟩
 | .mark,.mark=>some ⟨rfl⟩
 | .event,.event=>some ⟨rfl⟩
 | .thread,.thread=>some ⟨rfl⟩
 | .sentry,.sentry=>some ⟨rfl⟩
 | .want,.want=>some ⟨rfl⟩
 | .client,.client=>some ⟨rfl⟩
 | .reply,.reply=>some ⟨rfl⟩
 | .part,.part=>some ⟨rfl⟩
 | .lst a, .lst b => match Ty.eqTy a b with
  | some ⟨h⟩=>some ⟨congrArg Ty.lst h⟩
  | none=>none
 | _,_=>none
def AV.list? (τ:Ty):AV->Option (List τ.den)
 | .lst σ xs => match Ty.eqTy σ τ with
  | some ⟨h⟩=>some (h ▸ xs)
  | none=>none
 | .emp=>some []
 | _=>none
def Zzc:List AV->Option Int
 | [.int .i64 a]=>some a
 | _=>none
def ZA5:List AV->Option Int
 | [.int .u8 a]=>some a
 | _=>none
def ZyN:List AV->Option ByteArray
 | [.str s]=>some s
 | _=>none
def ZuE:List AV->Option Entry
 | [.int .i64 a,.int .i64 b,.int .i64 c]=>some (⟨a,⟨b,c⟩⟩:Entry)
 | _=>none
def ZxN:List AV->Option Kid
 | [.int .i64 a,.int .i64 b]=>some (⟨a,b⟩:Kid)
 | _=>none
def Zwg:List AV->Option Mark
 | [.int .i64 a,.int .i64 b,.int .i64 c,.int .i64 d,.int .i64 e,.int .i64 f]=>some (⟨a,b,⟨c,d⟩,e,f⟩:Mark)
 | _=>none
def ZsI:List AV->Option SEntry
 | [.int .i64 a,.int .i64 b,.int .i64 c,.int .i64 d,.int .i64 e]=>some (⟨a,b,c,⟨d,e⟩⟩:SEntry)
 | _=>none
def ZvX:List AV->Option Want
 | [.int .i64 a,.int .i64 b]=>some (⟨a,b⟩:Want)
 | _=>none
def ZrY:List AV->Option Client
 | [.int .i64 a,.int .i64 b,.int .i64 c,.int .i64 d,.int .i64 e,.int .i64 f,.int .i64 g]=>some (⟨⟨a,b,⟨c,d⟩,⟨e,f⟩⟩,g⟩:Client)
 | _=>none
def ZtC:List AV->Option Reply
 | [.int .i64 a,.int .i64 b,.int .i64 c]=>some (⟨a,b,c⟩:Reply)
 | _=>none
def ZvU:List AV->Option Part
 | [.str s,.fn f []]=>some ⟨s,f⟩
 | _=>none
def ZuT:List AV->Option Event
 | [.int .i64 a,.int .i64 b,.int .i64 c,.int .i64 d,.int .i64 e,.int .i64 f,.bool g,.int .i64 h]=>some ⟨a,b,c,⟨d,e⟩,f,g,h⟩
 | _=>none
def Zon:List AV->Option Thread
 | [.int .i64 a, .int .i64 b, .int .i64 c, .int .i64 d, bt, ks, hs, .int .i64 e, .int .i64 f, .int .i64 g, .int .i64 h, .int .i64 i, .int .i64 j, .int .i64 k, .int .i64 l, .int .i64 m, .int .i64 n] => match bt.entries?,ks.kids?,hs.ints? with
  | some bt,some ks,some hs=>some ⟨a,b,⟨c,d⟩,bt,ks,hs,e,f,g,h,i,j,k,l,m,n⟩
  | _,_,_=>none
 | _=>none
def ZuS (t:Ty):List AV->Option (List t.den)
 | [x]=>x.list? t
 | _=>none
def Ty.decA:(τ:Ty)->List AV->Option τ.den
 | .int=>Zzc
 | .u8=>ZA5
 | .str=>ZyN
 | .entry=>ZuE
 | .kid=>ZxN
 | .mark=>Zwg
 | .event=>ZuT
 | .thread=>Zon
 | .sentry=>ZsI
 | .want=>ZvX
 | .client=>ZrY
 | .reply=>ZtC
 | .part=>ZvU
 | .lst t=>ZuS t
end Go.Proofs.Mill
namespace Go.Proofs.Mill
inductive Loc where
  | t (n:Nat)
  | m (id:Nat)
def Loc.beq:Loc->Loc->Bool
 | .t a,.t b=>Nat.beq a b
 | .m a,.m b=>Nat.beq a b
 | _,_=>false
structure St where
  tm:List (Nat×AV)
  ob:List (Nat×AV)
def look:List (Nat×AV)->Nat->AV
 | [],_=>.undef
 | (k,v)::r,n=>bif Nat.beq k n then v else look r n
def St.get (σ:St):Loc->AV
 | .t n=>look σ.tm n
 | .m n=>look σ.ob n
abbrev Wr:=List (Nat×AV)
def Zay:Wr->List (Nat×AV)->List (Nat×AV)
 | [],ob=>ob
 | p::r,ob=>Zay r (p::ob)
def St.put (σ:St) (d:Option Nat) (v:AV) (ws:Wr):St := match d with
 | some d=>⟨(d,v)::σ.tm,Zay ws σ.ob⟩
 | none=>⟨σ.tm,Zay ws σ.ob⟩
inductive Rd (α:Type):Type 1 where
  | ret (a:α)
  | rd (l:Loc) (k:AV->Rd α)
  | ask (b:Bool) (t e:Rd α)
  | call {β:Type} (x:Option β) (k:β->Rd α)
  | fail
def Rd.runK {α ρ:Type}:Rd α->St->List Loc->(α->List Loc->Option ρ)->Option ρ
 | .ret a,_,log,k=>k a log
 | .rd l f,σ,log,k=>(f (σ.get l)).runK σ (l::log) k
 | .ask b t e,σ,log,k=>bif b then t.runK σ log k else e.runK σ log k
 | .call x f, σ, log, k => match x with
  | some y=>(f y).runK σ log k
  | none=>none
 | .fail,_,_,_=>none
inductive Kd where
  | any
  | own (e:TypeId) (τ:Ty)
  | lst (τ:Ty)
  | box (ks:List Kd)
  | fnc (f:FuncId)
  | nil
  | still
  | al (j off:Nat)
  | bal (f:FuncId) (j off:Nat)
structure Spec where
  ak:List Kd
  α:Type
  β:Type
  dec:List AV->Option α
  fn:α->Option β
  enc:β->AV
  lend:Bool
structure XSpec where
  β:Type
  pre:Nat->List AV->List (Nat×AV)->Option (Option β×(β->AV×List (Nat×AV)))
structure YSpec where
  α:Type
  β:Type
  dec:List AV->Option α
  fn:α->Option β
  enc:β->AV×List AV
structure Env where
  P:Program
  E:TypeId->Option Ty
  G:FuncId->Option Spec
  ent:FuncId->Bool
  pure:FuncId->Nat->List AV->Option (AV×Wr)
  mv:FuncId->Bool:=fun _=>false
  X:FuncId->Option XSpec:=fun _=>none
  walk:FuncId->Bool:=fun _=>false
  Y:FuncId->Option YSpec:=fun _=>none
def ZqK:Value->AV
 | .int k n=>.int k n
 | .bool b=>.bool b
 | .string s=>.str s
 | .slice none 0 0=>.emp
 | v=>.cst v
def ofValue:Value->AV
 | .agg cs=>.agg (cs.toList.map ZqK)
 | .int k n=>.int k n
 | .bool b=>.bool b
 | .string s=>.str s
 | .slice none 0 0=>.emp
 | v=>.cst v
def AV.one:AV->Bool
 | .undef | .agg _ | .tup _ | .ownv _ _ _ | .box _ | .row _ _ _ | .frz _ _ | .dead | .gone _=>false
 | .cst v=>match v with | .agg _ | .tuple _=>false | _=>true
 | _=>true
def AV.cells:AV->List AV
 | .agg cs=>cs
 | v=>[v]
def opd {α:Type} (x:Operand) (k:AV->Rd α):Rd α := match x with
 | .tmp t=>.rd (.t t) k
 | .const v=>k (ofValue v)
 | .func f=>k (.fn f [])
 | .global _=>.fail
def opds {α:Type}:List Operand->(List AV->Rd α)->Rd α
 | [],k=>k []
 | x::r,k=>opd x fun v=>opds r fun vs=>k (v::vs)
def bare {ρ:Type 1}:List AV->(List AV->ρ)->ρ
 | [],k=>k []
 | x::r,k=>bare r fun ys=>k (x::ys)
def Zjo (cs:List AV) (off:Nat) (vs:List AV):List AV:=cs.take off++vs++cs.drop (off+vs.length)
def Zhr {α:Type} (v:AV) (k:AV->Wr->Rd α):Rd α :=
 match v with
 | .own id => .rd (.m id) fun
   | .row _ τ xs=>k (.lst τ xs) [(id,.frz τ xs)]
   | .frz τ xs=>k (.lst τ xs) []
   | _=>.fail
 | .int _ _ | .bool _ | .str _ | .lst _ _ | .emp | .fn _ []=>k v []
 | _=>.fail
def Zlh {α:Type}:List AV->(List AV->Wr->Rd α)->Rd α
 | [],k=>k [] []
 | v::r,k=>Zhr v fun x ws=>Zlh r fun xs ws'=>k (x::xs) (ws++ws')
def ZoM {α:Type} (κ:Kd) (v:AV) (k:AV->Wr->Rd α):Rd α :=
 match κ with
 | .lst τ => match v with
   | .own id => .rd (.m id) fun
     | .row _ σ xs => match Ty.eqTy σ τ with
       | some ⟨h⟩=>k (.lst τ (h ▸ xs)) [(id,.frz σ xs)]
       | none=>.fail
     | .frz σ xs => match Ty.eqTy σ τ with
       | some ⟨h⟩=>k (.lst τ (h ▸ xs)) []
       | none=>.fail
     | _=>.fail
   | .lst σ xs => match Ty.eqTy σ τ with
     | some ⟨h⟩=>k (.lst τ (h ▸ xs)) []
     | none=>.fail
   | .emp=>k (.lst τ []) []
   | _=>.fail
 | .any => match v with
   | .int _ _ | .bool _ | .str _=>k v []
   | _=>.fail
 | .fnc f => match v with
   | .fn g []=>bif Nat.beq g f then k (.fn f []) [] else .fail
   | _=>.fail
 | .nil => match v with
   | .emp=>k .emp []
   | _=>.fail
 | _=>.fail
def Zkz {α:Type}:List Kd->List AV->(List AV->Wr->Rd α)->Rd α
 | [],[],k=>k [] []
 | κ::ks,v::r,k=>ZoM κ v fun x ws=>Zkz ks r fun xs ws'=>k (x::xs) (ws++ws')
 | _,_,_=>.fail
def ZtR {α:Type} (κ:Kd) (v:AV) (k:AV->Wr->Rd α):Rd α :=
 match κ with
 | .box ks => match v with
   | .agg cs=>Zkz ks cs fun xs ws=>k (.agg xs) ws
   | _=>.fail
 | κ=>ZoM κ v k
def Zmg {α:Type}:List Kd->List AV->(List AV->Wr->Rd α)->Rd α
 | [],[],k=>k [] []
 | κ::ks,v::r,k=>ZtR κ v fun x ws=>Zmg ks r fun xs ws'=>k (x::xs) (ws++ws')
 | _,_,_=>.fail
def Ty.flat:Ty->Bool
 | .lst _ | .thread | .part=>false
 | _=>true
mutual
def AV.still:AV->Bool
 | .int _ _ | .bool _ | .str _ | .lst _ _ | .emp | .cst _=>true
 | .agg cs=>AV.stills cs
 | .fn _ cs=>AV.stills cs
 | _=>false
def AV.stills:List AV->Bool
 | []=>true
 | v::r=>bif v.still then AV.stills r else false
end
mutual
def AV.frozen:AV->Bool
 | .int _ _ | .bool _ | .str _ | .lst _ _ | .emp | .cst _=>true
 | .fn _ cs=>AV.frozens cs
 | .cptr cs _=>AV.frozens cs
 | _=>false
def AV.frozens:List AV->Bool
 | []=>true
 | v::r=>bif v.frozen then AV.frozens r else false
end
def Zi0 (g:AV->List (Nat×AV)->Option (AV×List (Nat×AV))):List AV->List (Nat×AV)->Option (List AV×List (Nat×AV))
 | [],ob=>some ([],ob)
 | v :: r, ob => match g v ob with
  | some (x, ob) => match Zi0 g r ob with
   | some (xs,ob)=>some (x::xs,ob)
   | none=>none
  | none=>none
def ZiJ:Nat->AV->List (Nat×AV)->Option (AV×List (Nat×AV))
 | 0,_,_=>none
 | d + 1, v, ob => match v with
  | .ptr id off => (match look ob id with
   | .box cs => (match Zi0 (ZiJ d) cs ((id, .dead) :: ob) with
    | some (xs,ob)=>some (.cptr xs off,ob)
    | none=>none)
   | _=>none)
  | .fn f cs=>(match Zi0 (ZiJ d) cs ob with
    | some (xs,ob)=>some (.fn f xs,ob)
    | none=>none)
  | .own id => (match look ob id with
   | .row _ τ xs=>some (.lst τ xs,(id,.frz τ xs)::ob)
   | .frz τ xs=>some (.lst τ xs,ob)
   | _=>none)
  | .int k n=>some (.int k n,ob)
  | .bool b=>some (.bool b,ob)
  | .str s=>some (.str s,ob)
  | .lst τ xs=>some (.lst τ xs,ob)
  | .emp=>some (.emp,ob)
  | .cptr cs off=>bif AV.frozens cs then some (.cptr cs off,ob) else none
  | _=>none
def Zrc {α:Type} (g:AV->(AV->Rd α)->Rd α):List AV->(List AV->Rd α)->Rd α
 | [],k=>k []
 | v::r,k=>g v fun x=>Zrc g r fun xs=>k (x::xs)
def Zkg {α:Type}:Nat->AV->(AV->Rd α)->Rd α
 | 0,_,_=>.fail
 | d + 1, v, k => match v with
   | .ptr id off => .rd (.m id) fun
     | .box cs=>Zrc (Zkg d) cs fun xs=>k (.cptr xs off)
     | _=>.fail
   | .fn f cs=>Zrc (Zkg d) cs fun xs=>k (.fn f xs)
   | .own id => .rd (.m id) fun
     | .row _ τ xs=>k (.lst τ xs)
     | .frz τ xs=>k (.lst τ xs)
     | _=>.fail
   | .cptr cs off=>bif AV.frozens cs then k (.cptr cs off) else .fail
   | v=>bif v.still then k v else .fail
def Zp5 {α:Type} (vs:List AV) (k:List AV->Rd α):Rd α:=Zrc (Zkg 8) vs k
def AV.lends:AV->Bool
 | .int _ _ | .bool _ | .str _ | .emp=>false
 | .ownv _ τ _=>!τ.flat
 | _=>true
def AV.lendsAny:AV->Bool
 | .agg cs=>cs.any AV.lends
 | .tup vs=>vs.any fun | .agg cs=>cs.any AV.lends | v=>v.lends
 | v=>v.lends
def Zbm (id:Nat) (v:AV):AV×Wr×Nat := match v with
 | .ownv e τ xs=>(.own id,[(id,.row e τ xs)],id+1)
 | v=>(v,[],id)
def Zbj:Nat->List AV->List AV×Wr×Nat
 | id,[]=>([],[],id)
 | id, v :: r => match Zbm id v with
  | (x, ws, id') => match Zbj id' r with
   | (xs,ws',id'')=>(x::xs,ws++ws',id'')
def ZcN (id:Nat) (v:AV):AV×Wr×Nat := match v with
 | .agg cs => match Zbj id cs with
  | (xs,ws,id')=>(.agg xs,ws,id')
 | v=>Zbm id v
def Zfc:Nat->List AV->List AV×Wr×Nat
 | id,[]=>([],[],id)
 | id, v :: r => match ZcN id v with
  | (x, ws, id') => match Zfc id' r with
   | (xs,ws',id'')=>(x::xs,ws++ws',id'')
def ZbZ (id:Nat) (v:AV):AV×Wr := match v with
 | .tup vs => match Zfc id vs with
  | (xs,ws,_)=>(.tup xs,ws)
 | v => match ZcN id v with
  | (x,ws,_)=>(x,ws)
def Zl6 {α:Type}:Wr->Rd α->Rd α
 | [],k=>k
 | (l,_)::r,k=>.rd (.m l) fun | .undef=>Zl6 r k | _=>.fail
def Zih {α:Type}:Nat->Nat->(Nat->Rd α)->Rd α
 | 0,_,_=>.fail
 | n+1,id,k=>.rd (.m id) fun | .undef=>k id | _=>Zih n (id+1) k
section
variable (V:Env)
def sizeOf? (t:TypeId):Option Nat:=match V.P.underlying t with | some _=>(V.P.info? t).map (·.size) | none=>none
def isAgg? (t:TypeId):Bool:=match V.P.underlying t with | some (.struct _) | some (.array _ _)=>true | _=>false
def zeroCells? (t:TypeId):Option (List AV):=((V.P.info? t).bind (·.zero)).map fun v=>(ofValue v).cells
def cut (t:TypeId) (cs:List AV) (off:Nat):Option AV := match sizeOf? V t with
 | none=>none
 | some n=>bif isAgg? V t then (bif Nat.ble (off+n) cs.length then some (.agg ((cs.drop off).take n)) else none) else cs[off]?
def Zbz {α β:Type} (x:Option α) (k:α->Rd β):Rd β:=match x with | some a=>k a | none=>.fail
def ZgC {α:Type} (v:AV) (k:AV->Rd α):Rd α :=
 match v with
 | .agg cs=>bare cs fun cs=>k (.agg cs)
 | v=>k v
def rdAt {α:Type} (t:TypeId) (a:AV) (k:AV->Rd α):Rd α :=
 match a with
 | .ptr id off => .rd (.m id) fun
   | .box cs=>Zbz (cut V t cs off) fun v=>ZgC v k
   | _=>.fail
 | .eptr id i off => .rd (.m id) fun
   | .row _ τ xs=>Zbz (cut V t (τ.encA (xs.getD i τ.dflt)) off) fun v=>ZgC v k
   | .frz τ xs=>Zbz (cut V t (τ.encA (xs.getD i τ.dflt)) off) fun v=>ZgC v k
   | _=>.fail
 | .lptr τ xs i off=>Zbz (cut V t (τ.encA (xs.getD i τ.dflt)) off) fun v=>ZgC v k
 | .cptr cs off=>Zbz (cut V t cs off) fun v=>ZgC v k
 | _=>.fail
def wrAt {α:Type} (t:TypeId) (a x:AV) (k:Wr->Rd α):Rd α :=
 Zbz (sizeOf? V t) fun n =>
 bif Nat.beq x.cells.length n && x.cells.all AV.one then
   match a with
   | .ptr id off => .rd (.m id) fun
     | .box cs=>bif Nat.ble (off+n) cs.length then bare (Zjo cs off x.cells) fun cs=>k [(id,.box cs)] else .fail
     | _=>.fail
   | .eptr id i off => Zlh x.cells fun vs ws => .rd (.m id) fun
     | .row e τ xs=>bif Nat.ble (off+n) τ.sz && ws.all (fun p=>!(Nat.beq p.1 id)) then
         Zbz (τ.decA (Zjo (τ.encA (xs.getD i τ.dflt)) off vs)) fun y=>k (ws++[(id,.row e τ (xs.set i y))])
       else .fail
     | _=>.fail
   | _=>.fail
 else .fail
def Zt9 (s:TypeId) (f:Nat):Option Nat := match V.P.underlying s with
 | some (.struct fs) => match fs[f]? with
  | some f => match sizeOf? V f.type with
   | some (_+1)=>some f.offset
   | _=>none
  | none=>none
 | _=>none
def ZtI {α:Type} (a:AV) (n:Nat) (k:AV->Rd α):Rd α := match a with
 | .ptr id off=>k (.ptr id (off+n))
 | .eptr id i off=>k (.eptr id i (off+n))
 | .lptr τ xs i off=>k (.lptr τ xs i (off+n))
 | .cptr cs off=>k (.cptr cs (off+n))
 | _=>.fail
def Zhz {α:Type} (n:Int) (len:Nat) (k:Rd α):Rd α:=.ask (decide (0<=n)) (.ask (decide (n<(len:Int))) k .fail) .fail
def ZgJ (t:TypeId) (sz:Nat):Bool:=match V.P.underlying t with
 | some (.slice e)=>match sizeOf? V e with | some n=>Nat.beq n sz | none=>false
 | _=>false
def Zkn {α:Type} (n:Int):Nat->Nat->(Nat->Rd α)->Rd α
 | 0,_,_=>.fail
 | r+1,i,k=>.ask (decide (n=(i:Int))) (k i) (Zkn n r (i+1) k)
def Zqu {α:Type} (t:TypeId) (x:AV) (n:Int) (k:AV->Rd α):Rd α :=
 match x with
 | .own id => .rd (.m id) fun
   | .row _ τ xs=>bif ZgJ V t τ.sz then Zhz n xs.length (k (.eptr id n.toNat 0)) else .fail
   | .frz τ xs=>bif ZgJ V t τ.sz then Zhz n xs.length (k (.lptr τ xs n.toNat 0)) else .fail
   | _=>.fail
 | .lst τ xs=>bif ZgJ V t τ.sz then Zhz n xs.length (k (.lptr τ xs n.toNat 0)) else .fail
 | .ptr id off => match V.P.underlying t with
   | some (.array len e) => match sizeOf? V e with
     | some sz=>Zhz n len (Zkn n len 0 fun i=>k (.ptr id (off+i*sz)))
     | none=>.fail
   | _=>.fail
 | _=>.fail
def elems {α:Type} (x:AV) (k:(τ:Ty)->List τ.den->Rd α) (nil:Rd α):Rd α :=
 match x with
 | .own id => .rd (.m id) fun
   | .row _ τ xs=>k τ xs
   | .frz τ xs=>k τ xs
   | _=>.fail
 | .lst τ xs=>k τ xs
 | .lstn τ xs=>k τ xs
 | .emp=>nil
 | _=>.fail
def lenA (x:AV):Rd (AV×Wr) :=
 match x with
 | .own id => .rd (.m id) fun
   | .row _ _ xs=>.ret (.i xs.length,[])
   | .frz _ xs=>.ret (.i xs.length,[])
   | .gone n=>.ret (.i n,[])
   | _=>.fail
 | .lst _ xs=>.ret (.i xs.length,[])
 | .lstn _ xs=>.ret (.i xs.length,[])
 | .emp=>.ret (.i 0,[])
 | _=>.fail
def Zm8:(Nat->Option (Nat×Nat))->List AV->List (Nat×AV)->Option (List AV)
 | _,cells,[]=>some cells
 | place, cells, (i, v) :: r => match place i with
  | none=>none
  | some (off,n)=>bif Nat.beq v.cells.length n && Nat.ble (off+n) cells.length && v.cells.all AV.one then Zm8 place (Zjo cells off v.cells) r else none
def ZuW (t:TypeId) (z:List AV) (parts:List (Nat×AV)):Option (List AV) :=
 match V.P.underlying t with
 | some (.struct fs) => match fs.toList.mapM (fun f => (V.P.info? f.type).map fun i => (f.offset, i.size)) with
   | some places=>Zm8 (fun x=>places.toArray[x]?) z parts
   | none=>none
 | some (.array _ e) => match V.P.info? e with
   | some ie=>Zm8 (fun i=>some (i*ie.size,ie.size)) z parts
   | none=>none
 | _=>none
def elemOf? (t:TypeId):Option TypeId:=match V.P.underlying t with | some (.slice e)=>some e | _=>none
def rowsOf (τ:Ty) (sz:Nat):Nat->List AV->Option (List τ.den)
 | 0,_=>some []
 | n + 1, cs => match τ.decA (cs.take sz) with
  | none=>none
  | some x => match rowsOf τ sz n (cs.drop sz) with
   | none=>none
   | some r=>some (x::r)
def Zjv (e:TypeId) (τ:Ty):Bool:=match V.P.info? e,sizeOf? V e,zeroCells? V e with
 | some i,some sz,some z=>Nat.beq sz τ.sz && Nat.beq z.length τ.sz && Nat.ble i.bytes 1024
 | _,_,_=>false
def Zbt:Int:=4294967296
def fewB (n:Nat):Bool:=Nat.ble n 4294967296
theorem Zuc {n:Nat} (h:fewB n=true):(n:Int)<=Zbt:=by
 have:=Nat.le_of_ble_eq_true h
 unfold Zbt
 omega
def in64:Int->Bool
 | .ofNat m=>Nat.ble m 9223372036854775807
 | .negSucc m=>Nat.ble m 9223372036854775807
def Zac (k:IntKind) (n:Int):Int:=match k with
 | .i64=>bif in64 n then n else IntKind.wrap .i64 n
 | k=>k.wrap n
theorem ZvP {n:Int} (h:in64 n=true):IntKind.wrap .i64 n=n:=by
 have hb : -9223372036854775808<=n/\n<=9223372036854775807:=by
   cases n with
   | ofNat m =>
     have:=Nat.le_of_ble_eq_true (show Nat.ble m 9223372036854775807=true from h)
     constructor <;> simp <;> omega
   | negSucc m =>
     have:=Nat.le_of_ble_eq_true (show Nat.ble m 9223372036854775807=true from h)
     constructor <;> omega
 simp [IntKind.wrap,IntKind.signed,IntKind.bits]
 omega
theorem Zbv (k:IntKind) (n:Int):Zac k n=k.wrap n:=by
 unfold Zac
 split
 . cases h:in64 n with
   | true=>exact (ZvP h).symm
   | false=>rfl
 . rfl
def arith (op:BinOp) (k:IntKind) (a b:Int) (kv:AV->Rd (AV×Wr)):Rd (AV×Wr) := match op with
 | .add=>kv (.int k (Zac k (a+b)))
 | .sub=>kv (.int k (Zac k (a-b)))
 | .mul=>kv (.int k (Zac k (a*b)))
 | .quo=>.ask (decide (b=0)) .fail (kv (.int k (Zac k (a.tdiv b))))
 | .rem=>.ask (decide (b=0)) .fail (kv (.int k (a.tmod b)))
 | .and=>kv (.int k (Zac k (BitVec.ofInt k.bits a &&& BitVec.ofInt k.bits b).toNat))
 | .or=>kv (.int k (Zac k (BitVec.ofInt k.bits a ||| BitVec.ofInt k.bits b).toNat))
 | .xor=>kv (.int k (Zac k (BitVec.ofInt k.bits a ^^^ BitVec.ofInt k.bits b).toNat))
 | .eql=>kv (.bool (a == b))
 | .neq=>kv (.bool (a != b))
 | .lss=>kv (.bool (decide (a<b)))
 | .leq=>kv (.bool (decide (a<=b)))
 | .gtr=>kv (.bool (decide (a>b)))
 | .geq=>kv (.bool (decide (a>=b)))
 | .shl=>.ask (decide (b<0)) .fail (kv (.int k (Zac k (a*2 ^ (min b.toNat k.bits)))))
 | .shr=>.ask (decide (b<0)) .fail (kv (.int k (a.fdiv (2 ^ (min b.toNat k.bits)))))
 | _=>.fail
def eqA:Nat->TypeId->AV->AV->Option Bool
 | 0,_,_,_=>none
 | d + 1, t, x, y => match V.P.underlying t, x, y with
   | some (.int _),.int k a,.int k' b=>bif decide (k=k') then some (a == b) else none
   | some .bool,.bool a,.bool b=>some (a == b)
   | some .string,.str a,.str b=>some (a.toList == b.toList)
   | some (.struct fs), .agg xs, .agg ys => bif V.P.stoodInHeld t then none else
     fs.toList.foldr (fun f r=>bif f.name != "_" then
         match cut V f.type xs f.offset,cut V f.type ys f.offset with
         | some a, some b => match eqA d f.type a b, r with
           | some e,some r=>some (e && r)
           | _,_=>none
         | _,_=>none
       else r) (some true)
   | _,_,_=>none
def opdo {α:Type} (x:Option Operand) (k:Option AV->Rd α):Rd α:=match x with | none=>k none | some x=>opd x fun v=>k (some v)
def bnd (d:Int):Option AV->Int
 | none=>d
 | some (.int _ n)=>n
 | _=>-1
def ZyE (t:TypeId) (a:AV) (lo hi:Option AV):Rd (AV×Wr) :=
 match a with
 | .str s => match V.P.underlying t with
   | some .string=>.ask (decide (0<=bnd 0 lo)) (.ask (decide (bnd 0 lo<=bnd s.size hi)) (.ask (decide (bnd s.size hi<=(s.size:Int)))
       (.ret (.str (s.extract (bnd 0 lo).toNat (bnd s.size hi).toNat),[])) .fail) .fail) .fail
   | _=>.fail
 | a => Zhr a fun v ws => match v with
   | .lst τ xs=>bif ZgJ V t τ.sz then
       .ask (decide (0<=bnd 0 lo)) (.ask (decide (bnd 0 lo<=bnd xs.length hi)) (.ask (decide (bnd xs.length hi<=(xs.length:Int)))
         (.ret (.lst τ ((xs.take (bnd xs.length hi).toNat).drop (bnd 0 lo).toNat),ws)) .fail) .fail) .fail
     else .fail
   | _=>.fail
def sliceTo (nid:Nat) (t:TypeId) (a:AV) (n:Int):Rd (AV×Wr) :=
 match a with
 | .emp => match elemOf? V t with
   | some e => match sizeOf? V e with
     | some _=>.ask (decide (n=0)) (.ret (.emp,[])) .fail
     | none=>.fail
   | none=>.fail
 | .own id => .rd (.m id) fun
   | .row e τ xs=>bif ZgJ V t τ.sz then .rd (.m nid) fun
       | .undef=>.ask (decide (0<=n)) (.ask (decide (n<=(xs.length:Int)))
           (.ret (.own nid,[(id,.dead),(nid,.row e τ (xs.take n.toNat))])) .fail) .fail
       | _=>.fail
     else .fail
   | _=>.fail
 | _=>.fail
def Zrv (nid:Nat) (t:TypeId) (a:AV) (lo hi:Option AV):Rd (AV×Wr) := match lo,hi with
 | none,some (.int _ n)=>sliceTo V nid t a n
 | _,_=>.fail
def ZqH (nid:Nat) (ts:Array TypeId) (s x:AV):Rd (AV×Wr) :=
 bif Nat.beq ts.size 2 then
   match s,x,V.P.underlying (ts.getD 1 0) with
   | .emp,.int .i64 n,some (.int _)=>.ask (decide (0<=n)) (.ask (decide (n<=Zbt))
       (Zbz (elemOf? V (ts.getD 0 0)) fun e=>Zbz (V.E e) fun τ=>Zbz (zeroCells? V e) fun z=>Zbz (τ.decA z) fun y =>
         bif Zjv V e τ then .rd (.m nid) fun
           | .undef=>.ret (.own nid,[(nid,.row e τ (List.replicate n.toNat y))])
           | _=>.fail
         else .fail) .fail) .fail
   | _,_,_=>.fail
 else .fail
def isConst:Operand->Bool
 | .const _=>true
 | _=>false
def ZoG (op:BinOp) (r:Bool):Option Bool:=match op with | .eql=>some r | .neq=>some (!r) | _=>none
def ZqN (op:BinOp) (t:TypeId) (yc:Bool) (a b:AV):Option Bool := match a,b,V.P.underlying t with
 | .lstn _ _,.emp,some (.slice _)=>ZoG op false
 | .emp,.emp,some (.slice _)=>ZoG op true
 | .ifc _ _,.cst .nilIface,some (.interface _)=>ZoG op false
 | .cst .nilIface,.cst .nilIface,some (.interface _)=>bif yc then ZoG op true else none
 | .bfn _ _,.cst .nilFunc,some (.func _ _ _)=>ZoG op false
 | _,_,_=>none
def zeroA? (t:TypeId):Option AV:=((V.P.info? t).bind (·.zero)).map ofValue
def ZaM (fid:Nat) (o:Oper):Rd (AV×Wr) :=
 let nid:=(fid*1024+o.dst.getD 1023)*64
 let pure (v:AV):Rd (AV×Wr):=.ret (v,[])
 match o.op with
 | .move x | .assign x=>opd x fun v=>pure v
 | .pick c a b => opd c fun
   | .bool t=>.ask t (opd a fun v=>pure v) (opd b fun v=>pure v)
   | _=>.fail
 | .alloc e=>Zbz (zeroCells? V e) fun cs=>Zih 32 nid fun id=>bare cs fun cs=>.ret (.ptr id 0,[(id,.box cs)])
 | .box _ x => opd x fun v => bif v.cells.all AV.one then Zih 32 nid fun id => bare v.cells fun cs => .ret (.ptr id 0, [(id, .box cs)])
   else .fail
 | .build t parts=>opds (parts.toList.map (·.2)) fun vs =>
     Zbz (zeroCells? V t) fun z =>
     Zbz (ZuW V t z ((parts.toList.map (·.1)).zip vs)) fun cs=>bare cs fun cs=>pure (.agg cs)
 | .buildSlice t len parts=>opds (parts.toList.map (·.2)) fun vs =>
     Zbz (elemOf? V t) fun e=>Zbz (V.E e) fun τ=>Zbz (zeroCells? V e) fun z =>
     bif Zjv V e τ && Nat.ble (len*τ.sz) 16777216 then
       Zbz (Zm8 (fun i=>some (i*τ.sz,τ.sz)) ((List.replicate len z).flatten) ((parts.toList.map (·.1)).zip vs)) fun cs =>
       Zlh cs fun cs ws=>Zbz (rowsOf τ τ.sz len cs) fun xs=>Zih 32 nid fun nid=>.ret (.own nid,ws++[(nid,.row e τ xs)])
     else .fail
 | .load t a=>opd a fun p=>rdAt V t p fun v=>pure v
 | .store t a x=>opd a fun p=>opd x fun v=>wrAt V t p v fun ws=>.ret (.undef,ws)
 | .nilCheck x => opd x fun
   | .ptr id off=>pure (.ptr id off)
   | .eptr id i off=>pure (.eptr id i off)
   | .lptr τ xs i off=>pure (.lptr τ xs i off)
   | .cptr cs off=>pure (.cptr cs off)
   | _=>.fail
 | .typeAssert x _ t ok => opd x fun a => match V.P.underlying t, a with
   | some (.interface _),_=>.fail
   | some _,.ifc u y=>bif Nat.beq u t then pure (bif ok then .tup [y,.bool true] else y)
       else bif ok then Zbz (zeroA? V t) fun z=>pure (.tup [z,.bool false]) else .fail
   | _,_=>.fail
 | .binOp op t x y _ => opd x fun a => opd y fun b => match ZqN V op t (isConst y) a b with | some r => pure (.bool r) | none => match a, b with
   | .int k m,.int k' n=>bif decide (k=k') then arith op k m n pure else
       (match op with
       | .shl=>.ask (decide (n<0)) .fail (pure (.int k (Zac k (m*2 ^ (min n.toNat k.bits)))))
       | .shr=>.ask (decide (n<0)) .fail (pure (.int k (m.fdiv (2 ^ (min n.toNat k.bits)))))
       | _=>.fail)
   | .bool m, .bool n => match op with
     | .eql=>Zbz (eqA V 4 t (.bool m) (.bool n)) fun r=>pure (.bool r)
     | .neq=>Zbz (eqA V 4 t (.bool m) (.bool n)) fun r=>pure (.bool !r)
     | _=>.fail
   | .str m, .str n => match op with
     | .eql=>pure (.bool (m.toList == n.toList))
     | .neq=>pure (.bool (!(m.toList == n.toList)))
     | .add=>.ask (fewB (m.size+n.size)) (pure (.str (m++n))) .fail
     | _=>.fail
   | .agg cs, .agg ds => match op with
     | .eql=>bif V.P.eqGuardType V.P.depth t then .fail else Zbz (eqA V 4 t (.agg cs) (.agg ds)) fun r=>pure (.bool r)
     | .neq=>bif V.P.eqGuardType V.P.depth t then .fail else Zbz (eqA V 4 t (.agg cs) (.agg ds)) fun r=>pure (.bool !r)
     | _=>.fail
   | .fn _ _, .cst .nilFunc => match V.P.underlying t, op with
     | some (.func _ _ _),.eql=>pure (.bool false)
     | some (.func _ _ _),.neq=>pure (.bool true)
     | _,_=>.fail
   | .cst .nilFunc, .cst .nilFunc => match V.P.underlying t, op with
     | some (.func _ _ _),.eql=>pure (.bool true)
     | some (.func _ _ _),.neq=>pure (.bool false)
     | _,_=>.fail
   | _,_=>.fail
 | .unOp op _ x => opd x fun a => match op, a with
   | .neg,.int k n=>pure (.int k (Zac k (0-n)))
   | .not,.bool b=>pure (.bool !b)
   | _,_=>.fail
 | .convert src dst x => opd x fun a => match V.P.underlying src, V.P.underlying dst, a with
   | some _,some (.int k),.int _ n=>pure (.int k (k.wrap n))
   | _,_,_=>.fail
 | .fieldAddr s x f=>opd x fun a=>Zbz (Zt9 V s f) fun n=>ZtI a n pure
 | .field s x f => opd x fun a => match a, V.P.underlying s with
   | .agg cs, some (.struct fs) => match fs[f]? with
     | some fl=>Zbz (cut V fl.type cs fl.offset) fun v=>ZgC v pure
     | none=>.fail
   | _,_=>.fail
 | .indexAddr t x ix => opd x fun a => opd ix fun i => match i with
   | .int _ n=>Zqu V t a n pure
   | _=>.fail
 | .index t x ix => opd x fun a => opd ix fun i => match V.P.underlying t, a, i with
   | some .string,.str s,.int _ n=>Zhz n s.size (pure (.int .u8 ((s.data.toList.getD n.toNat 0).toNat:Int)))
   | some (.array len e),.agg cs,.int _ n=>Zbz (sizeOf? V e) fun sz=>Zhz n len (Zkn n len 0 fun i=>Zbz (cut V e cs (i*sz)) fun v=>ZgC v pure)
   | _,_,_=>.fail
 | .slice t x lo hi none=>opdo lo fun l=>opdo hi fun h=>opd x fun a=>bif V.mv fid then Zrv V nid t a l h else ZyE V t a l h
 | .extract x i => opd x fun a => match a with
   | .tup vs=>Zbz vs[i]? pure
   | _=>.fail
 | .makeFunc (.func f) first caps=>bif Nat.beq first.size 0 then opds caps.toList fun vs=>pure (.fn f vs)
     else bif Nat.beq caps.size 0 then opds first.toList fun vs=>pure (.bfn f vs) else .fail
 | .makeInterface t x => opd x fun a => match V.P.underlying t with
   | some (.interface _)=>.fail
   | some _=>pure (.ifc t a)
   | none=>.fail
 | .makeSlice t l c => opd l fun a => opd c fun b => match a, b with
   | .int .i64 n,.int .i64 m=>.ask (n == m) (.ask (decide (0<=n)) (.ask (decide (n<=Zbt))
       (Zbz (elemOf? V t) fun e=>Zbz (V.E e) fun τ=>Zbz (zeroCells? V e) fun z=>Zbz (τ.decA z) fun y =>
         bif Zjv V e τ then .rd (.m nid) fun
           | .undef=>.ret (.own nid,[(nid,.row e τ (List.replicate n.toNat y))])
           | _=>.fail
         else .fail) .fail) .fail) .fail
   | _,_=>.fail
 | .call c => match c.callee with
   | .builtin .len => bif Nat.ble 1 c.argTypes.size then opds c.args.toList fun
     | [x] => match V.P.underlying (c.argTypes.getD 0 0), x with
       | some .string,.str s=>pure (.i s.size)
       | some (.slice _),x=>lenA x
       | _,_=>.fail
     | _=>.fail
     else .fail
   | .builtin .cap => bif Nat.ble 1 c.argTypes.size then opds c.args.toList fun
     | [x] => match V.P.underlying (c.argTypes.getD 0 0), x with
       | some (.slice _),.emp=>pure (.i 0)
       | _,_=>.fail
     | _=>.fail
     else .fail
   | .builtin .max => opds c.args.toList fun
     | [.int .i64 a,.int .i64 b]=>pure (.i (if b>a then b else a))
     | _=>.fail
   | .builtin .min => opds c.args.toList fun
     | [.int .i64 a,.int .i64 b]=>pure (.i (if b<a then b else a))
     | _=>.fail
   | .builtin .append => opds c.args.toList fun
     | [s, x] =>
       bif Nat.beq c.argTypes.size 2 && Nat.beq (c.argTypes.getD 0 0) (c.argTypes.getD 1 1) then
       Zbz (elemOf? V (c.argTypes.getD 0 0)) fun e=>Zbz (V.E e) fun τ =>
       bif Zjv V e τ then
         Zih 32 nid fun nid=>elems x (fun σ ys=>match Ty.eqTy σ τ with
             | some ⟨h⟩ => match s with
               | .emp=>.ask (fewB ys.length) (.ret (.own nid,[(nid,.row e τ (h ▸ ys))])) .fail
               | .own id => .rd (.m id) fun
                 | .row e' ρ xs => bif Nat.beq e' e then match Ty.eqTy ρ τ with
                   | some ⟨g⟩=>.ask (fewB (xs.length+ys.length)) (.ret (.own nid,[(id,.gone xs.length),(nid,.row e τ ((g ▸ xs:List τ.den)++(h ▸ ys:List τ.den)))])) .fail
                   | none=>.fail
                   else .fail
                 | _=>.fail
               | _=>.fail
             | none=>.fail)
             (match s with
               | .emp=>.ret (.own nid,[(nid,.row e τ [])])
               | .own id => .rd (.m id) fun
                 | .row e' ρ xs => bif Nat.beq e' e then match Ty.eqTy ρ τ with
                   | some ⟨g⟩=>.ret (.own nid,[(id,.gone xs.length),(nid,.row e τ (g ▸ xs))])
                   | none=>.fail
                   else .fail
                 | _=>.fail
               | _=>.fail)
       else .fail
       else ZqH V nid c.argTypes s x
     | _=>.fail
   | .value f => opd f fun
     | .fn f caps => match V.G f with
       | some s=>opds c.args.toList fun vs=>bif s.lend then Zp5 (vs++caps) fun vs =>
           Zbz (s.dec vs) fun a=>.call (s.fn a) fun b=>bif (s.enc b).lendsAny then .fail else
             match ZbZ nid (s.enc b) with
             | (v,ws')=>Zl6 ws' (.ret (v,ws'))
         else (match caps with
         | [] => Zmg s.ak vs fun vs ws =>
           Zbz (s.dec vs) fun a=>.call (s.fn a) fun b =>
             match ZbZ nid (s.enc b) with
             | (v,ws')=>Zl6 ws' (.ret (v,(bif (s.enc b).lendsAny then ws else [])++ws'))
         | _=>.fail)
       | none => opds c.args.toList fun vs =>
         bif AV.stills (vs++caps) then .call (V.pure f (fid*1024+o.dst.getD 1023) (vs++caps)) fun p=>Zl6 p.2 (.ret (p.1,p.2))
         else Zp5 (vs++caps) fun vs=>.call (V.pure f (fid*1024+o.dst.getD 1023) vs) fun p=>match p.1 with
           | .int k n=>.ret (.int k n,[])
           | .bool b=>.ret (.bool b,[])
           | _=>.fail
     | .bfn g [.ptr id 0] => match V.Y g with
       | some s => bif Nat.beq c.args.size 0 then .rd (.m id) fun
         | .box cs=>Zbz (s.dec cs) fun a=>.call (s.fn a) fun b=>.ret ((s.enc b).1,[(id,.box (s.enc b).2)])
         | _=>.fail
         else .fail
       | none=>.fail
     | _=>.fail
   | _=>.fail
 | _=>.fail
def Zcv (nt:Nat) (d:Option Nat):Bool:=match d with | some d=>Nat.blt d nt | none=>true
inductive Ex where
  | normal
  | exit (id:Nat)
  | goto (l:Nat)
  | ret
def Zfu (κ:Kd) (v:AV) (ob:List (Nat×AV)):Option (AV×List (Nat×AV)) := match κ with
 | .own e τ => match v with
  | .own id => match look ob id with
   | .row e' σ xs => match Ty.eqTy σ τ with
    | some ⟨h⟩=>bif Nat.beq e' e then some (.ownv e τ (h ▸ xs),(id,.dead)::ob) else none
    | none=>none
   | _=>none
  | .emp=>some (.ownv e τ [],ob)
  | _=>none
 | .lst τ => match v with
  | .own id => match look ob id with
   | .row _ σ xs => match Ty.eqTy σ τ with
    | some ⟨h⟩=>some (.lst τ (h ▸ xs),(id,.frz σ xs)::ob)
    | none=>none
   | .frz σ xs => match Ty.eqTy σ τ with
    | some ⟨h⟩=>some (.lst τ (h ▸ xs),ob)
    | none=>none
   | _=>none
  | .lst σ xs=>match Ty.eqTy σ τ with
    | some ⟨h⟩=>some (.lst τ (h ▸ xs),ob)
    | none=>none
  | .emp=>some (.lst τ [],ob)
  | _=>none
 | .any => match v with
  | .int _ _ | .bool _ | .str _ | .fn _ [] | .cst _=>some (v,ob)
  | _=>none
 | .fnc f => match v with
  | .fn g []=>bif Nat.beq g f then some (.fn f [],ob) else none
  | _=>none
 | .nil=>none
 | .still => match v with
  | .fn f cs=>bif AV.frozens cs then some (.fn f cs,ob) else none
  | _=>none
 | .box _=>none
 | .al _ _=>none
 | .bal _ _ _=>none
def Zcb:List Kd->List AV->List (Nat×AV)->Option (List AV×List (Nat×AV))
 | [],[],ob=>some ([],ob)
 | κ :: ks, v :: vs, ob => match Zfu κ v ob with
  | some (x, ob) => match Zcb ks vs ob with
   | some (xs,ob)=>some (x::xs,ob)
   | none=>none
  | none=>none
 | _,_,_=>none
def ZmL (κ:Kd) (v:AV) (ob:List (Nat×AV)):Option (AV×List (Nat×AV)) := match κ with
 | .box ks => match v with
  | .ptr id 0 => match look ob id with
   | .box cs => match Zcb ks cs ((id, .dead) :: ob) with
    | some (xs,ob)=>some (.box xs,ob)
    | none=>none
   | _=>none
  | .agg cs=>match Zcb ks cs ob with
    | some (xs,ob)=>some (.agg xs,ob)
    | none=>none
  | _=>none
 | κ=>Zfu κ v ob
def ZeM:List (Nat×Kd)->List (Nat×AV)->List (Nat×AV)->Option (List AV×List (Nat×AV))
 | [],_,ob=>some ([],ob)
 | (t, κ) :: r, tm, ob => match ZmL κ (look tm t) ob with
  | some (x, ob) => match ZeM r tm ob with
   | some (xs,ob)=>some (x::xs,ob)
   | none=>none
  | none=>none
def Zfe (id:Nat) (v:AV):AV×Wr := match v with
 | .box cs => match Zbj (id + 1) cs with
  | (xs,ws,_)=>(.ptr id 0,(id,.box xs)::ws)
 | .agg cs => match Zbj (id + 1) cs with
  | (xs,ws,_)=>(.agg xs,ws)
 | v => match Zbm id v with
  | (x,ws,_)=>(x,ws)
def build:List (Nat×Kd)->List AV->St
 | (t, _) :: ks, v :: vs => match Zfe ((1024 + t) * 64) v with
  | (x, ws) => match build ks vs with
   | ⟨tm,ob⟩=>⟨(t,x)::tm,ws++ob⟩
 | _,_=>⟨[],[]⟩
def Zgm:List (Nat×AV)->Bool
 | []=>true
 | p::r=>bif r.all fun q=>!(Nat.beq p.1 q.1) then Zgm r else false
def Kd.isAl:Kd->Bool
 | .al _ _=>true
 | .bal _ _ _=>true
 | _=>false
def noAl (ks:List (Nat×Kd)):List (Nat×Kd):=ks.filter fun p=>!p.2.isAl
def Zlw (j off:Nat):AV:=.ptr ((1024+j)*64) off
def Zee:List (Nat×Kd)->List AV->List AV
 | [],_=>[]
 | (_, κ) :: ks, xs => match κ with
  | .al j off=>Zlw j off::Zee ks xs
  | .bal f j off=>.bfn f [Zlw j off]::Zee ks xs
  | _ => match xs with
   | x::xs=>x::Zee ks xs
   | []=>[]
def ZoD:AV->Bool
 | .box _=>true
 | _=>false
def alOk (σ τ:St) (t j off:Nat):Bool := match look σ.tm t,look σ.tm j,look τ.tm j with
 | .ptr a o,.ptr b 0,.ptr c 0=>(Nat.beq a b && Nat.beq o off && Nat.beq c ((1024+j)*64)) && (ZoD (look σ.ob a) && ZoD (look τ.ob c))
 | _,_,_=>false
def ZoZ (σ τ:St) (t:Nat) (f:FuncId) (j off:Nat):Bool := match look σ.tm t,look σ.tm j,look τ.tm j with
 | .bfn g [.ptr a o],.ptr b 0,.ptr c 0=>Nat.beq g f && ((Nat.beq a b && Nat.beq o off && Nat.beq c ((1024+j)*64)) && (ZoD (look σ.ob a) && ZoD (look τ.ob c)))
 | _,_,_=>false
def ZeW (σ τ:St):List (Nat×Kd)->Bool
 | []=>true
 | (t, κ) :: ks => match κ with
  | .al j off=>bif alOk σ τ t j off then ZeW σ τ ks else false
  | .bal f j off=>bif ZoZ σ τ t f j off then ZeW σ τ ks else false
  | _=>ZeW σ τ ks
def norm (ks:List (Nat×Kd)) (σ:St):Option (List AV) := match ZeM (noAl ks) σ.tm σ.ob with
 | some (xs,_)=>bif Zgm (build (noAl ks) xs).ob && ZeW σ (build (noAl ks) xs) ks then some (Zee ks xs) else none
 | none=>none
structure LSpec where
  keep:List (Nat×Kd)
  σ:Type
  ρ:Type
  dec:List AV->Option σ
  run:σ->Option ρ
  enc:ρ->Ex×List AV
  keepX:Ex->List (Nat×Kd)
  out:(R:Type)->ρ->(Ex->List AV->R)->R
  law:∀ (R:Type) (y:ρ) (k:Ex->List AV->R),out R y k=k (enc y).1 (enc y).2
def Zw5 {ρ:Type} (body:St->(Ex->St->Option ρ)->Option ρ) (k:Ex->St->Option ρ):Nat->St->Option ρ
 | 0,_=>none
 | n + 1, σ => body σ fun e σ => match e with
   | .normal=>Zw5 body k n σ
   | e=>k e σ
def ZaH:Code->Nat
 | .region id _ _=>id
 | .seq a _=>ZaH a
 | .block _ c=>ZaH c
 | .loop c=>ZaH c
 | .scope c=>ZaH c
 | .rangeFunc _ _ a _=>ZaH a
 | _=>0
def Zdu:Code->Bool
 | .rangeFunc _ _ _ _=>true
 | _=>false
def valOf (σ:St):Operand->AV
 | .tmp t=>look σ.tm t
 | .const v=>ofValue v
 | .func f=>.fn f []
 | .global _=>.undef
def Zrp (σ:St) (o:Oper):Option (FuncId×List AV) := match o.op with
 | .call c => match c.callee with
  | .value f => match valOf σ f with
   | .fn f caps => match V.G f with
    | some _=>bif V.walk f then some (f,c.args.toList.map (valOf σ)++caps) else none
    | none=>some (f,c.args.toList.map (valOf σ)++caps)
   | .bfn f first => match V.Y f with
    | some _=>none
    | none=>some (f,first++c.args.toList.map (valOf σ))
   | _=>none
  | _=>none
 | _=>none
abbrev Inl (ρ:Type):=FuncId->Nat->List AV->List (Nat×AV)->(AV->List (Nat×AV)->Option ρ)->Option ρ
def actK {ρ:Type} (inl:Inl ρ) (fid nt:Nat) (o:Oper) (σ:St) (k:St->Option ρ):Option ρ :=
 bif Zcv nt o.dst then
   match Zrp V σ o with
   | some (f,args)=>inl f (fid*1024+o.dst.getD 1023) args σ.ob fun v ob=>k (St.put ⟨σ.tm,ob⟩ o.dst v [])
   | none=>(ZaM V fid o).runK σ [] fun p _=>k (σ.put o.dst p.1 p.2)
 else none
def opK {ρ:Type} (inl:Inl ρ) (fid nt:Nat) (ops:Array Oper) (o:Oper) (σ:St) (k:St->Option ρ):Option ρ := match o.guard with
 | none=>actK V inl fid nt o σ k
 | some (j, want) => match (ops[j]?).bind (·.dst) with
  | some d => match look σ.tm d with
   | .bool b=>bif b then (bif want then actK V inl fid nt o ⟨(d,.bool true)::σ.tm,σ.ob⟩ k else bif Zcv nt o.dst then k (St.put ⟨(d,.bool true)::σ.tm,σ.ob⟩ o.dst (.tup []) []) else none) else (bif want then bif Zcv nt o.dst then k (St.put ⟨(d,.bool false)::σ.tm,σ.ob⟩ o.dst (.tup []) []) else none else actK V inl fid nt o ⟨(d,.bool false)::σ.tm,σ.ob⟩ k)
   | .tup []=>bif Zcv nt o.dst then k (σ.put o.dst (.tup []) []) else none
   | _=>none
  | none=>none
def opsK {ρ:Type} (inl:Inl ρ) (fid nt:Nat) (ops:Array Oper):List Oper->St->(St->Option ρ)->Option ρ
 | [],σ,k=>k σ
 | o::r,σ,k=>opK V inl fid nt ops o σ fun σ=>opsK inl fid nt ops r σ k
structure Tx where
  rs:List Loc
  dst:Option Nat
  v:AV
  ws:Wr
def Loc.mem (l:Loc):List Loc->Bool
 | []=>false
 | a::r=>bif Loc.beq a l then true else Loc.mem l r
def Tx.wl (x:Tx):List Loc :=
 match x.dst with
 | some d=>.t d::x.ws.map fun p=>.m p.1
 | none=>x.ws.map fun p=>.m p.1
def Zqi (a b:List Loc):Bool:=a.all fun l=>!(l.mem b)
def Tx.apart (a b:Tx):Bool:=Zqi a.wl b.rs && Zqi b.wl a.rs && Zqi a.wl b.wl
def txOk (bef:List Nat) (done:List (Nat×Tx)) (i:Nat) (x:Tx):Bool :=
 done.all fun p=>(bef.getD i 0).testBit p.1 || p.2.apart x
def Zep (bef:List Nat) (i:Nat):Bool:=(List.range i).all fun j=>(bef.getD i 0).testBit j
def ZeR (bef:List Nat):Nat->Nat
 | 0=>0
 | n+1=>bif Zep bef n then ZeR bef n else n+1
def txK {ρ : Type} (fid nt : Nat) (ops : Array Oper) (bef : List Nat) (o : Oper) (i : Nat) (done : List (Nat × Tx)) (σ : St)
   (k:List (Nat×Tx)->St->Option ρ):Option ρ :=
 let act (σ:St) (log:List Loc):Option ρ:=(ZaM V fid o).runK σ log fun p rs =>
   bif txOk bef done i ⟨rs,o.dst,p.1,p.2⟩ then k ((i,⟨rs,o.dst,p.1,p.2⟩)::done) (σ.put o.dst p.1 p.2) else none
 let skip (σ:St) (log:List Loc):Option ρ :=
   bif txOk bef done i ⟨log,o.dst,.tup [],[]⟩ then k ((i,⟨log,o.dst,.tup [],[]⟩)::done) (σ.put o.dst (.tup []) []) else none
 bif Zcv nt o.dst then
   match o.guard with
   | none=>act σ []
   | some (j, want) => match (ops[j]?).bind (·.dst) with
     | some d => match look σ.tm d with
       | .bool b=>bif b then
           (bif want then act ⟨(d,.bool true)::σ.tm,σ.ob⟩ [.t d] else skip ⟨(d,.bool true)::σ.tm,σ.ob⟩ [.t d])
         else
           (bif want then skip ⟨(d,.bool false)::σ.tm,σ.ob⟩ [.t d] else act ⟨(d,.bool false)::σ.tm,σ.ob⟩ [.t d])
       | .tup []=>skip σ [.t d]
       | _=>none
     | none=>none
 else none
def txsK {ρ:Type} (fid nt:Nat) (ops:Array Oper) (bef:List Nat):List Oper->Nat->List (Nat×Tx)->St->(St->Option ρ)->Option ρ
 | [],_,_,σ,k=>k σ
 | o::r,i,done,σ,k=>txK V fid nt ops bef o i done σ fun done σ=>txsK fid nt ops bef r (i+1) done σ k
def Zev:Nat->List Oper->Bool
 | _,[]=>true
 | i,o::r=>bif o.after.toList.all fun e=>!(Region.binds .any e) || Nat.blt e.on i then Zev (i+1) r else false
def Zqw {α:Type}:List Nat->(List Nat->α)->α
 | [],k=>k []
 | n::r,k=>CheckFast.force n fun n=>Zqw r fun r=>k (n::r)
theorem Zou {α:Type}:∀ (l:List Nat) (k:List Nat->α),Zqw l k=k l
 | [],_=>rfl
 | n::r,k=>by rw [Zqw,CheckFast.force_eq,Zou r]
def regK {ρ:Type} (inl:Inl ρ) (fid nt:Nat) (ops:Array Oper) (draw:Bool) (σ:St) (k:St->Option ρ):Option ρ :=
 bif draw then
   Zqw (CheckFast.beforeL ops.toList 0 []) fun bef=>CheckFast.force (ZeR bef ops.toList.length) fun n =>
   bif Zev 0 ops.toList then txsK V fid nt ops bef (ops.toList.take n) 0 [] σ fun σ=>opsK V inl fid nt ops (ops.toList.drop n) σ k else none
 else opsK V inl fid nt ops ops.toList σ k
mutual
def evK {ρ:Type} (L:Nat->Option LSpec) (inl:Inl ρ) (fid nt rounds:Nat):Code->St->(Ex->St->Option ρ)->Option ρ
 | .skip,σ,k=>k .normal σ
 | .label _,σ,k=>k .normal σ
 | .region _ ops draw,σ,k=>regK V inl fid nt ops draw σ fun σ=>k .normal σ
 | .seq a b, σ, k => evK L inl fid nt rounds a σ fun e σ => match e with
   | .normal=>evK L inl fid nt rounds b σ k
   | e=>k e σ
 | .cond c a b, σ, k => match valOf σ c with
   | .bool t=>bif t then evK L inl fid nt rounds a σ k else evK L inl fid nt rounds b σ k
   | _=>none
 | .scope c, σ, k => evK L inl fid nt rounds c σ fun e σ => match e with
   | .goto l => (match findLabel c l with
     | none=>none
     | some _ => evT L inl fid nt rounds l c σ fun e σ => (match e with
       | .goto _=>none
       | e=>k e σ))
   | e=>k e σ
 | .block id c, σ, k => evK L inl fid nt rounds c σ fun e σ => match e with
   | .exit id'=>bif Nat.beq id' id then k .normal σ else k (.exit id') σ
   | e=>k e σ
 | .rangeFunc g _ a _, σ, k => match g with
   | .tmp gt => (match ZiJ 8 (look σ.tm gt) σ.ob with
     | none=>none
     | some (gv, ob) => match L (ZaH a) with
       | none=>none
       | some s => match norm s.keep ⟨(gt, gv) :: σ.tm, ob⟩ with
         | none=>none
         | some hd => match s.dec hd with
           | none=>none
           | some x => match s.run x with
             | none=>none
             | some y=>s.out _ y fun e hd=>k e (build (s.keepX e) hd))
   | _=>none
 | .loop c, σ, k => match (bif Zdu c then none else L (ZaH c)) with
   | none=>Zw5 (fun σ k=>evK L inl fid nt rounds c σ k) k rounds σ
   | some s => match norm s.keep σ with
     | none=>none
     | some hd => match s.dec hd with
       | none=>none
       | some x => match s.run x with
         | none=>none
         | some y=>s.out _ y fun e hd=>k e (build (s.keepX e) hd)
 | .exit id,σ,k=>k (.exit id) σ
 | .ret,σ,k=>k .ret σ
 | .goto l,σ,k=>k (.goto l) σ
 | _,_,_=>none
def evT {ρ:Type} (L:Nat->Option LSpec) (inl:Inl ρ) (fid nt rounds:Nat) (l:Nat):Code->St->(Ex->St->Option ρ)->Option ρ
 | .seq a b, σ, k => match findLabel a l with
   | some _ => evT L inl fid nt rounds l a σ fun e σ => (match e with
     | .normal=>evK L inl fid nt rounds b σ k
     | e=>k e σ)
   | none=>evT L inl fid nt rounds l b σ k
 | .label l',σ,k=>bif Nat.beq l' l then k .normal σ else none
 | _,_,_=>none
end
def Zf5 {α:Type}:List ResultVar->(List AV->Rd α)->Rd α
 | [],k=>k []
 | .tmp t::r,k=>.rd (.t t) fun v=>Zf5 r fun vs=>k (v::vs)
 | .cell a t::r,k=>.rd (.t a) fun p=>rdAt V t p fun v=>Zf5 r fun vs=>k (v::vs)
def Zjd:List AV->AV
 | [v]=>v
 | vs=>.tup vs
def ZbU:Nat->List AV->List (Nat×AV)
 | _,[]=>[]
 | i,v::r=>(i,v)::ZbU (i+1) r
def fnK {ρ : Type} (L : Nat -> Option LSpec) (inl : Inl ρ) (rounds : Nat) (f : FuncId) (fid : Nat) (args : List AV) (ob : List (Nat × AV))
   (k:AV->List (Nat×AV)->Option ρ):Option ρ :=
 match V.P.funcs[f]? with
 | some fn => match fn.body with
   | some c => bif Nat.ble args.length fn.ntmps then evK V L inl fid fn.ntmps rounds c ⟨ZbU 0 args, ob⟩ fun e σ =>
     let fin:Option ρ:=(Zf5 V fn.results.toList fun vs=>.ret (Zjd vs)).runK σ [] fun v _=>k v σ.ob
     match e with
     | .normal=>fin
     | .ret=>fin
     | _=>none
     else none
   | none=>none
 | none=>none
def inlK {ρ:Type} (rounds:Nat):Nat->Inl ρ
 | 0=>fun _ _ _ _ _=>none
 | d + 1 => fun f fid args ob k => match V.X f with
   | some s => (match s.pre fid args ob with
     | some (c, post) => (match c with
       | some y=>k (post y).1 (post y).2
       | none=>none)
     | none=>none)
   | none=>bif V.ent f then fnK V (fun _=>none) (inlK rounds d) rounds f fid args ob k else none
def ZlZ (κ:Kd) (v:AV) (ob:List (Nat×AV)):Option (AV×List (Nat×AV)) := match κ with
 | .box ks => match v with
  | .agg cs=>match Zcb ks cs ob with
   | some (xs,ob)=>some (.agg xs,ob)
   | none=>none
  | _=>none
 | κ=>Zfu κ v ob
def ZhC:List Kd->List AV->List (Nat×AV)->Option (List AV×List (Nat×AV))
 | [],[],ob=>some ([],ob)
 | κ :: ks, v :: vs, ob => match ZlZ κ v ob with
  | some (x, ob) => match ZhC ks vs ob with
   | some (xs,ob)=>some (x::xs,ob)
   | none=>none
  | none=>none
 | _,_,_=>none
def Zko (ks:List Kd) (v:AV) (ob:List (Nat×AV)):Option AV := match v with
 | .tup vs => match ZhC ks vs ob with
  | some (xs,_)=>some (.tup xs)
  | none=>none
 | v => match ks with
  | [κ] => match ZlZ κ v ob with
   | some (x,_)=>some x
   | none=>none
  | _=>none
def Zi4 {ρ:Type} (L:Nat->Option LSpec) (rounds depth:Nat) (f:FuncId) (rk:List Kd) (args:List AV) (k:AV->Option ρ):Option ρ :=
 fnK V L (inlK V rounds depth) rounds f 1 args [] fun v ob=>match Zko rk v ob with
   | some r=>k r
   | none=>none
end
end Go.Proofs.Mill
namespace Go.Proofs.Mill
open Go.RowKit
inductive DV (w:World) (ok:Nat->Prop):D->Value->Prop
  | int (k:IntKind) (n:Int):DV w ok (.int k n) (.int k n)
  | bool (b:Bool):DV w ok (.bool b) (.bool b)
  | str (s:ByteArray):DV w ok (.str s) (.string s)
  | fn (f:FuncId):DV w ok (.fn f) (.func (.func f) #[] #[])
  | nil (sz:Nat) (A:Option Addr) (c:Nat) (hA:A=none->c=0):DV w ok (.lst sz []) (.slice A 0 c)
  | lst (sz:Nat) (rows:List (List D)) (b off c:Nat) (u:Nat->Value) (hc:rows.length<=c) (hsz:∀ r∈rows,r.length=sz)
      (hcell:∀ j d,rows.flatten[j]?=some d->w.cell? ⟨b,off+j,none⟩=some (u j))
      (hdv:∀ j d,rows.flatten[j]?=some d->DV w ok d (u j)) (hok:ok b) :
      DV w ok (.lst sz rows) (.slice (some ⟨b,off,none⟩) rows.length c)
theorem cell?_heap {w w':World} {b:Nat} (h:w'.heap[b]?=w.heap[b]?) (o:Nat):w'.cell? ⟨b,o,none⟩=w.cell? ⟨b,o,none⟩ :=
 World.cell?_of_block (w:=w) (w':=w') (a:=⟨b,o,none⟩) h
theorem DV.mono {w w':World} {ok ok':Nat->Prop} (hok:∀ b,ok b->ok' b) (hw:∀ b,ok b->w'.heap[b]?=w.heap[b]?) :
   ∀ {d v},DV w ok d v->DV w' ok' d v:=by
 intro d v h
 induction h with
 | int k n=>exact .int k n
 | bool b=>exact .bool b
 | str s=>exact .str s
 | fn f=>exact .fn f
 | nil sz A c hA=>exact .nil sz A c hA
 | lst sz rows b off c u hc hsz hcell hdv hb ih =>
   exact .lst sz rows b off c u hc hsz (fun j d hj=>(cell?_heap (hw b hb) _).trans (hcell j d hj)) (fun j d hj=>ih j d hj) (hok b hb)
structure Cx where
  w:World
  ob:Nat->AV
  mu:Nat->Option Nat
  ok:Nat->Prop
def Cx.okb (c:Cx) (b:Nat):Prop:=c.ok b/\b<c.w.heap.size/\∀ id,c.mu id≠some b
def Cx.DV (c:Cx):D->Value->Prop:=Mill.DV c.w c.okb
def Cx.DVs (c:Cx):List D->List Value->Prop
 | [],[]=>True
 | d::ds,v::vs=>c.DV d v/\c.DVs ds vs
 | _,_=>False
def LptrV (c:Cx) (τ:Ty) (xs:List τ.den) (i off:Nat) (v:Value):Prop := i < xs.length /\ ∃ b o, ∃ u : Nat -> Value, v = .pointer (some ⟨b, o + i * τ.sz + off, none⟩) /\ c.okb b /\ (∀ j d,(xs.map τ.enc).flatten[j]?=some d->c.w.cell? ⟨b,o+j,none⟩=some (u j))/\∀ j d,(xs.map τ.enc).flatten[j]?=some d->c.DV d (u j)
def ZgP (c:Cx) (e:TypeId) (τ:Ty) (b:Nat) (cap:Nat) (cur:Array Value):Prop :=
 c.w.heap[b]?=some (.cells cur e (0,0))/\cur.size=cap*τ.sz
def OwnV (c:Cx) (id:Nat) (v:Value):Prop := match c.ob id with
 | .row e τ xs=>(c.mu id=none/\xs=[]/\∃ A,v=.slice A 0 0) \/ ∃ b cap cur,c.mu id=some b/\ZgP c e τ b cap cur/\xs.length<=cap/\v=.slice (some ⟨b,0,none⟩) xs.length cap
 | .frz τ xs=>c.DV (.lst τ.sz (xs.map τ.enc)) v
 | .dead=>v.oneCell'=true
 | .gone n=>∃ A cap,v=.slice A n cap
 | _=>False
def PtrV (c:Cx) (id off:Nat) (v:Value):Prop := match c.ob id with
 | .box _=>∃ b,c.mu id=some b/\v=.pointer (some ⟨b,off,none⟩)
 | .dead=>∃ a,v=.pointer (some a)
 | .gone _=>∃ a,v=.pointer (some a)
 | _=>False
def EptrV (c:Cx) (id i off:Nat) (v:Value):Prop := match c.ob id with
 | .row _ τ xs=>∃ b,c.mu id=some b/\v=.pointer (some ⟨b,i*τ.sz+off,none⟩)/\i<xs.length
 | .frz τ xs=>LptrV c τ xs i off v
 | .dead=>∃ a,v=.pointer (some a)
 | .gone _=>∃ a,v=.pointer (some a)
 | _=>False
theorem Cx.DV.one {c:Cx} {d:D} {v:Value} (h:c.DV d v):v.oneCell'=true:=by
 cases h <;> rfl
theorem OwnV.one {c:Cx} {id:Nat} {v:Value} (h:OwnV c id v):v.oneCell'=true:=by
 unfold OwnV at h
 split at h
 . rcases h with ⟨_,_,A,rfl⟩ | ⟨_,_,_,_,_,_,rfl⟩ <;> rfl
 . exact h.one
 . exact h
 . obtain ⟨_,_,rfl⟩:=h;rfl
 . exact h.elim
theorem PtrV.some {c:Cx} {id off:Nat} {v:Value} (h:PtrV c id off v):∃ a,v=.pointer (some a):=by
 unfold PtrV at h
 split at h
 . obtain ⟨_,_,rfl⟩:=h;exact ⟨_,rfl⟩
 . exact h
 . exact h
 . exact h.elim
theorem PtrV.one {c:Cx} {id off:Nat} {v:Value} (h:PtrV c id off v):v.oneCell'=true:=by
 obtain ⟨a,rfl⟩:=h.some;rfl
theorem EptrV.some {c:Cx} {id i off:Nat} {v:Value} (h:EptrV c id i off v):∃ a,v=.pointer (some a):=by
 unfold EptrV at h
 split at h
 . obtain ⟨_,_,rfl,_⟩:=h;exact ⟨_,rfl⟩
 . obtain ⟨_,_,_,_,rfl,_⟩:=h;exact ⟨_,rfl⟩
 . exact h
 . exact h
 . exact h.elim
theorem EptrV.one {c:Cx} {id i off:Nat} {v:Value} (h:EptrV c id i off v):v.oneCell'=true:=by
 obtain ⟨a,rfl⟩:=h.some;rfl
mutual
def V (c:Cx):AV->Value->Prop
 | .undef,_=>True
 | .int k n,v=>v=.int k n
 | .bool b,v=>v=.bool b
 | .str s,v=>v=.string s
 | .lst τ xs,v=>c.DV (.lst τ.sz (xs.map τ.enc)) v
 | .lstn τ xs,v=>c.DV (.lst τ.sz (xs.map τ.enc)) v/\v≠.slice none 0 0
 | .emp,v=>v=.slice none 0 0
 | .own id,v=>OwnV c id v
 | .ownv _ _ _,_=>False
 | .ptr id off,v=>PtrV c id off v
 | .eptr id i off,v=>EptrV c id i off v
 | .lptr τ xs i off,v=>LptrV c τ xs i off v
 | .cptr cs off,v=>∃ b cur e,v=.pointer (some ⟨b,off,none⟩)/\c.okb b/\c.w.heap[b]?=some (.cells cur e (0,0))/\VL c cs cur.toList
 | .agg cs,v=>∃ vs:Array Value,v=.agg vs/\VL c cs vs.toList
 | .tup cs,v=>∃ vs:Array Value,v=.tuple vs/\VL c cs vs.toList
 | .fn f caps,v=>∃ vs:Array Value,v=.func (.func f) #[] vs/\VL c caps vs.toList
 | .bfn f first,v=>∃ vs:Array Value,v=.func (.func f) vs #[]/\VL c first vs.toList
 | .cst u,v=>v=u
 | .ifc t x,v=>∃ u,v=.iface t u/\V c x u
 | .box _,_=>False
 | .row _ _ _,_=>False
 | .frz _ _,_=>False
 | .dead,_=>False
 | .gone _,_=>False
def VL (c:Cx):List AV->List Value->Prop
 | [],[]=>True
 | x::xs,v::vs=>V c x v/\VL c xs vs
 | _,_=>False
end
structure Mono5 (c c':Cx):Prop where
  dv:∀ d v,c.DV d v->c'.DV d v
  own:∀ id v,OwnV c id v->OwnV c' id v
  ptr:∀ id off v,PtrV c id off v->PtrV c' id off v
  eptr:∀ id i off v,EptrV c id i off v->EptrV c' id i off v
  lptr:∀ τ xs i off v,LptrV c τ xs i off v->LptrV c' τ xs i off v
structure MonoB (c c':Cx):Prop extends Mono5 c c' where
  blk:∀ b,c.okb b->c'.okb b/\c'.w.heap[b]?=c.w.heap[b]?
structure Mono (c c':Cx):Prop extends MonoB c c' where
  off:∀ b,b<c.w.heap.size->(∀ id,c.mu id≠some b)->(∀ id,c'.mu id≠some b)/\c'.w.heap[b]?=c.w.heap[b]?
mutual
theorem MonoB.v {c c':Cx} (h:MonoB c c'):∀ (x:AV) (v:Value),V c x v->V c' x v
 | .undef,_,_=>trivial
 | .int _ _,_,hv=>hv
 | .bool _,_,hv=>hv
 | .str _,_,hv=>hv
 | .lst _ _,_,hv=>h.dv _ _ hv
 | .lstn _ _,_,hv=>⟨h.dv _ _ hv.1,hv.2⟩
 | .emp,_,hv=>hv
 | .own _,_,hv=>h.own _ _ hv
 | .ownv _ _ _,_,hv=>hv
 | .ptr _ _,_,hv=>h.ptr _ _ _ hv
 | .eptr _ _ _,_,hv=>h.eptr _ _ _ _ hv
 | .lptr _ _ _ _,_,hv=>h.lptr _ _ _ _ _ hv
 | .cptr cs _,_,⟨b,cur,e,h1,h2,h3,h4⟩=>⟨b,cur,e,h1,(h.blk b h2).1,((h.blk b h2).2).trans h3,h.vl cs cur.toList h4⟩
 | .agg cs,_,⟨vs,e,hv⟩=>⟨vs,e,h.vl cs vs.toList hv⟩
 | .tup cs,_,⟨vs,e,hv⟩=>⟨vs,e,h.vl cs vs.toList hv⟩
 | .fn _ caps,_,⟨vs,e,hv⟩=>⟨vs,e,h.vl caps vs.toList hv⟩
 | .bfn _ first,_,⟨vs,e,hv⟩=>⟨vs,e,h.vl first vs.toList hv⟩
 | .cst _,_,hv=>hv
 | .ifc _ x,_,⟨u,e,hv⟩=>⟨u,e,h.v x u hv⟩
 | .box _,_,hv=>hv
 | .row _ _ _,_,hv=>hv
 | .frz _ _,_,hv=>hv
 | .dead,_,hv=>hv
 | .gone _,_,hv=>hv
theorem MonoB.vl {c c':Cx} (h:MonoB c c'):∀ (xs:List AV) (vs:List Value),VL c xs vs->VL c' xs vs
 | [],[],hv=>hv
 | x::xs,v::vs,⟨a,b⟩=>⟨h.v x v a,h.vl xs vs b⟩
end
theorem Mono5.refl (c:Cx):Mono5 c c:=⟨fun _ _ h=>h,fun _ _ h=>h,fun _ _ _ h=>h,fun _ _ _ _ h=>h,fun _ _ _ _ _ h=>h⟩
theorem Mono5.trans {a b c:Cx} (h:Mono5 a b) (k:Mono5 b c):Mono5 a c :=
 ⟨fun _ _ x=>k.dv _ _ (h.dv _ _ x),fun _ _ x=>k.own _ _ (h.own _ _ x),fun _ _ _ x=>k.ptr _ _ _ (h.ptr _ _ _ x),
  fun _ _ _ _ x=>k.eptr _ _ _ _ (h.eptr _ _ _ _ x),fun _ _ _ _ _ x=>k.lptr _ _ _ _ _ (h.lptr _ _ _ _ _ x)⟩
theorem Mono.refl (c:Cx):Mono c c:=⟨⟨Mono5.refl c,fun _ h=>⟨h,rfl⟩⟩,fun _ _ h=>⟨h,rfl⟩⟩
theorem Mono.trans {a b c:Cx} (h:Mono a b) (k:Mono b c):Mono a c :=
 ⟨⟨h.toMono5.trans k.toMono5,fun x hx=>⟨(k.blk x (h.blk x hx).1).1,((k.blk x (h.blk x hx).1).2).trans (h.blk x hx).2⟩⟩,fun x hx hn=>by
   obtain ⟨h1,h2⟩:=h.off x hx hn
   have hlt:x<b.w.heap.size:=by
     rw [Array.getElem?_eq_getElem hx] at h2
     exact (Array.getElem?_eq_some_iff.1 h2).1
   obtain ⟨k1,k2⟩:=k.off x hlt h1
   exact ⟨k1,k2.trans h2⟩⟩
theorem VL.length {c:Cx}:∀ {xs:List AV} {vs:List Value},VL c xs vs->xs.length=vs.length
 | [],[],_=>rfl
 | _::_,_::_,⟨_,b⟩=>by simp [VL.length b]
theorem VL.get {c:Cx}:∀ {xs:List AV} {vs:List Value},VL c xs vs->∀ (i:Nat) (x:AV),xs[i]?=some x->∃ v,vs[i]?=some v/\V c x v
 | [],[],_,i,x,h=>by simp at h
 | _::_,v::_,⟨a,_⟩,0,_,h=>by simp at h;subst h;exact ⟨v,rfl,a⟩
 | _::_,_::_,⟨_,b⟩,i+1,x,h=>by simp at h;simpa using VL.get b i x h
theorem VL.append {c:Cx}:∀ {xs ys:List AV} {vs us:List Value},VL c xs vs->VL c ys us->VL c (xs++ys) (vs++us)
 | [],_,[],_,_,h=>h
 | _::_,_,_::_,_,⟨a,b⟩,h=>⟨a,VL.append b h⟩
theorem VL.take {c:Cx}:∀ {xs:List AV} {vs:List Value} (n:Nat),VL c xs vs->VL c (xs.take n) (vs.take n)
 | [],[],_,_=>by simp [VL]
 | _::_,_::_,0,_=>by simp [VL]
 | _::_,_::_,n+1,⟨a,b⟩=>⟨a,VL.take n b⟩
theorem VL.drop {c:Cx}:∀ {xs:List AV} {vs:List Value} (n:Nat),VL c xs vs->VL c (xs.drop n) (vs.drop n)
 | [],[],_,_=>by simp [VL]
 | _::_,_::_,0,h=>h
 | _::_,_::_,n+1,⟨_,b⟩=>VL.drop n b
theorem VL.split {c:Cx}:∀ {xs ys:List AV} {vs:List Value},VL c (xs++ys) vs->∃ us ws,vs=us++ws/\VL c xs us/\VL c ys ws
 | [],_,vs,h=>⟨[],vs,rfl,trivial,h⟩
 | _ :: _, _, v :: vs, ⟨a, b⟩ => by
   obtain ⟨us,ws,rfl,h1,h2⟩:=VL.split b
   exact ⟨v::us,ws,rfl,⟨a,h1⟩,h2⟩
def ObjOK (c:Cx) (id:Nat):Prop := match c.ob id with
 | .box cs=>∃ b cur e,c.mu id=some b/\c.w.heap[b]?=some (.cells cur e (0,0))/\VL c cs cur.toList
 | .row e τ xs=>(c.mu id=none/\xs=[]) \/ ∃ b cap cur,c.mu id=some b/\ZgP c e τ b cap cur/\xs.length<=cap/\cap<=maxLen/\c.DVs (xs.map τ.enc).flatten (cur.toList.take (xs.length*τ.sz))
 | .undef=>c.mu id=none
 | .dead=>c.mu id=none
 | .gone _=>c.mu id=none
 | .frz _ _=>c.mu id=none
 | _=>False
structure Mem (w0:World) (c:Cx):Prop where
  obj:∀ id,ObjOK c id
  inj:∀ id id' b,c.mu id=some b->c.mu id'=some b->id=id'
  base:∀ id b,c.mu id=some b->w0.heap.size<=b
  ext:Below w0.heap.size w0 c.w
  okn:∀ b,w0.heap.size<=b->c.ok b\/(b<c.w.heap.size/\∀ id,c.mu id≠some b)
theorem Mem.own_ok {w0:World} {c:Cx} (h:Mem w0 c) {id b:Nat} (hb:c.mu id=some b):c.ok b:=(h.okn b (h.base id b hb)).elim (fun x=>x) (fun e=>(e.2 id hb).elim)
theorem Mem.new_ok {w0:World} {c:Cx} (h:Mem w0 c) {b:Nat} (hb:c.w.heap.size<=b):c.ok b:=(h.okn b (Nat.le_trans h.ext.size hb)).elim (fun x=>x) (fun e=>absurd e.1 (Nat.not_lt.2 hb))
theorem Mem.okn_of {w0:World} {c c':Cx} (h:Mem w0 c) (ho:c'.ok=c.ok) (hs:c.w.heap.size<=c'.w.heap.size) (hm:∀ b,b<c.w.heap.size->(∀ id,c.mu id≠some b)->∀ id,c'.mu id≠some b) :
   ∀ b,w0.heap.size<=b->c'.ok b\/(b<c'.w.heap.size/\∀ id,c'.mu id≠some b):=fun b hb=>by
 rcases h.okn b hb with h1 | ⟨h1,h2⟩
 . exact .inl (by rw [ho];exact h1)
 . exact .inr ⟨Nat.lt_of_lt_of_le h1 hs,hm b h1 h2⟩
theorem Mem.lt {w0:World} {c:Cx} (h:Mem w0 c) {id b:Nat} (hb:c.mu id=some b):b<c.w.heap.size:=by
 have ho:=h.obj id
 have key:∀ {o:Obj},c.w.heap[b]?=some o->b<c.w.heap.size:=fun h=>(Array.getElem?_eq_some_iff.1 h).1
 unfold ObjOK at ho
 split at ho
 . obtain ⟨b',cur,e,h1,h2,_⟩:=ho
   rw [hb] at h1;cases h1;exact key h2
 . rcases ho with ⟨h1,_⟩ | ⟨b',cap,cur,h1,h2,_⟩
   . rw [hb] at h1;cases h1
   . rw [hb] at h1;cases h1;exact key h2.1
 . rw [hb] at ho;cases ho
 . rw [hb] at ho;cases ho
 . rw [hb] at ho;cases ho
 . rw [hb] at ho;cases ho
 . exact ho.elim
def Marks (n0:Nat) (c:Cx) (ds:List Deferred):Prop :=
 ds.Nodup/\∀ d∈ds,∃ D,d={ target:=.collected D,args:=#[] }/\n0<=D/\c.okb D/\c.w.heap[D]?=some (.deferred (some []))
theorem Marks.nil (n0:Nat) (c:Cx):Marks n0 c []:=⟨List.nodup_nil,fun _ h=>by cases h⟩
theorem MonoB.marks {n0:Nat} {c c':Cx} (h:MonoB c c') {ds:List Deferred} (m:Marks n0 c ds):Marks n0 c' ds :=
 ⟨m.1,fun d hd=>by
   obtain ⟨D,e,h0,h1,h2⟩:=m.2 d hd
   exact ⟨D,e,h0,(h.blk D h1).1,((h.blk D h1).2).trans h2⟩⟩
structure R (w0:World) (ok:Nat->Prop) (nt:Nat) (ds:List Deferred) (σ:St) (a:Act) (w:World) (mu:Nat->Option Nat):Prop where
  mem:Mem w0 ⟨w,look σ.ob,mu,ok⟩
  tm:∀ t,t<nt->V ⟨w,look σ.ob,mu,ok⟩ (look σ.tm t) (a.tmps.getD t undef)
  far:∀ t,nt<=t->look σ.tm t=.undef
  size:a.tmps.size=nt
  defers:a.defers=ds
  marks:Marks w0.heap.size ⟨w,look σ.ob,mu,ok⟩ ds
end Go.Proofs.Mill
namespace Go.Proofs.Mill
open Go.RowKit
theorem Cx.DVs.length {c:Cx}:∀ {ds:List D} {vs:List Value},c.DVs ds vs->ds.length=vs.length
 | [],[],_=>rfl
 | _::_,_::_,⟨_,b⟩=>by simp [Cx.DVs.length b]
theorem Cx.DVs.get {c:Cx}:∀ {ds:List D} {vs:List Value},c.DVs ds vs->∀ (i:Nat) (d:D),ds[i]?=some d->∃ v,vs[i]?=some v/\c.DV d v
 | [],[],_,i,d,h=>by simp at h
 | _::_,v::_,⟨a,_⟩,0,_,h=>by simp at h;subst h;exact ⟨v,rfl,a⟩
 | _::_,_::_,⟨_,b⟩,i+1,d,h=>by simp at h;simpa using Cx.DVs.get b i d h
theorem Cx.DVs.mk {c:Cx}:∀ {ds:List D} {vs:List Value},ds.length=vs.length->(∀ (i:Nat) (d:D) (v:Value),ds[i]?=some d->vs[i]?=some v->c.DV d v)->c.DVs ds vs
 | [],[],_,_=>trivial
 | [],_::_,h,_=>by simp at h
 | _::_,[],h,_=>by simp at h
 | d::ds,v::vs,h,k=>⟨k 0 d v rfl rfl,Cx.DVs.mk (by simpa using h) fun i d' v' hd hv=>k (i+1) d' v' (by simpa using hd) (by simpa using hv)⟩
theorem Cx.DVs.append {c:Cx}:∀ {xs ys:List D} {vs us:List Value},c.DVs xs vs->c.DVs ys us->c.DVs (xs++ys) (vs++us)
 | [],_,[],_,_,h=>h
 | _::_,_,_::_,_,⟨a,b⟩,h=>⟨a,Cx.DVs.append b h⟩
theorem Cx.DVs.imp {c c':Cx} (h:∀ d v,c.DV d v->c'.DV d v):∀ {ds:List D} {vs:List Value},c.DVs ds vs->c'.DVs ds vs
 | [],[],_=>trivial
 | _::_,_::_,⟨a,b⟩=>⟨h _ _ a,DVs.imp h b⟩
theorem Cx.DVs.split {c:Cx}:∀ {xs ys:List D} {vs:List Value},c.DVs (xs++ys) vs->∃ us ws,vs=us++ws/\c.DVs xs us/\c.DVs ys ws
 | [],_,vs,h=>⟨[],vs,rfl,trivial,h⟩
 | _ :: _, _, v :: vs, ⟨a, b⟩ => by
   obtain ⟨us,ws,rfl,h1,h2⟩:=Cx.DVs.split b
   exact ⟨v::us,ws,rfl,⟨a,h1⟩,h2⟩
theorem Zbn (τ:Ty):∀ (xs:List τ.den),(xs.map τ.enc).flatten.length=xs.length*τ.sz
 | []=>by simp
 | x::xs=>by simp only [List.map_cons,List.flatten_cons,List.length_append,Zbn τ xs,τ.enc_length,List.length_cons];rw [Nat.add_mul];omega
theorem Zsx {c:Cx} {e:TypeId} {τ:Ty} {xs:List τ.den} {b cap:Nat} {cur:Array Value} (hr:ZgP c e τ b cap cur) (hl:xs.length<=cap)
   (hd:c.DVs (xs.map τ.enc).flatten (cur.toList.take (xs.length*τ.sz))) (hb:c.okb b) :
   c.DV (.lst τ.sz (xs.map τ.enc)) (.slice (some ⟨b,0,none⟩) xs.length cap):=by
 have h:=DV.lst (w:=c.w) (ok:=c.okb) τ.sz (xs.map τ.enc) b 0 cap (fun j=>cur.getD j undef) (by simpa using hl)
   (fun r hr=>by obtain ⟨x,_,rfl⟩:=List.mem_map.1 hr;exact τ.enc_length x)
   (fun j d hj=>by
     obtain ⟨v,hv,_⟩:=hd.get j d hj
     have hv':cur[j]?=some v:=by
       rw [List.getElem?_take] at hv
       split at hv
       . simpa using hv
       . simp at hv
     simp only [World.cell?,hr.1,Nat.zero_add]
     simp [hv',Array.getD_eq_getD_getElem?])
   (fun j d hj=>by
     obtain ⟨v,hv,hdv⟩:=hd.get j d hj
     have hv':cur[j]?=some v:=by
       rw [List.getElem?_take] at hv
       split at hv
       . simpa using hv
       . simp at hv
     simp only [Array.getD_eq_getD_getElem?,hv',Option.getD_some]
     exact hdv) hb
 rw [List.length_map] at h
 exact h
def Keep (c c':Cx) (id:Nat):Prop := c.ob id=.undef\/c'.ob id=.dead \/ (c'.ob id=c.ob id/\c'.mu id=c.mu id/\∀ b,c.mu id=some b->c'.w.heap[b]?=c.w.heap[b]?) \/ (∃ cs cs',c.ob id=.box cs/\c'.ob id=.box cs'/\c'.mu id=c.mu id) \/ (∃ e τ,∃ xs ys:List τ.den,c.ob id=.row e τ xs/\c'.ob id=.row e τ ys/\ys.length=xs.length/\c'.mu id=c.mu id /\ ∀ b cap cur,c.mu id=some b->ZgP c e τ b cap cur->∃ cur',ZgP c' e τ b cap cur') \/ (∃ e τ,∃ xs:List τ.den,c.ob id=.row e τ xs/\c'.ob id=.frz τ xs /\ ((c.mu id=none/\xs=[])\/∃ b cap cur,c.mu id=some b/\ZgP c e τ b cap cur/\xs.length<=cap /\ c'.DVs (xs.map τ.enc).flatten (cur.toList.take (xs.length*τ.sz))/\c'.okb b/\c'.w.heap[b]?=c.w.heap[b]?)) \/ (∃ e τ,∃ xs:List τ.den,c.ob id=.row e τ xs/\c'.ob id=.gone xs.length)
theorem Zfr {c c':Cx} (h1:∀ b,c.okb b->c'.okb b/\c'.w.heap[b]?=c.w.heap[b]?) (h2:∀ id,Keep c c' id):MonoB c c':=by
 have hdv:∀ d v,c.DV d v->c'.DV d v:=fun d v h=>DV.mono (fun b hb=>(h1 b hb).1) (fun b hb=>(h1 b hb).2) h
 have hlp:∀ τ xs i off v,LptrV c τ xs i off v->LptrV c' τ xs i off v:=by
   rintro τ xs i off v ⟨hi,b,o,u,rfl,hb,hc,hd⟩
   exact ⟨hi,b,o,u,rfl,(h1 b hb).1,fun j d hj=>(cell?_heap (h1 b hb).2 _).trans (hc j d hj),fun j d hj=>hdv _ _ (hd j d hj)⟩
 refine ⟨⟨hdv,?_,?_,?_,hlp⟩,h1⟩
 . intro id v h
   rcases h2 id with h0 | h0 | ⟨h0,hm,hh⟩ | ⟨cs,cs',h0,h0',hm⟩ | ⟨e,τ,xs,ys,h0,h0',hl,hm,hrow⟩ | ⟨e,τ,xs,h0,h0',hrow⟩ | ⟨e,τ,xs,h0,h0'⟩
   . simp [OwnV,h0] at h
   . have:=h.one;simp only [OwnV,h0];exact this
   . unfold OwnV at h ⊢
     rw [h0]
     cases hob:c.ob id <;> rw [hob] at h <;> try exact h
     case row e τ xs =>
       simp only at h ⊢
       rcases h with ⟨a,b,d⟩ | ⟨b,cap,cur,a,r,l,d⟩
       . exact .inl ⟨hm.trans a,b,d⟩
       . exact .inr ⟨b,cap,cur,hm.trans a,⟨(hh b a).trans r.1,r.2⟩,l,d⟩
     case frz τ xs=>exact hdv _ _ h
   . simp [OwnV,h0] at h
   . simp only [OwnV,h0] at h
     simp only [OwnV,h0']
     rcases h with ⟨a,b,d⟩ | ⟨b,cap,cur,a,r,l,d⟩
     . subst b
       exact .inl ⟨hm.trans a,List.length_eq_zero_iff.1 (by simpa using hl),d⟩
     . obtain ⟨cur',r'⟩:=hrow b cap cur a r
       exact .inr ⟨b,cap,cur',hm.trans a,r',hl ▸ l,by rw [hl];exact d⟩
   . simp only [OwnV,h0] at h
     simp only [OwnV,h0']
     rcases h with ⟨a,rfl,A,rfl⟩ | ⟨b,cap,cur,a,r,l,rfl⟩
     . exact DV.nil _ _ _ (fun _=>rfl)
     . rcases hrow with ⟨hn,_⟩ | ⟨b',cap',cur',a',r',l',hd,hb,hheap⟩
       . rw [a] at hn;cases hn
       . rw [a] at a';cases a'
         have e1:=r.1.symm.trans r'.1
         simp only [Option.some.injEq,Obj.cells.injEq,and_true] at e1
         subst e1
         have hcap:cap=cap':=Nat.eq_of_mul_eq_mul_right τ.sz_pos (r.2.symm.trans r'.2)
         subst hcap
         exact Zsx ⟨hheap.trans r.1,r.2⟩ l hd hb
   . simp only [OwnV,h0] at h
     simp only [OwnV,h0']
     rcases h with ⟨a,rfl,A,rfl⟩ | ⟨b,cap,cur,a,r,l,rfl⟩
     . exact ⟨_,_,rfl⟩
     . exact ⟨_,_,rfl⟩
 . intro id off v h
   rcases h2 id with h0 | h0 | ⟨h0,hm,hh⟩ | ⟨cs,cs',h0,h0',hm⟩ | ⟨e,τ,xs,ys,h0,h0',hl,hm,hrow⟩ | ⟨e,τ,xs,h0,h0',hrow⟩ | ⟨e,τ,xs,h0,h0'⟩
   . simp [PtrV,h0] at h
   . have:=h.some;simp only [PtrV,h0];exact this
   . unfold PtrV at h ⊢
     rw [h0]
     cases hob:c.ob id <;> rw [hob] at h <;> try exact h
     case box cs=>obtain ⟨b,a,e⟩:=h;exact ⟨b,hm.trans a,e⟩
   . simp only [PtrV,h0] at h
     simp only [PtrV,h0']
     obtain ⟨b,a,e⟩:=h
     exact ⟨b,hm.trans a,e⟩
   . simp [PtrV,h0] at h
   . simp [PtrV,h0] at h
   . simp [PtrV,h0] at h
 . intro id i off v h
   rcases h2 id with h0 | h0 | ⟨h0,hm,hh⟩ | ⟨cs,cs',h0,h0',hm⟩ | ⟨e,τ,xs,ys,h0,h0',hl,hm,hrow⟩ | ⟨e,τ,xs,h0,h0',hrow⟩ | ⟨e,τ,xs,h0,h0'⟩
   . simp [EptrV,h0] at h
   . have:=h.some;simp only [EptrV,h0];exact this
   . unfold EptrV at h ⊢
     rw [h0]
     cases hob:c.ob id <;> rw [hob] at h <;> try exact h
     case row e τ xs=>obtain ⟨b,a,e⟩:=h;exact ⟨b,hm.trans a,e⟩
     case frz τ xs=>exact hlp _ _ _ _ _ h
   . simp [EptrV,h0] at h
   . simp only [EptrV,h0] at h
     simp only [EptrV,h0']
     obtain ⟨b,a,e,l⟩:=h
     exact ⟨b,hm.trans a,e,hl ▸ l⟩
   . simp only [EptrV,h0] at h
     simp only [EptrV,h0']
     obtain ⟨b,a,rfl,l⟩:=h
     rcases hrow with ⟨hn,_⟩ | ⟨b',cap',cur',a',r',l',hd,hb,hheap⟩
     . rw [a] at hn;cases hn
     . rw [a] at a';cases a'
       refine ⟨l,b,0,fun j=>cur'.getD j undef,by simp,hb,?_,?_⟩ <;> intro j d hj <;> obtain ⟨v,hv,hdv'⟩:=hd.get j d hj <;>
         have hv':cur'[j]?=some v:=by
           rw [List.getElem?_take] at hv
           split at hv
           . simpa using hv
           . simp at hv
       . simp only [World.cell?,hheap,r'.1,Nat.zero_add]
         simp [hv',Array.getD_eq_getD_getElem?]
       . simp only [Array.getD_eq_getD_getElem?,hv',Option.getD_some]
         exact hdv'
   . simp only [EptrV,h0] at h
     simp only [EptrV,h0']
     obtain ⟨b,_,rfl,_⟩:=h
     exact ⟨_,rfl⟩
theorem Zdf {c c':Cx} (h1:∀ b,c.okb b->c'.okb b/\c'.w.heap[b]?=c.w.heap[b]?) (h2:∀ id,Keep c c' id)
   (h3:∀ b,b<c.w.heap.size->(∀ id,c.mu id≠some b)->(∀ id,c'.mu id≠some b)/\c'.w.heap[b]?=c.w.heap[b]?):Mono c c':=⟨Zfr h1 h2,h3⟩
theorem look_eq (id:Nat) (o:AV) (ob:List (Nat×AV)):look ((id,o)::ob) id=o:=by
 simp [look]
theorem ZaQ {id j:Nat} (o:AV) (ob:List (Nat×AV)) (h:id≠j):look ((id,o)::ob) j=look ob j:=by
 have:Nat.beq id j=false:=by
   rcases hb:Nat.beq id j with _ | _
   . rfl
   . exact (h (Nat.eq_of_beq_eq_true hb)).elim
 simp [look,this]
def upd (mu:Nat->Option Nat) (id:Nat) (b:Option Nat) (j:Nat):Option Nat:=if j=id then b else mu j
theorem Zbw (mu:Nat->Option Nat) (id:Nat) (b:Option Nat):upd mu id b id=b:=by simp [upd]
theorem Zbp (mu:Nat->Option Nat) {id j:Nat} (b:Option Nat) (h:j≠id):upd mu id b j=mu j:=by simp [upd,h]
end Go.Proofs.Mill
namespace Go.Proofs.Mill
open Go.RowKit
abbrev cx (w:World) (ob:List (Nat×AV)) (mu:Nat->Option Nat) (ok:Nat->Prop):Cx:=⟨w,look ob,mu,ok⟩
theorem ObjOK.keepB {c c':Cx} (hm:MonoB c c') {j:Nat} (h1:c'.ob j=c.ob j) (h2:c'.mu j=c.mu j) (h3:∀ b,c.mu j=some b->c'.w.heap[b]?=c.w.heap[b]?)
   (h:ObjOK c j):ObjOK c' j:=by
 unfold ObjOK at h ⊢
 rw [h1]
 cases ho:c.ob j <;> rw [ho] at h <;> try exact h
 case undef=>exact h2.trans h
 case box cs=>obtain ⟨b,cur,e,a,r,d⟩:=h;exact ⟨b,cur,e,h2.trans a,(h3 b a).trans r,hm.vl _ _ d⟩
 case row e τ xs =>
   rcases h with ⟨a,d⟩ | ⟨b,cap,cur,a,r,l,m,d⟩
   . exact .inl ⟨h2.trans a,d⟩
   . exact .inr ⟨b,cap,cur,h2.trans a,⟨(h3 b a).trans r.1,r.2⟩,l,m,Cx.DVs.imp hm.dv d⟩
 case frz τ xs=>exact h2.trans h
 case dead=>exact h2.trans h
 case gone=>exact h2.trans h
theorem ObjOK.keep {c c':Cx} (hm:Mono c c') {j:Nat} (h1:c'.ob j=c.ob j) (h2:c'.mu j=c.mu j) (h3:∀ b,c.mu j=some b->c'.w.heap[b]?=c.w.heap[b]?)
   (h:ObjOK c j):ObjOK c' j:=h.keepB hm.toMonoB h1 h2 h3
structure Turned (w w':World) (may:Nat->Prop):Prop where
  os:w'.os=w.os
  tape:w'.tape=w.tape
  output:w'.output=w.output
  size:w.heap.size<=w'.heap.size
  block:∀ k,k<w.heap.size->¬may k->w'.heap[k]?=w.heap[k]?
theorem Turned.refl (w:World) (may:Nat->Prop):Turned w w may:=⟨rfl,rfl,rfl,Nat.le_refl _,fun _ _ _=>rfl⟩
theorem Turned.ext {w0 w w':World} {may:Nat->Prop} (h:Below w0.heap.size w0 w) (ht:Turned w w' may) (hm:∀ k,may k->w0.heap.size<=k) :
   Below w0.heap.size w0 w' :=
 ⟨ht.os.trans h.os,ht.tape.trans h.tape,ht.output.trans h.output,Nat.le_trans h.size ht.size,
  fun k hk=>(ht.block k (Nat.lt_of_lt_of_le hk h.size) (fun x=>absurd (hm k x) (by omega))).trans (h.block k hk)⟩
theorem Mem.alloc {w0 w w':World} {ob:List (Nat×AV)} {mu:Nat->Option Nat} {ok:Nat->Prop} {id:Nat} {o:AV} {blk:Option Nat}
   (h:Mem w0 (cx w ob mu ok)) (hid:look ob id=.undef) (ht:Turned w w' fun _=>False) (hb:∀ b,blk=some b->w.heap.size<=b/\b<w'.heap.size) :
   Mono (cx w ob mu ok) (cx w' ((id,o)::ob) (upd mu id blk) ok) /\
   (ObjOK (cx w' ((id,o)::ob) (upd mu id blk) ok) id->Mem w0 (cx w' ((id,o)::ob) (upd mu id blk) ok)):=by
 have hmono:Mono (cx w ob mu ok) (cx w' ((id,o)::ob) (upd mu id blk) ok):=by
   refine Zdf (fun b hb'=>?_) (fun j=>?_) (fun b h2 h3=>⟨fun j=>?_,ht.block b h2 (fun x=>x)⟩)
   rotate_right
   . show upd mu id blk j≠some b
     by_cases e:j=id
     . rw [e,Zbw]
       intro e
       have:=(hb b e).1
       have:b<w.heap.size:=h2
       omega
     . rw [Zbp _ _ e]
       exact h3 j
   . obtain ⟨h1,h2,h3⟩:=hb'
     refine ⟨⟨h1,Nat.lt_of_lt_of_le h2 ht.size,fun j=>?_⟩,ht.block b h2 (fun x=>x)⟩
     by_cases e:j=id
     . subst e
       show upd mu j blk j≠some b
       rw [Zbw]
       intro e
       have:=(hb b e).1
       have:b<w.heap.size:=h2
       omega
     . show upd mu id blk j≠some b
       rw [Zbp _ _ e]
       exact h3 j
   . by_cases e:j=id
     . subst e;exact .inl hid
     . refine .inr (.inr (.inl ⟨ZaQ _ _ (Ne.symm e),Zbp _ _ e,fun b hb'=>?_⟩))
       exact ht.block b (h.lt hb') (fun x=>x)
 refine ⟨hmono,fun ho=>⟨fun j=>?_,fun i j b hi hj=>?_,fun j b hj=>?_,ht.ext h.ext (fun _ x=>x.elim),h.okn_of rfl ht.size fun b h1 h2 j e=>by
   have e:upd mu id blk j=some b:=e
   by_cases ej:j=id
   . rw [ej,Zbw] at e;have:=(hb b e).1;have:b<w.heap.size:=h1;omega
   . rw [Zbp _ _ ej] at e;exact h2 j e⟩⟩
 . by_cases e:j=id
   . subst e;exact ho
   . exact (h.obj j).keep hmono (ZaQ _ _ (Ne.symm e)) (Zbp _ _ e) fun b hb'=>ht.block b (h.lt hb') (fun x=>x)
 . have hi':upd mu id blk i=some b:=hi
   have hj':upd mu id blk j=some b:=hj
   by_cases ei:i=id
   . by_cases ej:j=id
     . rw [ei,ej]
     . subst ei
       rw [Zbw] at hi'
       rw [Zbp _ _ ej] at hj'
       have h1:=(hb b hi').1
       have h2:=h.lt (id:=j) hj'
       exact absurd h2 (by simpa using h1)
   . by_cases ej:j=id
     . subst ej
       rw [Zbw] at hj'
       rw [Zbp _ _ ei] at hi'
       have h1:=(hb b hj').1
       have h2:=h.lt (id:=i) hi'
       exact absurd h2 (by simpa using h1)
     . rw [Zbp _ _ ei] at hi'
       rw [Zbp _ _ ej] at hj'
       exact h.inj i j b hi' hj'
 . have hj':upd mu id blk j=some b:=hj
   by_cases ej:j=id
   . subst ej
     rw [Zbw] at hj'
     exact Nat.le_trans h.ext.size (hb b hj').1
   . rw [Zbp _ _ ej] at hj'
     exact h.base j b hj'
theorem Mem.write {w0 w w':World} {ob:List (Nat×AV)} {mu:Nat->Option Nat} {ok:Nat->Prop} {id b:Nat} {o:AV}
   (h:Mem w0 (cx w ob mu ok)) (hid:mu id=some b) (ht:Turned w w' fun k=>k=b)
   (hk:(∀ b,(cx w ob mu ok).okb b->(cx w' ((id,o)::ob) mu ok).okb b/\w'.heap[b]?=w.heap[b]?)->Keep (cx w ob mu ok) (cx w' ((id,o)::ob) mu ok) id) :
   Mono (cx w ob mu ok) (cx w' ((id,o)::ob) mu ok) /\
   (ObjOK (cx w' ((id,o)::ob) mu ok) id->Mem w0 (cx w' ((id,o)::ob) mu ok)):=by
 have hokb:∀ b,(cx w ob mu ok).okb b->(cx w' ((id,o)::ob) mu ok).okb b/\w'.heap[b]?=w.heap[b]?:=by
   intro k hk'
   obtain ⟨h1,h2,h3⟩:=hk'
   exact ⟨⟨h1,Nat.lt_of_lt_of_le h2 ht.size,h3⟩,ht.block k h2 (fun e=>h3 id (by rw [e];exact hid))⟩
 have hother:∀ j,j≠id->∀ k,mu j=some k->w'.heap[k]?=w.heap[k]?:=by
   intro j hj k hk'
   refine ht.block k (h.lt (id:=j) hk') (fun e=>hj ?_)
   subst e
   exact h.inj j id k hk' hid
 have hmono:Mono (cx w ob mu ok) (cx w' ((id,o)::ob) mu ok):=by
   refine Zdf hokb (fun j=>?_) (fun k h2 h3=>⟨h3,ht.block k h2 (fun e=>h3 id (by rw [e];exact hid))⟩)
   by_cases e:j=id
   . subst e;exact hk hokb
   . exact .inr (.inr (.inl ⟨ZaQ _ _ (Ne.symm e),rfl,hother j e⟩))
 refine ⟨hmono,fun ho=>⟨fun j=>?_,h.inj,h.base,ht.ext h.ext (fun k e=>e ▸ h.base id b hid),h.okn_of rfl ht.size fun _ _ h2=>h2⟩⟩
 by_cases e:j=id
 . subst e;exact ho
 . exact (h.obj j).keep hmono (ZaQ _ _ (Ne.symm e)) rfl (hother j e)
theorem Mem.freeze {w0 w:World} {ob:List (Nat×AV)} {mu:Nat->Option Nat} {ok:Nat->Prop} {id:Nat} {e:TypeId} {τ:Ty} {xs:List τ.den}
   (h:Mem w0 (cx w ob mu ok)) (hid:look ob id=.row e τ xs) :
   Mono (cx w ob mu ok) (cx w ((id,.frz τ xs)::ob) (upd mu id none) ok)/\Mem w0 (cx w ((id,.frz τ xs)::ob) (upd mu id none) ok):=by
 have hokb:∀ b,(cx w ob mu ok).okb b->(cx w ((id,.frz τ xs)::ob) (upd mu id none) ok).okb b:=by
   intro k hk'
   obtain ⟨h1,h2,h3⟩:=hk'
   refine ⟨h1,h2,fun j=>?_⟩
   show upd mu id none j≠some k
   by_cases ej:j=id
   . subst ej;rw [Zbw];simp
   . rw [Zbp _ _ ej];exact h3 j
 have hdv:∀ d v,(cx w ob mu ok).DV d v->(cx w ((id,.frz τ xs)::ob) (upd mu id none) ok).DV d v:=fun d v hd=>DV.mono hokb (fun _ _=>rfl) hd
 have hmono:Mono (cx w ob mu ok) (cx w ((id,.frz τ xs)::ob) (upd mu id none) ok):=by
   refine Zdf (fun b hb=>⟨hokb b hb,rfl⟩) (fun j=>?_) (fun k _ h3=>⟨fun j=>?_,rfl⟩)
   rotate_right
   . show upd mu id none j≠some k
     by_cases ej:j=id
     . subst ej;rw [Zbw];simp
     . rw [Zbp _ _ ej];exact h3 j
   by_cases ej:j=id
   . subst ej
     refine .inr (.inr (.inr (.inr (.inr (.inl ⟨e,τ,xs,hid,look_eq _ _ _,?_⟩)))))
     have ho:=h.obj j
     unfold ObjOK at ho
     rw [show (cx w ob mu ok).ob j=look ob j from rfl,hid] at ho
     rcases ho with ho | ⟨b,cap,cur,a,r,l,m,d⟩
     . exact .inl ho
     . refine .inr ⟨b,cap,cur,a,r,l,Cx.DVs.imp hdv d,⟨h.own_ok a,h.lt a,fun i=>?_⟩,rfl⟩
       show upd mu j none i≠some b
       by_cases ei:i=j
       . subst ei;rw [Zbw];simp
       . rw [Zbp _ _ ei]
         exact fun hi=>ei (h.inj i j b hi a)
   . exact .inr (.inr (.inl ⟨ZaQ _ _ (Ne.symm ej),Zbp _ _ ej,fun _ _=>rfl⟩))
 refine ⟨hmono,fun j=>?_,fun i j b hi hj=>?_,fun j b hj=>?_,h.ext,h.okn_of rfl (Nat.le_refl _) fun b h1 h2 j e=>by
   have e:upd mu id none j=some b:=e
   by_cases ej:j=id
   . rw [ej,Zbw] at e;cases e
   . rw [Zbp _ _ ej] at e;exact h2 j e⟩
 . by_cases ej:j=id
   . subst ej
     show ObjOK _ _
     unfold ObjOK
     rw [show (cx w ((j,.frz τ xs)::ob) (upd mu j none) ok).ob j=.frz τ xs from look_eq _ _ _]
     exact Zbw _ _ _
   . exact (h.obj j).keep hmono (ZaQ _ _ (Ne.symm ej)) (Zbp _ _ ej) fun _ _=>rfl
 . have hi':upd mu id none i=some b:=hi
   have hj':upd mu id none j=some b:=hj
   by_cases ei:i=id
   . subst ei;rw [Zbw] at hi';cases hi'
   . by_cases ej:j=id
     . subst ej;rw [Zbw] at hj';cases hj'
     . rw [Zbp _ _ ei] at hi'
       rw [Zbp _ _ ej] at hj'
       exact h.inj i j b hi' hj'
 . have hj':upd mu id none j=some b:=hj
   by_cases ej:j=id
   . subst ej;rw [Zbw] at hj';cases hj'
   . rw [Zbp _ _ ej] at hj'
     exact h.base j b hj'
theorem Mem.pass {w0 w w':World} {ob:List (Nat×AV)} {mu:Nat->Option Nat} {ok:Nat->Prop} {id nid:Nat} {o g:AV} {blk:Option Nat} (hg:g=.dead\/∃ e τ,∃ xs:List τ.den,look ob id=.row e τ xs/\g=.gone xs.length)
   (h:Mem w0 (cx w ob mu ok)) (hn:look ob nid=.undef) (hid:look ob id≠.undef) (ht:Turned w w' fun k=>mu id=some k)
   (hb:∀ b,blk=some b->(mu id=some b\/w.heap.size<=b)/\b<w'.heap.size) :
   Mono (cx w ob mu ok) (cx w' ((nid,o)::(id,g)::ob) (upd (upd mu id none) nid blk) ok) /\
   (ObjOK (cx w' ((nid,o)::(id,g)::ob) (upd (upd mu id none) nid blk) ok) nid->Mem w0 (cx w' ((nid,o)::(id,g)::ob) (upd (upd mu id none) nid blk) ok)):=by
 have hne:nid≠id:=fun e=>hid (e ▸ hn)
 have hmu:∀ j,j≠nid->j≠id->upd (upd mu id none) nid blk j=mu j:=fun j h1 h2=>by rw [Zbp _ _ h1,Zbp _ _ h2]
 have hmid:upd (upd mu id none) nid blk id=none:=by rw [Zbp _ _ (Ne.symm hne),Zbw]
 have hmnid:upd (upd mu id none) nid blk nid=blk:=Zbw _ _ _
 have hlk:∀ j,j≠nid->j≠id->look ((nid,o)::(id,g)::ob) j=look ob j:=fun j h1 h2=>by rw [ZaQ _ _ (Ne.symm h1),ZaQ _ _ (Ne.symm h2)]
 have hlid:look ((nid,o)::(id,g)::ob) id=g:=by rw [ZaQ _ _ hne,look_eq]
 have hsame:∀ j,j≠id->∀ b,mu j=some b->w'.heap[b]?=w.heap[b]?:=fun j hj b hjb =>
   ht.block b (h.lt (id:=j) hjb) (fun e=>hj (h.inj j id b hjb e))
 have hmono:Mono (cx w ob mu ok) (cx w' ((nid,o)::(id,g)::ob) (upd (upd mu id none) nid blk) ok):=by
   have hoff:∀ b,b<w.heap.size->(∀ j,mu j≠some b)->∀ j,upd (upd mu id none) nid blk j≠some b:=by
     intro b h2 h3 j
     by_cases e1:j=nid
     . rw [e1,hmnid]
       intro e
       rcases (hb b e).1 with h4 | h4
       . exact h3 id h4
       . omega
     . by_cases e2:j=id
       . rw [e2,hmid];simp
       . rw [hmu j e1 e2];exact h3 j
   refine Zdf (fun b hb'=>?_) (fun j=>?_) (fun b h2 h3=>⟨hoff b h2 h3,ht.block b h2 (h3 id)⟩)
   . obtain ⟨h1,h2,h3⟩:=hb'
     refine ⟨⟨h1,Nat.lt_of_lt_of_le h2 ht.size,fun j=>?_⟩,ht.block b h2 (h3 id)⟩
     show upd (upd mu id none) nid blk j≠some b
     by_cases e1:j=nid
     . rw [e1,hmnid]
       intro e
       rcases (hb b e).1 with h4 | h4
       . exact h3 id h4
       . have:b<w.heap.size:=h2
         omega
     . by_cases e2:j=id
       . rw [e2,hmid];simp
       . rw [hmu j e1 e2];exact h3 j
   . by_cases e1:j=nid
     . exact .inl (by rw [e1];exact hn)
     . by_cases e2:j=id
       . rcases hg with rfl | ⟨e,τ,xs,h1,rfl⟩
         . exact .inr (.inl (by rw [e2];exact hlid))
         . exact .inr (.inr (.inr (.inr (.inr (.inr ⟨e,τ,xs,by rw [e2];exact h1,by rw [e2];exact hlid⟩)))))
       . exact .inr (.inr (.inl ⟨hlk j e1 e2,hmu j e1 e2,fun b hb'=>hsame j e2 b hb'⟩))
 refine ⟨hmono,fun ho=>⟨fun j=>?_,fun i j b hi hj=>?_,fun j b hj=>?_,ht.ext h.ext (fun k e=>h.base id k e),h.okn_of rfl ht.size fun b h1 h2 j e=>by
   have e:upd (upd mu id none) nid blk j=some b:=e
   by_cases ej:j=nid
   . rw [ej,Zbw] at e
     rcases (hb b e).1 with e1 | e1
     . exact h2 id e1
     . have:b<w.heap.size:=h1;omega
   . rw [Zbp _ _ ej] at e
     by_cases ei:j=id
     . rw [ei,Zbw] at e;cases e
     . rw [Zbp _ _ ei] at e;exact h2 j e⟩⟩
 . by_cases e1:j=nid
   . rw [e1];exact ho
   . by_cases e2:j=id
     . subst e2
       show ObjOK _ _
       unfold ObjOK
       rw [show (cx w' ((nid,o)::(j,g)::ob) (upd (upd mu j none) nid blk) ok).ob j=g from hlid]
       rcases hg with rfl | ⟨_,_,_,_,rfl⟩ <;> exact hmid
     . exact (h.obj j).keep hmono (hlk j e1 e2) (hmu j e1 e2) fun b hb'=>hsame j e2 b hb'
 . have hi':upd (upd mu id none) nid blk i=some b:=hi
   have hj':upd (upd mu id none) nid blk j=some b:=hj
   have key:∀ i,i≠nid->upd (upd mu id none) nid blk i=some b->blk=some b->False:=by
     intro i e1 hi hbk
     by_cases e2:i=id
     . rw [e2,hmid] at hi;cases hi
     . rw [hmu i e1 e2] at hi
       rcases (hb b hbk).1 with h4 | h4
       . exact e2 (h.inj i id b hi h4)
       . exact absurd (h.lt (id:=i) hi) (by simpa using h4)
   by_cases e1:i=nid
   . by_cases e3:j=nid
     . rw [e1,e3]
     . rw [e1,hmnid] at hi'
       exact (key j e3 hj' hi').elim
   . by_cases e3:j=nid
     . rw [e3,hmnid] at hj'
       exact (key i e1 hi' hj').elim
     . by_cases e2:i=id
       . rw [e2,hmid] at hi';cases hi'
       . by_cases e4:j=id
         . rw [e4,hmid] at hj';cases hj'
         . rw [hmu i e1 e2] at hi'
           rw [hmu j e3 e4] at hj'
           exact h.inj i j b hi' hj'
 . have hj':upd (upd mu id none) nid blk j=some b:=hj
   by_cases e1:j=nid
   . rw [e1,hmnid] at hj'
     rcases (hb b hj').1 with h4 | h4
     . exact h.base id b h4
     . exact Nat.le_trans h.ext.size h4
   . by_cases e2:j=id
     . rw [e2,hmid] at hj';cases hj'
     . rw [hmu j e1 e2] at hj'
       exact h.base j b hj'
end Go.Proofs.Mill
namespace Go.Proofs.Mill
variable {ds:List Deferred}
open Go.RowKit
def Rd.val {α:Type}:Rd α->St->Option α
 | .ret a,_=>some a
 | .rd l k,σ=>(k (σ.get l)).val σ
 | .ask b t e,σ=>bif b then t.val σ else e.val σ
 | .call x k, σ => match x with
  | some y=>(k y).val σ
  | none=>none
 | .fail,_=>none
theorem Rd.runK_val {α ρ:Type} {k:α->List Loc->Option ρ} {σ:St} {r:ρ}:∀ {x:Rd α} {log:List Loc},x.runK σ log k=some r->∃ a log',x.val σ=some a/\k a log'=some r
 | .ret a,log,h=>⟨a,log,rfl,h⟩
 | .rd l f,log,h=>Rd.runK_val (x:=f (σ.get l)) h
 | .ask b t e, log, h => by
   cases b
   . exact Rd.runK_val (x:=e) h
   . exact Rd.runK_val (x:=t) h
 | .call x f, log, h => by
   cases x with
   | none=>simp [Rd.runK] at h
   | some y=>exact Rd.runK_val (x:=f y) h
 | .fail,log,h=>by simp [Rd.runK] at h
theorem ZbH {α:Type} {x:Operand} {k:AV->Rd α} {σ:St} {r:α} (h:(opd x k).val σ=some r):(k (valOf σ x)).val σ=some r:=by
 cases x <;> first | exact h | (simp [opd,Rd.val] at h)
theorem ZdX {α:Type} {σ:St} {r:α}:∀ {xs:List Operand} {k:List AV->Rd α},(opds xs k).val σ=some r->(k (xs.map (valOf σ))).val σ=some r
 | [],_,h=>h
 | _ :: xs, k, h => by
   have:=ZbH h
   exact ZdX (xs:=xs) (k:=fun vs=>k (_::vs)) this
theorem Za2 {α β:Type} {x:Option α} {k:α->Rd β} {σ:St} {r:β} (h:(Zbz x k).val σ=some r):∃ a,x=some a/\(k a).val σ=some r:=by
 cases x with
 | none=>simp [Zbz,Rd.val] at h
 | some a=>exact ⟨a,rfl,h⟩
theorem Zcy {α:Type} {b:Bool} {t:Rd α} {σ:St} {r:α} (h:(Rd.ask b t .fail).val σ=some r):b=true/\t.val σ=some r:=by
 cases b
 . simp [Rd.val] at h
 . exact ⟨rfl,h⟩
theorem ZiY {α:Type} {b:Bool} {t:Rd α} {σ:St} {r:α} (h:(Rd.ask b .fail t).val σ=some r):b=false/\t.val σ=some r:=by
 cases b
 . exact ⟨rfl,h⟩
 . simp [Rd.val] at h
theorem Zb7 {α:Type} {b:Bool} {t:Rd α} {σ:St} {r:α} (h:(bif b then t else Rd.fail).val σ=some r):b=true/\t.val σ=some r:=by
 cases b
 . simp [Rd.val] at h
 . exact ⟨rfl,h⟩
theorem ZiW {α:Type} {σ:St} {r:α}:∀ {cs:List AV} {k:List AV->Rd α},(bare cs k).val σ=some r->(k cs).val σ=some r
 | [],_,h=>h
 | _::cs,_,h=>ZiW (cs:=cs) h
theorem ZlC {α:Type} {v:AV} {k:AV->Rd α} {σ:St} {r:α} (h:(ZgC v k).val σ=some r):(k v).val σ=some r:=by
 cases v <;> first | exact h | exact ZiW h
theorem Zzy (c:Cx) (v:Value):V c (ZqK v) v:=by
 unfold ZqK
 split <;> simp [V]
theorem ZmQ (c:Cx):∀ (vs:List Value),VL c (vs.map ZqK) vs
 | []=>by simp [VL]
 | v::vs=>by simp only [List.map_cons,VL];exact ⟨Zzy c v,ZmQ c vs⟩
theorem Zom (c:Cx) (v:Value):V c (ofValue v) v:=by
 unfold ofValue
 split
 . rename_i cs;exact ⟨cs,rfl,ZmQ c _⟩
 all_goals simp [V]
theorem ZaJ {w0:World} {ok:Nat->Prop} {nt:Nat} {σ:St} {a:Act} {w:World} {mu:Nat->Option Nat} (hr:R w0 ok nt ds σ a w mu) (x:Operand) :
   V (cx w σ.ob mu ok) (valOf σ x) (a.eval x):=by
 cases x with
 | tmp t =>
   by_cases h:t<nt
   . exact hr.tm t h
   . show V _ (look σ.tm t) _
     rw [hr.far t (Nat.le_of_not_lt h)]
     trivial
 | const v=>exact Zom _ v
 | global g=>trivial
 | func f=>exact ⟨#[],rfl,by simp [VL]⟩
theorem ZfQ {w0:World} {ok:Nat->Prop} {nt:Nat} {σ:St} {a:Act} {w:World} {mu:Nat->Option Nat} (hr:R w0 ok nt ds σ a w mu) :
   ∀ (xs:List Operand),VL (cx w σ.ob mu ok) (xs.map (valOf σ)) (xs.map a.eval)
 | []=>by simp [VL]
 | x::xs=>by simp only [List.map_cons,VL];exact ⟨ZaJ hr x,ZfQ hr xs⟩
theorem ZAN {c:Cx} {x:AV} {v:Value} (h:V c x v) (hx:x.one=true):v.oneCell'=true:=by
 cases x <;> simp [AV.one] at hx
 case int=>simp only [V] at h;subst h;rfl
 case bool=>simp only [V] at h;subst h;rfl
 case str=>simp only [V] at h;subst h;rfl
 case lst=>exact Cx.DV.one h
 case lstn=>exact Cx.DV.one h.1
 case emp=>simp only [V] at h;subst h;rfl
 case own id=>exact OwnV.one h
 case ptr=>exact PtrV.one h
 case eptr=>exact EptrV.one h
 case lptr=>obtain ⟨_,_,_,_,rfl,_⟩:=h;rfl
 case cptr=>obtain ⟨_,_,_,rfl,_⟩:=h;rfl
 case fn=>obtain ⟨_,rfl,_⟩:=h;rfl
 case bfn=>obtain ⟨_,rfl,_⟩:=h;rfl
 case cst u =>
   simp only [V] at h;subst h
   cases v <;> simp_all [Value.oneCell']
 case ifc=>obtain ⟨_,rfl,_⟩:=h;rfl
end Go.Proofs.Mill
namespace Go.Proofs.Mill
open Go.RowKit
def Post (w0:World) (ok:Nat->Prop) (w:World) (ob:List (Nat×AV)) (mu:Nat->Option Nat) (v:AV) (ws:Wr) (u:Value) (w':World):Prop :=
 ∃ mu',Mem w0 (cx w' (Zay ws ob) mu' ok)/\Mono (cx w ob mu ok) (cx w' (Zay ws ob) mu' ok)/\V (cx w' (Zay ws ob) mu' ok) v u
theorem Post.pure {w0:World} {ok:Nat->Prop} {w:World} {ob:List (Nat×AV)} {mu:Nat->Option Nat} {v:AV} {u:Value}
   (h:Mem w0 (cx w ob mu ok)) (hv:V (cx w ob mu ok) v u):Post w0 ok w ob mu v [] u w:=⟨mu,h,Mono.refl _,hv⟩
theorem Zd1 (b o j:Nat):(⟨b,o,none⟩:Addr).add j=⟨b,o+j,none⟩:=by unfold Addr.add;split <;> simp_all
def CellsAt (c:Cx) (b o:Nat) (cs:List AV):Prop:=∃ vs,VL c cs vs/\∀ j v,vs[j]?=some v->c.w.cell? ⟨b,o+j,none⟩=some v
theorem CellsAt.drop {c:Cx} {b o:Nat} {cs:List AV} (h:CellsAt c b o cs) (n:Nat):CellsAt c b (o+n) (cs.drop n):=by
 obtain ⟨vs,h1,h2⟩:=h
 refine ⟨vs.drop n,h1.drop n,fun j v hj=>?_⟩
 rw [List.getElem?_drop] at hj
 rw [Nat.add_assoc]
 exact h2 _ _ hj
theorem CellsAt.take {c:Cx} {b o:Nat} {cs:List AV} (h:CellsAt c b o cs) (n:Nat):CellsAt c b o (cs.take n):=by
 obtain ⟨vs,h1,h2⟩:=h
 refine ⟨vs.take n,h1.take n,fun j v hj=>?_⟩
 rw [List.getElem?_take] at hj
 split at hj
 . exact h2 _ _ hj
 . simp at hj
theorem ZeF {V:Env} {t:TypeId} {n:Nat} (h:sizeOf? V t=some n):(∃ d,V.P.underlying t=some d)/\∃ i,V.P.info? t=some i/\i.size=n:=by
 unfold sizeOf? at h
 cases hu:V.P.underlying t with
 | none=>simp [hu] at h
 | some d =>
   refine ⟨⟨d,rfl⟩,?_⟩
   cases hi:V.P.info? t with
   | none=>simp [hu,hi] at h
   | some i=>exact ⟨i,rfl,by simpa [hu,hi] using h⟩
theorem Zlm {V:Env} {t:TypeId} {d:TypeDesc} (hd:V.P.underlying t=some d) (w:World):(isAgg t).run V.P w=.ok (isAgg? V t) w:=by
 unfold isAgg
 rw [Sem.run_bind,run_underlying hd w]
 unfold isAgg?
 rw [hd]
 cases d <;> rfl
theorem ZqB {V:Env} {c:Cx} {b o:Nat} {cs:List AV} {t:TypeId} {off:Nat} {av:AV} (h:CellsAt c b o cs) (hc:cut V t cs off=some av) :
   ∃ u,(loadVar t ⟨b,o+off,none⟩).run V.P c.w=.ok u c.w/\Mill.V c av u:=by
 unfold cut at hc
 cases hs:sizeOf? V t with
 | none=>rw [hs] at hc;simp at hc
 | some n =>
   rw [hs] at hc
   simp only at hc
   obtain ⟨⟨d,hd⟩,i,hi,rfl⟩:=ZeF hs
   cases ha:isAgg? V t with
   | true =>
     rw [ha] at hc
     simp only [cond_true] at hc
     cases hb:Nat.ble (off+i.size) cs.length with
     | false=>rw [hb] at hc;simp at hc
     | true =>
       rw [hb] at hc
       simp only [cond_true,Option.some.injEq] at hc
       subst hc
       have hle:=Nat.le_of_ble_eq_true hb
       obtain ⟨vs,h1,h2⟩:=(h.drop off).take i.size
       have hl:vs.length=i.size:=by
         have:=h1.length
         rw [List.length_take,List.length_drop] at this
         omega
       have hrun:=run_loadCells_list (P:=V.P) c.w ⟨b,o+off,none⟩ vs (fun j v hj=>by rw [Zd1];exact h2 j v hj)
       refine ⟨.agg vs.toArray,?_,⟨vs.toArray,rfl,by simpa using h1⟩⟩
       rw [hl] at hrun
       simp [loadVar,Zlm hd,ha,sizeOf,typeInfo,hi,hrun]
   | false =>
     rw [ha] at hc
     simp only [cond_false] at hc
     obtain ⟨vs,h1,h2⟩:=h
     obtain ⟨u,hu,hv⟩:=h1.get off av hc
     refine ⟨u,?_,hv⟩
     have:=h2 off u hu
     simp [loadVar,Zlm hd,ha,this]
theorem ZvV {c:Cx}:∀ (τ:Ty) (x:τ.den) {vs:List Value},c.DVs (τ.enc x) vs->VL c (τ.encA x) vs:=by
 have hi:∀ {k:IntKind} {n:Int} {v:Value},c.DV (.int k n) v->V c (.int k n) v:=by intro k n v h;cases h;rfl
 have hb:∀ {n:Bool} {v:Value},c.DV (.bool n) v->V c (.bool n) v:=by intro n v h;cases h;rfl
 have hst:∀ {n:ByteArray} {v:Value},c.DV (.str n) v->V c (.str n) v:=by intro n v h;cases h;rfl
 have hfn:∀ {f:FuncId} {v:Value},c.DV (.fn f) v->V c (.fn f []) v:=by intro f v h;cases h;exact ⟨#[],rfl,trivial⟩
 have key:∀ {ds:List D} {as:List AV} {vs:List Value},c.DVs ds vs->as.length=ds.length->(∀ (i:Nat) (d:D) (v:Value),ds[i]?=some d->c.DV d v->∀ x,as[i]?=some x->V c x v)->VL c as vs:=by
   intro ds
   induction ds with
   | nil => intro as vs h hl _; cases vs with
     | nil => cases as with
       | nil=>trivial
       | cons=>simp at hl
     | cons=>exact h.elim
   | cons d ds ih => intro as vs h hl k; cases vs with
     | nil=>exact h.elim
     | cons v vs => cases as with
       | nil=>simp at hl
       | cons x as=>exact ⟨k 0 d v rfl h.1 x rfl,ih h.2 (by simpa using hl) fun i d' v' hd hv x hx=>k (i+1) d' v' (by simpa using hd) hv x (by simpa using hx)⟩
 intro τ x vs h
 refine key h (by cases τ <;> rfl) ?_
 intro i d v hd hv y hy
 cases τ <;> simp only [Ty.enc,Ty.encA,ZnP,ZwA,Ztq,ZkS,Zop,Zro,ZpL,Zox,Zn4,Zrj,ZnT,ZpW,Zv1] at hd hy <;>
   (rcases i with _ | _ | _ | _ | _ | _ | _ | _ | _ | _ | _ | _ | _ | _ | _ | _ | _ | i <;> simp at hd hy <;> subst hd <;> subst hy <;> first | exact hi hv | exact hb hv | exact hst hv | exact hfn hv | exact hv)
theorem ZfT (τ:Ty):∀ (xs:List τ.den) (i j:Nat) (x:τ.den),xs[i]?=some x->j<τ.sz->(xs.map τ.enc).flatten[i*τ.sz+j]?=(τ.enc x)[j]?
 | [],i,_,_,h,_=>by simp at h
 | y :: ys, 0, j, x, h, hj => by
   simp only [List.getElem?_cons_zero,Option.some.injEq] at h
   subst h
   simp only [List.map_cons,List.flatten_cons,Nat.zero_mul,Nat.zero_add]
   rw [List.getElem?_append_left (by rw [τ.enc_length];exact hj)]
 | y :: ys, i + 1, j, x, h, hj => by
   simp only [List.getElem?_cons_succ] at h
   simp only [List.map_cons,List.flatten_cons]
   rw [List.getElem?_append_right (by rw [τ.enc_length,Nat.add_mul];omega),τ.enc_length]
   rw [show (i+1)*τ.sz+j-τ.sz=i*τ.sz+j by rw [Nat.add_mul];omega]
   exact ZfT τ ys i j x h hj
theorem ZqZ {α:Type} (xs:List α) (d:α) (i:Nat) (h:i<xs.length):xs[i]?=some (xs.getD i d):=by
 simp [List.getD,h]
theorem Zsi {c:Cx} {τ:Ty} {xs:List τ.den} {b o i:Nat} (hi:i<xs.length)
   (h:∀ (j:Nat) (d:D),(xs.map τ.enc).flatten[j]?=some d->∃ v,c.w.cell? ⟨b,o+j,none⟩=some v/\c.DV d v) :
   CellsAt c b (o+i*τ.sz) (τ.encA (xs.getD i τ.dflt)):=by
 have hx:=ZqZ xs τ.dflt i hi
 have hlen:=τ.enc_length (xs.getD i τ.dflt)
 have hseg:∀ j d,(τ.enc (xs.getD i τ.dflt))[j]?=some d->∃ v,c.w.cell? ⟨b,o+i*τ.sz+j,none⟩=some v/\c.DV d v:=by
   intro j d hj
   have hjl:j<τ.sz:=by
     rcases Nat.lt_or_ge j τ.sz with h' | h'
     . exact h'
     . rw [List.getElem?_eq_none (by omega)] at hj;cases hj
   have:=h (i*τ.sz+j) d (by rw [ZfT τ xs i j _ hx hjl];exact hj)
   rw [Nat.add_assoc]
   exact this
 refine ⟨(List.range τ.sz).map fun j=>(c.w.cell? ⟨b,o+i*τ.sz+j,none⟩).getD undef,?_,?_⟩
 . refine ZvV τ _ (Cx.DVs.mk (by rw [List.length_map,List.length_range,hlen]) fun j d v hd hv=>?_)
   obtain ⟨u,hu,hd'⟩:=hseg j d hd
   have hjl:j<τ.sz:=by
     rcases Nat.lt_or_ge j τ.sz with h' | h'
     . exact h'
     . rw [List.getElem?_eq_none (by omega)] at hd;cases hd
   simp [hjl,hu] at hv
   subst hv
   exact hd'
 . intro j v hj
   have hjl:j<τ.sz:=by
     rcases Nat.lt_or_ge j τ.sz with h' | h'
     . exact h'
     . rw [List.getElem?_eq_none (by simp;omega)] at hj;cases hj
   obtain ⟨d,hd⟩:∃ d,(τ.enc (xs.getD i τ.dflt))[j]?=some d:=⟨_,List.getElem?_eq_getElem (by omega)⟩
   obtain ⟨u,hu,_⟩:=hseg j d hd
   simp [hjl,hu] at hj
   subst hj
   exact hu
theorem ZtP {c:Cx} {b:Nat} {cs:List AV} {cur:Array Value} {e:TypeId} (hh:c.w.heap[b]?=some (.cells cur e (0,0))) (hv:VL c cs cur.toList) :
   CellsAt c b 0 cs:=⟨cur.toList,hv,fun j v hj=>by simp only [World.cell?,hh,Nat.zero_add];simpa using hj⟩
theorem ZtZ {c:Cx} {e:TypeId} {τ:Ty} {b cap:Nat} {cur:Array Value} {xs:List τ.den} (hr:ZgP c e τ b cap cur)
   (hd:c.DVs (xs.map τ.enc).flatten (cur.toList.take (xs.length*τ.sz))) (j:Nat) (d:D) (hj:(xs.map τ.enc).flatten[j]?=some d) :
   ∃ v,c.w.cell? ⟨b,0+j,none⟩=some v/\c.DV d v:=by
 obtain ⟨v,hv,hdv⟩:=hd.get j d hj
 refine ⟨v,?_,hdv⟩
 rw [List.getElem?_take] at hv
 split at hv
 . simp only [World.cell?,hr.1,Nat.zero_add];simpa using hv
 . simp at hv
theorem LptrV.cells {c:Cx} {τ:Ty} {xs:List τ.den} {i off:Nat} {v:Value} (h:LptrV c τ xs i off v) :
   ∃ b o,v=.pointer (some ⟨b,o+i*τ.sz+off,none⟩)/\CellsAt c b (o+i*τ.sz) (τ.encA (xs.getD i τ.dflt)):=by
 obtain ⟨hi,b,o,u,rfl,_,hc,hd⟩:=h
 exact ⟨b,o,rfl,Zsi hi fun j d hj=>⟨u j,hc j d hj,hd j d hj⟩⟩
theorem ZvT {V:Env} {α:Type} {k:AV->Rd α} {r:α} {t:TypeId} {p:AV} {pv:Value} {σ:St} {w0 w:World} {mu:Nat->Option Nat} {ok:Nat->Prop}
   (h:(rdAt V t p k).val σ=some r) (hm:Mem w0 (cx w σ.ob mu ok)) (hp:Mill.V (cx w σ.ob mu ok) p pv) :
   ∃ v u,(k v).val σ=some r/\(Instr.loadAt t pv).run V.P w=.ok u w/\Mill.V (cx w σ.ob mu ok) v u:=by
 have key:∀ {b o off:Nat} {cs:List AV},CellsAt (cx w σ.ob mu ok) b o cs->pv=.pointer (some ⟨b,o+off,none⟩) ->
     (Zbz (cut V t cs off) fun v=>ZgC v k).val σ=some r ->
     ∃ v u,(k v).val σ=some r/\(Instr.loadAt t pv).run V.P w=.ok u w/\Mill.V (cx w σ.ob mu ok) v u:=by
   intro b o off cs hc hpv hk
   obtain ⟨v,hv,hk⟩:=Za2 hk
   obtain ⟨u,hu,hvu⟩:=ZqB hc hv
   refine ⟨v,u,ZlC hk,?_,hvu⟩
   subst hpv
   simpa [Instr.loadAt,Instr.sureAddr] using hu
 cases p with
 | ptr id off =>
   simp only [rdAt,Rd.val] at h
   change PtrV _ id off pv at hp
   unfold PtrV at hp
   have ho:=hm.obj id
   unfold ObjOK at ho
   change (match σ.get (.m id) with | .box cs=>_ | _=>_:Rd α).val σ=some r at h
   rw [show (cx w σ.ob mu ok).ob id=σ.get (.m id) from rfl] at hp ho
   cases hob:σ.get (.m id) <;> rw [hob] at h hp ho <;> try (simp [Rd.val] at h;done)
   case box cs =>
     obtain ⟨b,hb,rfl⟩:=hp
     obtain ⟨b',cur,e,hb',hh,hv⟩:=ho
     rw [hb] at hb';cases hb'
     exact key (ZtP hh hv) (by rw [Nat.zero_add]) h
 | eptr id i off =>
   simp only [rdAt,Rd.val] at h
   change EptrV _ id i off pv at hp
   unfold EptrV at hp
   have ho:=hm.obj id
   unfold ObjOK at ho
   change (match σ.get (.m id) with | .row _ τ xs=>_ | .frz τ xs=>_ | _=>_:Rd α).val σ=some r at h
   rw [show (cx w σ.ob mu ok).ob id=σ.get (.m id) from rfl] at hp ho
   cases hob:σ.get (.m id) <;> rw [hob] at h hp ho <;> try (simp [Rd.val] at h;done)
   case row e τ xs =>
     obtain ⟨b,hb,rfl,hi⟩:=hp
     rcases ho with ⟨hn,_⟩ | ⟨b',cap,cur,hb',hr,hl,hcm,hd⟩
     . rw [hb] at hn;cases hn
     . rw [hb] at hb';cases hb'
       exact key (Zsi hi (ZtZ hr hd)) (by rw [Nat.zero_add]) h
   case frz τ xs =>
     obtain ⟨b,o,rfl,hc⟩:=LptrV.cells hp
     exact key hc rfl h
 | lptr τ xs i off =>
   obtain ⟨b,o,rfl,hc⟩:=LptrV.cells hp
   exact key hc rfl h
 | cptr cs off =>
   obtain ⟨b,cur,e,rfl,_,hh,hv⟩:=hp
   exact key (ZtP hh hv) (by rw [Nat.zero_add]) h
 | _=>simp [rdAt,Rd.val] at h
end Go.Proofs.Mill
namespace Go.Proofs.Mill
open Go.RowKit
theorem DV_i {c:Cx} {n:Int} {v:Value} (h:V c (.int .i64 n) v):c.DV (.i n) v:=by
 simp only [V] at h;subst h;exact .int _ _
theorem DV_b {c:Cx} {n:Bool} {v:Value} (h:V c (.bool n) v):c.DV (.bool n) v:=by
 simp only [V] at h;subst h;exact .bool _
theorem DV_f {c:Cx} {f:FuncId} {v:Value} (h:Mill.V c (.fn f []) v):c.DV (.fn f) v:=by
 obtain ⟨vs,rfl,hv⟩:=h
 have h1:vs=#[]:=by
   obtain ⟨l⟩:=vs
   cases l with
   | nil=>rfl
   | cons=>exact hv.elim
 subst h1
 exact DV.fn f
theorem DV_s {c:Cx} {n:ByteArray} {v:Value} (h:V c (.str n) v):c.DV (.str n) v:=by
 simp only [V] at h;subst h;exact .str _
theorem list?_ok {c:Cx} {τ:Ty} {x:AV} {xs:List τ.den} {v:Value} (h:x.list? τ=some xs) (hv:V c x v):c.DV (.lst τ.sz (xs.map τ.enc)) v:=by
 unfold AV.list? at h
 split at h
 . split at h
   . rename_i hh _
     subst hh
     simp only [Option.some.injEq] at h
     subst h
     exact hv
   . cases h
 . simp only [Option.some.injEq] at h
   subst h
   simp only [V] at hv
   subst hv
   exact .nil _ _ _ (fun _=>rfl)
 . cases h
theorem entries?_ok {c:Cx} {x:AV} {xs:List Entry} {v:Value} (h:x.entries?=some xs) (hv:V c x v):c.DV (.lst 3 (xs.map ZkS)) v:=by
 unfold AV.entries? at h
 split at h
 . obtain rfl:=Option.some.inj h;exact hv
 . simp only [Option.some.injEq] at h;subst h;simp only [V] at hv;subst hv;exact .nil _ _ _ (fun _=>rfl)
 . cases h
theorem kids?_ok {c:Cx} {x:AV} {xs:List Kid} {v:Value} (h:x.kids?=some xs) (hv:V c x v):c.DV (.lst 2 (xs.map Zop)) v:=by
 unfold AV.kids? at h
 split at h
 . obtain rfl:=Option.some.inj h;exact hv
 . simp only [Option.some.injEq] at h;subst h;simp only [V] at hv;subst hv;exact .nil _ _ _ (fun _=>rfl)
 . cases h
theorem ints?_ok {c:Cx} {x:AV} {xs:List Int} {v:Value} (h:x.ints?=some xs) (hv:V c x v):c.DV (.lst 1 (xs.map ZnP)) v:=by
 unfold AV.ints? at h
 split at h
 . obtain rfl:=Option.some.inj h;exact hv
 . simp only [Option.some.injEq] at h;subst h;simp only [V] at hv;subst hv;exact .nil _ _ _ (fun _=>rfl)
 . cases h
theorem Za6 {c:Cx} {x:AV} {xs:List AV} {vs:List Value} (h:VL c (x::xs) vs):∃ v us,vs=v::us/\V c x v/\VL c xs us:=by
 cases vs with
 | nil=>exact h.elim
 | cons v us=>exact ⟨v,us,rfl,h.1,h.2⟩
theorem Zbo {c:Cx} {vs:List Value} (h:VL c [] vs):vs=[]:=by
 cases vs with
 | nil=>rfl
 | cons v us=>exact h.elim
theorem DV_u {c:Cx} {n:Int} {v:Value} (h:V c (.int .u8 n) v):c.DV (.int .u8 n) v:=by
 simp only [V] at h
 subst h
 exact DV.int _ _
set_option maxHeartbeats 1000000 in
theorem ZoF {c:Cx} {τ:Ty} {cs:List AV} {x:τ.den} {vs:List Value} (h:τ.decA cs=some x) (hv:VL c cs vs):c.DVs (τ.enc x) vs:=by
 cases τ
 case thread =>
   change Zon cs=some x at h
   unfold Zon at h
   split at h
   . split at h
     . rename_i b1 b2 b3 h1 h2 h3
       obtain rfl:=Option.some.inj h
       obtain ⟨_,_,rfl,v1,hv⟩:=Za6 hv
       obtain ⟨_,_,rfl,v2,hv⟩:=Za6 hv
       obtain ⟨_,_,rfl,v3,hv⟩:=Za6 hv
       obtain ⟨_,_,rfl,v4,hv⟩:=Za6 hv
       obtain ⟨_,_,rfl,v5,hv⟩:=Za6 hv
       obtain ⟨_,_,rfl,v6,hv⟩:=Za6 hv
       obtain ⟨_,_,rfl,v7,hv⟩:=Za6 hv
       have e5:=entries?_ok h1 v5
       have e6:=kids?_ok h2 v6
       have e7:=ints?_ok h3 v7
       repeat (obtain ⟨_,_,rfl,_,hv⟩:=Za6 hv)
       obtain rfl:=Zbo hv
       refine ⟨DV_i v1,DV_i v2,DV_i v3,DV_i v4,e5,e6,e7,?_⟩
       (repeat' apply And.intro) <;> first | exact DV_i ‹_› | trivial
     . cases h
   . cases h
 case lst t =>
   change ZuS t cs=some x at h
   unfold ZuS at h
   split at h
   . obtain ⟨_,_,rfl,v1,hv⟩:=Za6 hv
     obtain rfl:=Zbo hv
     exact ⟨list?_ok h v1,trivial⟩
   . cases h
 all_goals
   simp only [Ty.decA] at h
   first | unfold Zzc at h | unfold ZA5 at h | unfold ZyN at h | unfold ZuE at h | unfold ZxN at h | unfold Zwg at h | unfold ZuT at h | unfold ZsI at h | unfold ZvX at h | unfold ZrY at h | unfold ZtC at h | unfold ZvU at h
   split at h
   . obtain rfl:=Option.some.inj h
     repeat (obtain ⟨_,_,rfl,_,hv⟩:=Za6 hv)
     obtain rfl:=Zbo hv
     (repeat' apply And.intro) <;> first | exact DV_i ‹_› | exact DV_u ‹_› | exact DV_b ‹_› | exact DV_s ‹_› | exact DV_f ‹_› | trivial
   . cases h
end Go.Proofs.Mill
namespace Go.Proofs.Mill
open Go.RowKit
theorem Zzg {id:Nat} {v:AV} {ob:List (Nat×AV)} (h:look ob id=v):look ((id,v)::ob)=look ob:=by
 funext j
 by_cases e:id=j
 . subst e;rw [look_eq,h]
 . exact ZaQ _ _ e
def Fz (ob:List (Nat×AV)) (ws:Wr):Prop:=∀ p∈ws,∃ e τ,∃ xs:List τ.den,look ob p.1=.row e τ xs/\p.2=.frz τ xs
theorem Fz.nil (ob:List (Nat×AV)):Fz ob []:=fun _ h=>by cases h
theorem Fz.append {ob:List (Nat×AV)} {a b:Wr} (h:Fz ob a) (k:Fz ob b):Fz ob (a++b):=fun p hp=>by
 rcases List.mem_append.1 hp with hp | hp
 . exact h p hp
 . exact k p hp
def Fz' (ob:List (Nat×AV)) (ws:Wr):Prop:=∀ p∈ws,∃ e τ,∃ xs:List τ.den,(look ob p.1=.row e τ xs\/look ob p.1=.frz τ xs)/\p.2=.frz τ xs
theorem ZqG {w0 w:World} {ok:Nat->Prop}:∀ (ws:Wr) (ob:List (Nat×AV)) (mu:Nat->Option Nat),Fz' ob ws->Mem w0 (cx w ob mu ok) ->
   ∃ mu', Mem w0 (cx w (Zay ws ob) mu' ok) /\ Mono (cx w ob mu ok) (cx w (Zay ws ob) mu' ok) /\ (∀ p ∈ ws, look (Zay ws ob) p.1 = p.2) /\
     (∀ id,(∀ p∈ws,p.1≠id)->look (Zay ws ob) id=look ob id/\mu' id=mu id)
 | [],ob,mu,_,hm=>⟨mu,hm,Mono.refl _,fun _ h=>(by cases h),fun _ _=>⟨rfl,rfl⟩⟩
 | (i, v) :: ws, ob, mu, hf, hm => by
   obtain ⟨e,τ,xs,hl,hv⟩:=hf (i,v) (by simp)
   simp only at hl hv
   subst hv
   have next:∀ mu1,Mem w0 (cx w ((i,.frz τ xs)::ob) mu1 ok)->Mono (cx w ob mu ok) (cx w ((i,.frz τ xs)::ob) mu1 ok)->(∀ id,id≠i->mu1 id=mu id) ->
       ∃ mu', Mem w0 (cx w (Zay ((i, .frz τ xs) :: ws) ob) mu' ok) /\ Mono (cx w ob mu ok) (cx w (Zay ((i, .frz τ xs) :: ws) ob) mu' ok) /\
         (∀ p∈(i,AV.frz τ xs)::ws,look (Zay ((i,.frz τ xs)::ws) ob) p.1=p.2) /\
         (∀ id,(∀ p∈(i,AV.frz τ xs)::ws,p.1≠id)->look (Zay ((i,.frz τ xs)::ws) ob) id=look ob id/\mu' id=mu id):=by
     intro mu1 hm1 hmono hmu
     have hf':Fz' ((i,.frz τ xs)::ob) ws:=by
       intro p hp
       obtain ⟨e',τ',xs',hl',hv'⟩:=hf p (by simp [hp])
       by_cases ei:i=p.1
       . rw [<- ei] at hl'
         rw [<- ei,look_eq]
         refine ⟨e',τ',xs',.inr ?_,hv'⟩
         rcases hl with hl | hl <;> rcases hl' with hl' | hl' <;> rw [hl] at hl' <;> injection hl' <;> subst_vars <;> simp_all
       . rw [ZaQ _ _ ei]
         exact ⟨e',τ',xs',hl',hv'⟩
     obtain ⟨mu',h1,h2,h3,h4⟩:=ZqG ws _ mu1 hf' hm1
     refine ⟨mu',h1,hmono.trans h2,?_,?_⟩
     . intro p hp
       rcases List.mem_cons.1 hp with rfl | hp
       . by_cases hin:∃ q∈ws,q.1=i
         . obtain ⟨q,hq,hqi⟩:=hin
           have h5:=h3 q hq
           obtain ⟨e',τ',xs',hl',hv'⟩:=hf' q hq
           rw [hqi,look_eq] at hl'
           show look (Zay ws ((i,.frz τ xs)::ob)) i=_
           rw [hqi] at h5
           rw [h5,hv']
           rcases hl' with hl' | hl'
           . cases hl'
           . exact hl'.symm
         . have:=(h4 i (fun q hq e=>hin ⟨q,hq,e⟩)).1
           rw [look_eq] at this
           exact this
       . exact h3 p hp
     . intro id hid
       have h5:=h4 id (fun p hp=>hid p (by simp [hp]))
       have hne:i≠id:=hid (i,.frz τ xs) (by simp)
       rw [ZaQ _ _ hne] at h5
       exact ⟨h5.1,h5.2.trans (hmu id (Ne.symm hne))⟩
   rcases hl with hl | hl
   . obtain ⟨h1,h2⟩:=hm.freeze hl
     exact next _ h2 h1 (fun id h=>Zbp _ _ h)
   . have he:=Zzg hl
     have hcx:cx w ((i,.frz τ xs)::ob) mu ok=cx w ob mu ok:=by simp only [cx,he]
     exact next mu (hcx ▸ hm) (hcx ▸ Mono.refl _) (fun _ _=>rfl)
theorem Zgy {w0 w:World} {ok:Nat->Prop} {ws:Wr} {ob:List (Nat×AV)} {mu:Nat->Option Nat} (hf:Fz ob ws) (hm:Mem w0 (cx w ob mu ok)) :
   ∃ mu', Mem w0 (cx w (Zay ws ob) mu' ok) /\ Mono (cx w ob mu ok) (cx w (Zay ws ob) mu' ok) /\ (∀ p ∈ ws, look (Zay ws ob) p.1 = p.2) /\
     (∀ id,(∀ p∈ws,p.1≠id)->look (Zay ws ob) id=look ob id/\mu' id=mu id) :=
 ZqG ws ob mu (fun p hp=>let ⟨e,τ,xs,h1,h2⟩:=hf p hp;⟨e,τ,xs,.inl h1,h2⟩) hm
theorem Zgz (a b:Wr) (ob:List (Nat×AV)):Zay (a++b) ob=Zay b (Zay a ob):=by
 induction a generalizing ob with
 | nil=>rfl
 | cons p a ih=>exact ih _
theorem Zpf {α:Type} {v:AV} {k:AV->Wr->Rd α} {σ:St} {r:α} (h:(Zhr v k).val σ=some r) :
   ∃ x ws, (k x ws).val σ = some r /\ Fz σ.ob ws /\ x.one = true /\
     ∀ (c c':Cx) (u:Value),c.ob=look σ.ob->Mono c c'->(∀ p∈ws,c'.ob p.1=p.2)->V c v u->V c' x u:=by
 cases v with
 | own id =>
   simp only [Zhr,Rd.val] at h
   change (match σ.get (.m id) with | .row _ τ xs=>_ | .frz τ xs=>_ | _=>_:Rd α).val σ=some r at h
   cases hob:σ.get (.m id) <;> rw [hob] at h <;> try (simp [Rd.val] at h;done)
   case row e τ xs =>
     refine ⟨_,_,h,fun p hp=>⟨e,τ,xs,?_,?_⟩,rfl,fun c c' u hc hm hw hv=>?_⟩
     . simp only [List.mem_singleton] at hp;subst hp;exact hob
     . simp only [List.mem_singleton] at hp;subst hp;rfl
     . have h1:=hm.own id u hv
       have h2:=hw _ (List.mem_singleton.2 rfl)
       unfold OwnV at h1
       rw [h2] at h1
       exact h1
   case frz τ xs =>
     refine ⟨_,_,h,Fz.nil _,rfl,fun c c' u hc hm hw hv=>?_⟩
     have h1:OwnV c id u:=hv
     unfold OwnV at h1
     rw [hc,show look σ.ob id=.frz τ xs from hob] at h1
     exact hm.dv _ _ h1
 | int k n=>exact ⟨_,_,h,Fz.nil _,rfl,fun c c' u _ hm _ hv=>hm.v _ _ hv⟩
 | bool b=>exact ⟨_,_,h,Fz.nil _,rfl,fun c c' u _ hm _ hv=>hm.v _ _ hv⟩
 | str s=>exact ⟨_,_,h,Fz.nil _,rfl,fun c c' u _ hm _ hv=>hm.v _ _ hv⟩
 | lst τ xs=>exact ⟨_,_,h,Fz.nil _,rfl,fun c c' u _ hm _ hv=>hm.v _ _ hv⟩
 | emp=>exact ⟨_,_,h,Fz.nil _,rfl,fun c c' u _ hm _ hv=>hm.v _ _ hv⟩
 | fn f caps =>
   cases caps with
   | nil=>exact ⟨_,_,h,Fz.nil _,rfl,fun c c' u _ hm _ hv=>hm.v _ _ hv⟩
   | cons=>simp [Zhr,Rd.val] at h
 | _=>simp [Zhr,Rd.val] at h
theorem Zkt {α:Type} {σ:St} {r:α}:∀ {vs:List AV} {k:List AV->Wr->Rd α},(Zlh vs k).val σ=some r ->
   ∃ xs ws, (k xs ws).val σ = some r /\ Fz σ.ob ws /\ xs.length = vs.length /\ (∀ x ∈ xs, x.one = true) /\
     ∀ (c c':Cx) (us:List Value),c.ob=look σ.ob->Mono c c'->(∀ p∈ws,c'.ob p.1=p.2)->VL c vs us->VL c' xs us
 | [],k,h=>⟨[],[],h,Fz.nil _,rfl,fun _ h=>(by cases h),fun c c' us _ _ _ hv=>by rw [Zbo hv];trivial⟩
 | v :: vs, k, h => by
   obtain ⟨x,ws,h1,h2,h3,h4⟩:=Zpf h
   obtain ⟨xs,ws',h5,h6,h7,h8,h9⟩:=Zkt h1
   refine ⟨x::xs,ws++ws',h5,h2.append h6,by simp [h7],?_,?_⟩
   . intro y hy
     rcases List.mem_cons.1 hy with rfl | hy
     . exact h3
     . exact h8 y hy
   . intro c c' us hc hm hw hv
     obtain ⟨u,us',rfl,hv1,hv2⟩:=Za6 hv
     exact ⟨h4 c c' u hc hm (fun p hp=>hw p (List.mem_append_left _ hp)) hv1,h9 c c' us' hc hm (fun p hp=>hw p (List.mem_append_right _ hp)) hv2⟩
end Go.Proofs.Mill
