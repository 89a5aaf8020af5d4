/- Parts of the proof: MillQCfg, MillQTurn, MillQBase, MillQClimb, MillQMachine, MillQGather, MillQGather2, MillQCollide, MillQApply, MillQStep, MillQCore, MillQMOne, MillQMLogs, MillQStart. -/
import Derived.Test.YtaopdopnecognaaGreatMillP0
import Derived.Test.YtaopdopnecognaaGreatMillPShown19
import Derived.Test.YtaopdopnecognaaGreatMillAll4
import Derived.KernelRfl
set_option linter.all false
noncomputable section
namespace Go.Proofs.Mill
structure CfgOK (c:Config):Prop where
  threads:1<=c.threads/\c.threads<=16
  items:1<=c.items/\c.items<=4
  backend:1<=c.backend/\c.backend<=3
  depth:0<=c.depth/\c.depth<=4
  layers:0<=c.layers/\c.layers<=3
  width:1<=c.width/\c.width<=8
  spin:0<=c.spin/\c.spin<=20
  wait:0<=c.wait/\c.wait<=1000
  bounds:c.bounded=true->c.lo<=c.init/\c.init<=c.hi
theorem ZgU (c:Config):∃ e,ZdZ c=some e/\(e=0↔CfgOK c):=by
 unfold ZdZ
 simp only [Zat]
 by_cases h0:c.threads<1
 . exact ⟨50,by rw [if_pos h0],by simp,fun h=>by have:=h.threads;omega⟩
 rw [if_neg h0]
 by_cases h1:c.threads>16
 . exact ⟨50,by rw [if_pos h1],by simp,fun h=>by have:=h.threads;omega⟩
 rw [if_neg h1]
 by_cases h2:c.items<1
 . exact ⟨51,by rw [if_pos h2],by simp,fun h=>by have:=h.items;omega⟩
 rw [if_neg h2]
 by_cases h3:c.items>4
 . exact ⟨51,by rw [if_pos h3],by simp,fun h=>by have:=h.items;omega⟩
 rw [if_neg h3]
 by_cases h4:c.backend<1
 . exact ⟨52,by rw [if_pos h4],by simp,fun h=>by have:=h.backend;omega⟩
 rw [if_neg h4]
 by_cases h5:c.backend>3
 . exact ⟨52,by rw [if_pos h5],by simp,fun h=>by have:=h.backend;omega⟩
 rw [if_neg h5]
 by_cases h6:c.depth<0
 . exact ⟨53,by rw [if_pos h6],by simp,fun h=>by have:=h.depth;omega⟩
 rw [if_neg h6]
 by_cases h7:c.depth>4
 . exact ⟨53,by rw [if_pos h7],by simp,fun h=>by have:=h.depth;omega⟩
 rw [if_neg h7]
 by_cases h8:c.layers<0
 . exact ⟨54,by rw [if_pos h8],by simp,fun h=>by have:=h.layers;omega⟩
 rw [if_neg h8]
 by_cases h9:c.layers>3
 . exact ⟨54,by rw [if_pos h9],by simp,fun h=>by have:=h.layers;omega⟩
 rw [if_neg h9]
 by_cases h10:c.width<1
 . exact ⟨55,by rw [if_pos h10],by simp,fun h=>by have:=h.width;omega⟩
 rw [if_neg h10]
 by_cases h11:c.width>8
 . exact ⟨55,by rw [if_pos h11],by simp,fun h=>by have:=h.width;omega⟩
 rw [if_neg h11]
 by_cases h12:c.spin<0
 . exact ⟨56,by rw [if_pos h12],by simp,fun h=>by have:=h.spin;omega⟩
 rw [if_neg h12]
 by_cases h13:c.spin>20
 . exact ⟨56,by rw [if_pos h13],by simp,fun h=>by have:=h.spin;omega⟩
 rw [if_neg h13]
 by_cases h14:c.wait<0
 . exact ⟨57,by rw [if_pos h14],by simp,fun h=>by have:=h.wait;omega⟩
 rw [if_neg h14]
 by_cases h15:c.wait>1000
 . exact ⟨57,by rw [if_pos h15],by simp,fun h=>by have:=h.wait;omega⟩
 rw [if_neg h15]
 cases hb:c.bounded with
 | false=>exact ⟨0,rfl,fun _=>⟨by omega,by omega,by omega,by omega,by omega,by omega,by omega,by omega,fun h=>by rw [hb] at h;cases h⟩,fun _=>rfl⟩
 | true =>
   simp only [cond_true]
   by_cases k1:c.lo>c.init
   . exact ⟨58,by rw [if_pos k1],by simp,fun h=>by have:=h.bounds hb;omega⟩
   rw [if_neg k1]
   by_cases k2:c.init>c.hi
   . exact ⟨58,by rw [if_pos k2],by simp,fun h=>by have:=h.bounds hb;omega⟩
   rw [if_neg k2]
   exact ⟨0,rfl,fun _=>⟨by omega,by omega,by omega,by omega,by omega,by omega,by omega,by omega,fun _=>by omega⟩,fun _=>rfl⟩
end Go.Proofs.Mill
namespace Go.Proofs.Mill
structure Sm (n:Nat) (u:Turn):Prop where
  words:u.m.words.length<=n
  boxes:u.m.boxes.length<=n
  box:∀ b∈u.m.boxes,b.length<=n
  batch:u.th.batch.length<=n
  kids:u.th.kids.length<=n
  held:u.th.held.length<=n
  tape:u.tape.l.length<=n
  log:u.log.length<=n
end Go.Proofs.Mill
namespace Go.Proofs.Mill
def ZaI (c:Config):Int:=if c.depth=0 then 0 else if c.depth=1 then 1 else if c.depth=2 then 3 else if c.depth=3 then 7 else 15
def Zaz (c:Config):Int:=1+ZaI c+c.layers*c.width
def Za0 (c:Config):Int:=c.items*Zaz c
def sizeOf (c:Config):Int:=Za0 c+2*c.threads
theorem ZC0 {c:Config} (h:CfgOK c):c.depth=0\/c.depth=1\/c.depth=2\/c.depth=3\/c.depth=4:=by have:=h.depth;omega
theorem ZbT (c:Config):0<=ZaI c/\ZaI c<=15:=by
 unfold ZaI
 repeat' split
 all_goals omega
theorem Zgp {c:Config} (h:CfgOK c):0<=c.layers*c.width/\c.layers*c.width<=24:=by
 have h1:=h.layers
 have h2:=h.width
 have:c.layers=0\/c.layers=1\/c.layers=2\/c.layers=3:=by omega
 rcases this with e | e | e | e <;> rw [e] <;> omega
theorem ZcJ {c:Config} (h:CfgOK c):1<=Zaz c/\Zaz c<=40:=by
 have h1:=Zgp h
 have h2:=ZbT c
 unfold Zaz
 omega
theorem Zdv {c:Config} (h:CfgOK c) {i:Int} (h0:0<=i) (h1:i<=c.items):0<=i*Zaz c/\i*Zaz c<=Za0 c:=by
 have hb:=ZcJ h
 refine ⟨Int.mul_nonneg h0 (by omega),Int.mul_le_mul_of_nonneg_right h1 (by omega)⟩
theorem Za8 {c:Config} (h:CfgOK c):1<=Za0 c/\Za0 c<=160:=by
 have hb:=ZcJ h
 have h1:=h.items
 unfold Za0
 have:c.items=1\/c.items=2\/c.items=3\/c.items=4:=by omega
 rcases this with e | e | e | e <;> rw [e] <;> omega
theorem ZpC {c:Config} (h:CfgOK c):ZjS c=some (ZaI c):=by
 unfold ZjS ZaI
 rcases ZC0 h with e | e | e | e | e <;> rw [e] <;> rfl
theorem ZiP {c:Config} (h:CfgOK c):Zmx c=some ⟨1,1+ZaI c,Zaz c,Za0 c⟩:=by
 have h1:=Zgp h
 have h2:=ZbT c
 have h3:=ZcJ h
 have h4:=Za8 h
 simp only [Zmx,ZfA,ZpC h]
 rw [Zas (n:=1+ZaI c) (by omega) (by omega),Zas (n:=c.layers*c.width) (by omega) (by omega),Zas (n:=1+ZaI c+c.layers*c.width) (by omega) (by omega),
   show c.items*(1+ZaI c+c.layers*c.width)=Za0 c from rfl,Zas (n:=Za0 c) (by omega) (by omega)]
 rfl
def nodeAt (c:Config) (item n:Int):Int:=if item<0\/item>=c.items\/n<1\/n>ZaI c then -1 else item*Zaz c+n
theorem ZjP {c:Config} (h:CfgOK c) (item n:Int) (h0:nodeAt c item n≠-1):0<=nodeAt c item n/\nodeAt c item n<Za0 c/\0<=item/\item<c.items/\1<=n/\n<=ZaI c/\nodeAt c item n=item*Zaz c+n:=by
 unfold nodeAt at h0 ⊢
 split at h0
 . exact (h0 rfl).elim
 rename_i hc
 rw [if_neg hc]
 have h1:=Zdv h (i:=item) (by omega) (by omega)
 have h2:=Zdv h (i:=item+1) (by omega) (by omega)
 have h3:(item+1)*Zaz c=item*Zaz c+Zaz c:=by rw [Int.add_mul,Int.one_mul]
 have h4:=ZbT c
 have h5:=Zgp h
 have h6:Zaz c=1+ZaI c+c.layers*c.width:=rfl
 omega
theorem Zmy {c:Config} (h:CfgOK c) (item n:Int):Zk1 c item n=some (nodeAt c item n):=by
 have h6:=ZbT c
 simp only [Zk1,Zat,ZfA,ZpC h,Zcl,ZiP h]
 rw [Zas (n:=1+ZaI c) (by omega) (by omega)]
 unfold nodeAt
 by_cases h1:item<0
 . simp [h1]
 by_cases h2:item>=c.items
 . simp [h1,h2]
 by_cases h3:n<1
 . simp [h1,h2,h3]
 by_cases h4:n>ZaI c
 . have h4':n>=1+ZaI c:=by omega
   simp [h1,h2,h3,h4,h4']
 have h4':¬n>=1+ZaI c:=by omega
 simp only [if_neg h1,if_neg h2,if_neg h3,if_neg h4',h1,h2,h3,h4,or_self]
 have h5:=Zdv h (i:=item) (by omega) (by omega)
 have h7:=Za8 h
 rw [Zas (n:=item*Zaz c) (by omega) (by omega),Zas (by omega) (by omega)]
 rfl
theorem ZqL {t:Int} (h0 : -1<=t) (h1:t<=1000):Zk8 t=some (8*(t+1)+1):=by
 simp only [Zk8,ZbQ,Zdq]
 rw [Zas (n:=t+1) (by omega) (by omega),Zas (n:=8*(t+1)) (by omega) (by omega),Zas (by omega) (by omega)]
theorem ZvD {t:Int} (h0 : -1<=t) (h1:t<=1000):ZjW t=some (8*(t+1)+2):=by
 simp only [ZjW,ZbQ,Zdq]
 rw [Zas (n:=t+1) (by omega) (by omega),Zas (n:=8*(t+1)) (by omega) (by omega),Zas (by omega) (by omega)]
def Zcc (w:Int):Int := if w=0 then 0 else if w=5 then 5 else if 1<=w % 8/\w % 8<=3/\0<=w / 8-1/\w / 8-1<16 then w % 8 else if w % 8=4/\0<=(w / 8-1) / 16/\(w / 8-1) / 16<4/\1<=(w / 8-1) % 16/\(w / 8-1) % 16<=3 then 4 else -1
theorem ZvR (w:Int) (k:Nat) (hk:k<=64):((BitVec.ofInt 64 w &&& BitVec.ofInt 64 (2 ^ k-1)).toNat:Int)=w % (2 ^ k):=by
 have h1:(BitVec.ofInt 64 ((2:Int) ^ k-1)).toNat=2 ^ k-1:=by
   rw [BitVec.toNat_ofInt]
   have hp:(1:Nat)<=2 ^ k:=Nat.one_le_two_pow
   have hq:2 ^ k<=2 ^ 64:=Nat.pow_le_pow_right (by omega) hk
   have e:((2:Int) ^ k-1)=((2 ^ k-1:Nat):Int):=by
     rw [Int.natCast_sub hp]
     simp
   rw [e]
   have:((2 ^ k-1:Nat):Int) % ((2 ^ 64:Nat):Int)=((2 ^ k-1:Nat):Int):=by
     rw [<- Int.natCast_emod,Nat.mod_eq_of_lt (by omega)]
   rw [this]
   rfl
 rw [BitVec.toNat_and,h1,Nat.and_two_pow_sub_one_eq_mod,BitVec.toNat_ofInt,Int.natCast_emod]
 have h2:0<=w % ((2 ^ 64:Nat):Int):=Int.emod_nonneg _ (by decide)
 rw [Int.toNat_of_nonneg h2]
 have h3:((2 ^ k:Nat):Int)∣((2 ^ 64:Nat):Int):=by
   exact Int.natCast_dvd_natCast.2 (Nat.pow_dvd_pow 2 hk)
 rw [Int.emod_emod_of_dvd _ h3]
 simp
theorem and7 (w:Int):((BitVec.ofInt IntKind.i64.bits w &&& BitVec.ofInt IntKind.i64.bits (7:Int)).toNat:Int)=w % 8:=by
 have:=ZvR w 3 (by omega)
 exact this
theorem ZDu (w:Int):((BitVec.ofInt IntKind.i64.bits w &&& BitVec.ofInt IntKind.i64.bits (15:Int)).toNat:Int)=w % 16:=by
 have:=ZvR w 4 (by omega)
 exact this
theorem shr3 (w:Int):w.fdiv ((2:Int) ^ min (Int.toNat (3:Int)) IntKind.i64.bits)=w / 8:=by
 rw [show ((2:Int) ^ min (Int.toNat (3:Int)) IntKind.i64.bits)=8 from rfl,Int.fdiv_eq_ediv_of_nonneg _ (by omega)]
theorem shr4 (w:Int):w.fdiv ((2:Int) ^ min (Int.toNat (4:Int)) IntKind.i64.bits)=w / 16:=by
 rw [show ((2:Int) ^ min (Int.toNat (4:Int)) IntKind.i64.bits)=16 from rfl,Int.fdiv_eq_ediv_of_nonneg _ (by omega)]
theorem shr1 (w:Int):w.fdiv ((2:Int) ^ min (Int.toNat (1:Int)) IntKind.i64.bits)=w / 2:=by
 rw [show ((2:Int) ^ min (Int.toNat (1:Int)) IntKind.i64.bits)=2 from rfl,Int.fdiv_eq_ediv_of_nonneg _ (by omega)]
def Zof (w:Int):Said := if w % 8=5/\w / 8-1=-1 then ⟨5,-1⟩ else if 1<=w % 8/\w % 8<=3/\0<=w / 8-1/\w / 8-1<16 then ⟨w % 8,w / 8-1⟩ else if w % 8=4/\0<=(w / 8-1) / 16/\(w / 8-1) / 16<4/\1<=(w / 8-1) % 16/\(w / 8-1) % 16<=3 then ⟨w % 8,w / 8-1⟩ else ⟨0,0⟩
theorem ZvQ {w:Int} (h0 : -9223372036854775808<=w) (h1:w<=9223372036854775807):Zok w=some (Zof w):=by
 simp only [Zok,and7,shr3]
 rw [Zas (n:=w % 8) (by omega) (by omega),Zas (n:=w / 8-1) (by omega) (by omega)]
 simp only [ZDu,shr4]
 rw [Zas (n:=(w / 8-1) % 16) (by omega) (by omega)]
 unfold Zof
 by_cases e5:w % 8=5/\w / 8-1=-1
 . simp [e5]
 rw [if_neg e5]
 have e5':(w % 8 == 5 && (w / 8-1 == -1 && true))=false:=by
   simp only [Bool.and_true,Bool.and_eq_false_imp,beq_iff_eq,beq_eq_false_iff_ne]
   intro a b
   exact e5 ⟨a,b⟩
 rw [e5',cond_false]
 simp only [Zat,ge_iff_le]
 have hb:∀ (α:Type) (x y:α),(bif w % 8 == 4 then x else y)=if w % 8=4 then x else y:=by
   intro α x y
   by_cases h:w % 8=4
   . simp [h]
   . rw [if_neg h,show (w % 8 == 4)=false by simpa using h]
     rfl
 simp only [hb]
 repeat' split
 all_goals first | rfl | (exfalso;omega)
theorem Zsb {w:Int} (h0 : -9223372036854775808<=w) (h1:w<=9223372036854775807):ZlI w=some (Zcc w):=by
 simp only [ZlI,Zjr,ZvQ h0 h1]
 unfold Zcc Zof
 by_cases e0:w=0
 . subst e0;rfl
 have e0':(w == 0)=false:=by simpa using e0
 rw [e0',cond_false,if_neg e0]
 by_cases e5:w=5
 . subst e5;rfl
 rw [if_neg e5,if_neg (by omega)]
 by_cases e1:1<=w % 8/\w % 8<=3/\0<=w / 8-1/\w / 8-1<16
 . rw [if_pos e1,if_pos e1]
   have:(w % 8 == 0)=false:=by simp;omega
   simp only [this,Bool.false_and,Bool.not_false,cond_true]
 rw [if_neg e1,if_neg e1]
 by_cases e4:w % 8=4/\0<=(w / 8-1) / 16/\(w / 8-1) / 16<4/\1<=(w / 8-1) % 16/\(w / 8-1) % 16<=3
 . rw [if_pos e4,if_pos e4,e4.1]
   rfl
 . rw [if_neg e4,if_neg e4]
   rfl
end Go.Proofs.Mill
namespace Go.Proofs.Mill
structure Big (u:Turn):Prop where
  words:u.m.words.length<=400
  boxes:u.m.boxes.length<=16
  box:∀ b∈u.m.boxes,b.length<=20
  batch:u.th.batch.length<=20
  kids:u.th.kids.length<=20
  held:u.th.held.length<=20
  tape:u.tape.l.length<=100
  log:u.log.length<=50
structure May (u:Turn):Prop where
  cfg:CfgOK u.c
  t:0<=u.t/\u.t<u.c.threads
  words:(u.m.words.length:Int)=sizeOf u.c
  boxes:(u.m.boxes.length:Int)=u.c.threads
  item:0<=u.th.item/\u.th.item<u.c.items
def Num (n:Int):Prop:=-9223372036854775808<=n/\n<=9223372036854775807
theorem ZaS {a b:Int} (h:a≠b):(a == b)=false:=by simpa using h
theorem Zbf {a b:Int} (h:a=b):(a == b)=true:=by simpa using h
theorem Zf7 {a b:Int} (h:a=b):(a != b)=false:=by simp [h]
theorem ZeV {a b:Int} (h:a≠b):(a != b)=true:=by simpa using h
def Ztl (u:Turn):Turn:={ u with th:={ u.th with phase:=if 0<=u.th.at_/\u.th.at_<(u.th.held.length:Int) then 7 else if u.th.stop>0 then 11 else 2 } }
theorem Zqj (u:Turn):ZkB u=some (Ztl u):=by
 simp only [ZkB,Zat,Ztl,ge_iff_le]
 repeat' split
 all_goals first | rfl | (exfalso;omega)
def Zp6 (u:Turn):Turn:=Ztl { u with th:={ u.th with at_:=0 } }
theorem Zms (u:Turn):Zkv u=some (Zp6 u):=by simp only [Zkv,Zgi,Zqj,Zp6]
def Late (u:Turn):Prop:=0<u.th.until_/\u.th.until_<=u.now
instance (u:Turn):Decidable (Late u):=inferInstanceAs (Decidable (_/\_))
theorem ZlT (u:Turn):ZjU u=some (decide (Late u)):=by
 simp only [ZjU,Zat]
 by_cases h:0<u.th.until_
 . rw [if_pos h];simp [Late,h]
 . rw [if_neg h];simp [Late,h]
abbrev Za3 (u:Turn) (a:Int):Int:=u.m.words.getD a.toNat 0
def ZhJ (u:Turn) (w:Int):Turn := if Zcc w=1 then { u with th:={ u.th with phase:=6,x:=w } } else if Zcc w=0 then { u with th:={ u.th with phase:=5 } } else if Late u then Zp6 u else u
def Zen (u:Turn):Turn := if u.th.node / 2>0 then { u with th:={ u.th with held:=u.th.held++[u.th.node],node:=u.th.node / 2 } } else Zp6 { u with th:={ u.th with held:=u.th.held++[u.th.node],node:=u.th.node / 2 } }
def ZoV (u:Turn):Turn:=Zp6 { u with th:={ u.th with stop:=u.th.node } }
abbrev ZcB (u:Turn):Int:=nodeAt u.c u.th.item u.th.node
abbrev Zjt (u:Turn) (a w:Int):Turn:={ u with m:={ u.m with words:=u.m.words.set a.toNat w },th:={ u.th with phase:=4 } }
def Zcs (u:Turn):Turn×Bool := if u.th.phase=4 then (if ZcB u=-1 then u else ZhJ u (Za3 u (ZcB u)),true) else if u.th.phase=5 then (if ZcB u=-1 then u else if Za3 u (ZcB u)=0 then Zen (Zjt u (ZcB u) (8*(u.t+1)+1)) else { u with th:={ u.th with phase:=4 } },true) else if u.th.phase=6 then (if ZcB u=-1 then u else if Za3 u (ZcB u)=u.th.x then ZoV (Zjt u (ZcB u) (8*(u.t+1)+2)) else { u with th:={ u.th with phase:=4 } },true) else (u,false)
structure Fit (u:Turn):Prop where
  cfg:CfgOK u.c
  t:0<=u.t/\u.t<u.c.threads
  words:(u.m.words.length:Int)=sizeOf u.c
  nums:∀ n∈u.m.words,Num n
  held:u.th.held.length<=4294967295
theorem Fit.node {u:Turn} (h:Fit u) (h0:ZcB u≠-1):0<=ZcB u/\ZcB u<(u.m.words.length:Int)/\1<=u.th.node/\u.th.node<=15:=by
 obtain ⟨h1,h2,_,_,h5,h6,_⟩:=ZjP h.cfg _ _ h0
 have h3:=h.words
 have h4:=h.cfg.threads
 have h7:=ZbT u.c
 unfold sizeOf at h3
 exact ⟨h1,by show nodeAt _ _ _<_;omega,h5,by omega⟩
theorem Fit.len {u:Turn} (h:Fit u):u.m.words.length<=192:=by
 have h1:=Za8 h.cfg
 have h2:=h.cfg.threads
 have h3:=h.words
 unfold sizeOf at h3
 omega
theorem Fit.word {u:Turn} (h:Fit u) (h0:ZcB u≠-1):Num (Za3 u (ZcB u)):=by
 obtain ⟨h1,h2,_⟩:=h.node h0
 have hlt:(ZcB u).toNat<u.m.words.length:=by omega
 show Num (u.m.words.getD _ _)
 rw [List.getD_eq_getElem?_getD,List.getElem?_eq_getElem hlt,Option.getD_some]
 exact h.nums _ (List.getElem_mem hlt)
theorem Zfs {l:List Int} {a:Int} (h0:0<=a) (h1:a<(l.length:Int)):ZfK l a=some (l.getD a.toNat 0,0):=by
 simp only [ZfK,Zat]
 rw [if_neg (by omega),if_neg (by omega),if_pos h0,if_pos h1]
theorem Zg2 {l:List Int} {a:Int} (h:a<0\/a>=(l.length:Int)):ZfK l a=some (0,30):=by
 simp only [ZfK,Zat]
 rcases h with h | h
 . rw [if_pos h]
 . by_cases h1:a<0
   . rw [if_pos h1]
   . rw [if_neg h1,if_pos h]
theorem Zls {l:List Int} (h:l.length<=4294967296):ZdF l=some l:=by
 simp only [ZdF,Nat.zero_add,Zbb h,cond_true]
theorem ZeQ {m:Memo} {a o v:Int} (h0:0<=a) (h1:a<(m.words.length:Int)) (hl:m.words.length<=4294967296) :
   Zh3 m a o v=some (if m.words.getD a.toNat 0=o then { m with words:=m.words.set a.toNat v } else m,decide (m.words.getD a.toNat 0=o),0):=by
 simp only [Zh3,ZbD,Zfs h0 h1,bne_self_eq_false,cond_false,Zbs,Zls hl,Zat,if_pos h0,if_pos h1]
 by_cases e:m.words.getD a.toNat 0=o
 . rw [Zbf e,cond_true,if_pos e,decide_eq_true e]
 . rw [ZaS e,cond_false,if_neg e,decide_eq_false e]
theorem Zir {m:Memo} {a o v:Int} (h:a<0\/a>=(m.words.length:Int)):Zh3 m a o v=some (m,false,30):=by
 simp only [Zh3,ZbD,Zg2 h]
 rfl
theorem ZwG {u:Turn} {w:Int} (h:Num w):Zk5 u w=some (ZhJ u w):=by
 simp only [Zk5,Zg4,Zsb h.1 h.2,ZdY,ZlT,Zeq,Zms]
 unfold ZhJ
 by_cases h1:Zcc w=1
 . rw [Zbf h1,cond_true,if_pos h1]
 rw [ZaS h1,cond_false,if_neg h1]
 by_cases h2:Zcc w=0
 . rw [Zbf h2,cond_true,if_pos h2]
 rw [ZaS h2,cond_false,if_neg h2]
 by_cases h3:Late u
 . rw [if_pos h3,decide_eq_true h3];rfl
 . rw [if_neg h3,decide_eq_false h3];rfl
theorem Zvx {u:Turn} (h:u.th.held.length<=4294967295) (h1:1<=u.th.node):Zj2 u=some (Zen u):=by
 have e:(if (0:Int)>u.th.node then (0:Int) else u.th.node)=u.th.node:=if_neg (by omega)
 have hf:fewB (u.th.held.length+1)=true:=Zbb (by omega)
 simp only [Zj2,Zbs,Zls (show u.th.held.length<=4294967296 by omega),List.length_cons,List.length_nil,Nat.zero_add,hf,cond_true,ZiF,Zl9,e,shr1,Zat,Zeq,Zms]
 unfold Zen
 split <;> rfl
theorem ZtK (u:Turn):ZiA u=some (ZoV u):=by
 simp only [ZiA,Zeq,Zms,ZoV]
theorem ZxD {u:Turn} (h:Fit u):ZkV u=some (Zcs u):=by
 have ht:=h.cfg.threads
 have h1:=h.t
 have hl:=h.len
 simp only [ZkV,Zek,Zmy h.cfg,Ze9,ZqL (t:=u.t) (by omega) (by omega),ZjK,ZvD (t:=u.t) (by omega) (by omega),ZbX,ZfV,ZbD,ZcS]
 unfold Zcs
 by_cases p4:u.th.phase=4
 . rw [Zbf p4,cond_true,if_pos p4]
   by_cases hn:ZcB u=-1
   . rw [Zg2 (.inl (by show ZcB u<0;omega)),if_pos hn]
     rfl
   . obtain ⟨n0,n1,_⟩:=h.node hn
     rw [Zfs n0 n1,if_neg hn]
     simp only [bne_self_eq_false,cond_false,Zkw]
     rw [ZwG (h.word hn)]
 rw [ZaS p4,cond_false,if_neg p4]
 by_cases p6:u.th.phase=6
 . rw [Zbf p6,cond_true,if_neg (by omega),if_pos p6]
   by_cases hn:ZcB u=-1
   . rw [Zir (.inl (by show ZcB u<0;omega)),if_pos hn]
     rfl
   . obtain ⟨n0,n1,_⟩:=h.node hn
     rw [ZeQ n0 n1 (by omega),if_neg hn]
     simp only [bne_self_eq_false,cond_false,ZiG,ZtK]
     by_cases e:Za3 u (ZcB u)=u.th.x
     . rw [decide_eq_true e,cond_true,if_pos e,if_pos e]
     . rw [decide_eq_false e,cond_false,if_neg e,if_neg e]
 rw [ZaS p6,cond_false]
 by_cases p5:u.th.phase=5
 . rw [Zbf p5,cond_true,if_pos p5]
   by_cases hn:ZcB u=-1
   . rw [Zir (.inl (by show ZcB u<0;omega)),if_pos hn]
     rfl
   . obtain ⟨n0,n1,n2,n3⟩:=h.node hn
     rw [ZeQ n0 n1 (by omega),if_neg hn]
     simp only [bne_self_eq_false,cond_false,Zj7]
     by_cases e:Za3 u (ZcB u)=0
     . rw [decide_eq_true e,cond_true,if_pos e,if_pos e,Zvx (by exact h.held) (by exact n2)]
     . rw [decide_eq_false e,cond_false,if_neg e,if_neg e]
 rw [ZaS p5,cond_false,if_neg p5,if_neg p6]
end Go.Proofs.Mill
namespace Go.Proofs.Mill
end Go.Proofs.Mill
namespace Go.Proofs.Mill
theorem Zv5 {n:Int} (h:n<=4294967296):n<=Zbt:=by unfold Zbt;exact h
theorem ZzF {n:Int} (h0:0<=n) (h1:n<=4294967296):Zer () n=some []:=by
 have e:Zac IntKind.i64 (n-Zac IntKind.i64 (0-0))=n:=by
   rw [Zas (n:=0-0) (by omega) (by omega),Zas (by omega) (by omega)];omega
 simp only [Zer,Zat,e]
 rw [if_neg (by omega),if_pos h0,if_pos (Zv5 h1)]
 split <;> rfl
theorem Zxd {n:Int} (h0:0<=n) (h1:n<=4294967296):Zec () n=some []:=by
 have e:Zac IntKind.i64 (n-Zac IntKind.i64 (0-0))=n:=by
   rw [Zas (n:=0-0) (by omega) (by omega),Zas (by omega) (by omega)];omega
 simp only [Zec,Zat,e]
 rw [if_neg (by omega),if_pos h0,if_pos (Zv5 h1)]
 split <;> rfl
theorem ZwB {a b:List Kid} (h:a.length+b.length<=4294967296):Zd3 (a::b::[])=some (a++b):=by
 have h3:Zdx (a::b::[],0,a::b::[],2,0)=some (a::b::[],(a.length:Int)+b.length):=by
   unfold Zdx
   rw [Zb2]
   simp only [ZbN,Zcu,Zat,List.length_cons,List.length_nil]
   rw [if_pos (by omega),if_pos (by omega),if_pos (by omega),show ((0:Int).toNat)=0 from rfl,List.getD_cons_zero,Zas (n:=0+(a.length:Int)) (by omega) (by omega),if_neg (by omega),Zas (n:=0+1) (by omega) (by omega)]
   simp only
   rw [Zb2]
   simp only [ZbN,Zcu,Zat,List.length_cons,List.length_nil]
   rw [if_pos (by omega),if_pos (by omega),if_pos (by omega),show ((0+1:Int).toNat)=1 from rfl,List.getD_cons_succ,List.getD_cons_zero,Zas (n:=0+(a.length:Int)+(b.length:Int)) (by omega) (by omega),if_neg (by omega),Zas (n:=0+1+1) (by omega) (by omega)]
   simp only
   rw [Zb2]
   simp only [ZbN,Zcu,Zat,List.length_cons,List.length_nil]
   rw [if_neg (by omega),Int.zero_add]
 have h11:Zdl ([],a::b::[],2,0)=some (a++b):=by
   unfold Zdl
   rw [Zb2]
   simp only [ZbI,Zcp,Zat,List.length_cons,List.length_nil]
   rw [if_pos (by omega),if_pos (by omega),if_pos (by omega),show ((0:Int).toNat)=0 from rfl,List.getD_cons_zero,Zbb (by omega),Zas (n:=0+1) (by omega) (by omega)]
   simp only [cond_true,List.nil_append]
   rw [Zb2]
   simp only [ZbI,Zcp,Zat,List.length_cons,List.length_nil]
   rw [if_pos (by omega),if_pos (by omega),if_pos (by omega),show ((0+1:Int).toNat)=1 from rfl,List.getD_cons_succ,List.getD_cons_zero,Zbb (by omega),Zas (n:=0+1+1) (by omega) (by omega)]
   simp only [cond_true]
   rw [Zb2]
   simp only [ZbI,Zcp,Zat,List.length_cons,List.length_nil]
   rw [if_neg (by omega)]
 have e2:(((a::b::([]:List (List Kid))).length:Nat):Int)=2:=rfl
 simp only [Zd3,e2,h3,Zeo,ZzF (n:=(a.length:Int)+b.length) (by omega) (by omega),h11]
theorem Ztn {a b:List Entry} (h:a.length+b.length<=4294967296):ZdH (a::b::[])=some (a++b):=by
 have h3:Zdj (a::b::[],0,a::b::[],2,0)=some (a::b::[],(a.length:Int)+b.length):=by
   unfold Zdj
   rw [Zb2]
   simp only [ZbG,Zco,Zat,List.length_cons,List.length_nil]
   rw [if_pos (by omega),if_pos (by omega),if_pos (by omega),show ((0:Int).toNat)=0 from rfl,List.getD_cons_zero,Zas (n:=0+(a.length:Int)) (by omega) (by omega),if_neg (by omega),Zas (n:=0+1) (by omega) (by omega)]
   simp only
   rw [Zb2]
   simp only [ZbG,Zco,Zat,List.length_cons,List.length_nil]
   rw [if_pos (by omega),if_pos (by omega),if_pos (by omega),show ((0+1:Int).toNat)=1 from rfl,List.getD_cons_succ,List.getD_cons_zero,Zas (n:=0+(a.length:Int)+(b.length:Int)) (by omega) (by omega),if_neg (by omega),Zas (n:=0+1+1) (by omega) (by omega)]
   simp only
   rw [Zb2]
   simp only [ZbG,Zco,Zat,List.length_cons,List.length_nil]
   rw [if_neg (by omega),Int.zero_add]
 have h11:Zda ([],a::b::[],2,0)=some (a++b):=by
   unfold Zda
   rw [Zb2]
   simp only [Zby,Zcn,Zat,List.length_cons,List.length_nil]
   rw [if_pos (by omega),if_pos (by omega),if_pos (by omega),show ((0:Int).toNat)=0 from rfl,List.getD_cons_zero,Zbb (by omega),Zas (n:=0+1) (by omega) (by omega)]
   simp only [cond_true,List.nil_append]
   rw [Zb2]
   simp only [Zby,Zcn,Zat,List.length_cons,List.length_nil]
   rw [if_pos (by omega),if_pos (by omega),if_pos (by omega),show ((0+1:Int).toNat)=1 from rfl,List.getD_cons_succ,List.getD_cons_zero,Zbb (by omega),Zas (n:=0+1+1) (by omega) (by omega)]
   simp only [cond_true]
   rw [Zb2]
   simp only [Zby,Zcn,Zat,List.length_cons,List.length_nil]
   rw [if_neg (by omega)]
 have e2:(((a::b::([]:List (List Entry))).length:Nat):Int)=2:=rfl
 simp only [ZdH,e2,h3,Zea,Zxd (n:=(a.length:Int)+b.length) (by omega) (by omega),h11]
def ZqF (u:Turn) (who:Int) (b:List Entry):Turn:={ u with th:={ u.th with batch:=u.th.batch++b,kids:=u.th.kids++[⟨who,u.th.batch.length⟩] } }
theorem Zps {u:Turn} {who:Int} {b:List Entry} (h1:u.th.batch.length+b.length<=4294967296) (h2:u.th.kids.length+1<=4294967296):ZjY u who b=some (ZqF u who b):=by
 simp only [ZjY,Zd2,ZwB (a:=u.th.kids) (b:=[⟨who,u.th.batch.length⟩]) (by simpa using h2),ZkH,ZnJ,ZdI,Ztn h1]
 rfl
theorem who3 {w:Int} (h:Num w) (hk:Zcc w=3):ZmY w=some (w / 8-1):=by
 have hb:1<=w % 8/\w % 8<=3/\0<=w / 8-1/\w / 8-1<16:=by
   unfold Zcc at hk
   split at hk
   . omega
   split at hk
   . omega
   split at hk
   . assumption
   . split at hk <;> omega
 have hs:Zof w=⟨w % 8,w / 8-1⟩:=by
   unfold Zof
   rw [if_neg (by omega),if_pos hb]
 simp only [ZmY,Zjr,ZvQ h.1 h.2,hs,Zat]
 rw [if_pos (by omega),if_pos (by omega)]
def Zbl (u:Turn):Int:=if u.th.at_<0\/u.th.at_>=(u.th.held.length:Int) then -1 else nodeAt u.c u.th.item (u.th.held.getD u.th.at_.toNat 0)
theorem Zvj {u:Turn} (h:CfgOK u.c):ZjZ u=some (Zbl u):=by
 simp only [ZjZ,Zat,Zek,Zmy h,Zbl]
 by_cases h1:u.th.at_<0
 . rw [if_pos h1,if_pos (.inl h1)]
 by_cases h2:u.th.at_>=(u.th.held.length:Int)
 . rw [if_neg h1,if_pos h2,if_pos (.inr h2)]
 rw [if_neg h1,if_neg h2,if_pos (by omega),if_pos (by omega),if_neg (by omega)]
def ZoX (u:Turn):Turn:=Ztl { u with th:={ u.th with at_:=Zac IntKind.i64 (u.th.at_+1) } }
theorem Zvh (u:Turn):ZjB u=some (ZoX u):=by simp only [ZjB,Zgi,Zqj,ZoX]
abbrev setW (u:Turn) (a w:Int):Turn:={ u with m:={ u.m with words:=u.m.words.set a.toNat w } }
def Zci (u:Turn):Turn×Bool := if u.th.phase=7 then (if Zbl u=-1 then u else if Za3 u (Zbl u)=8*(u.t+1)+1 then { u with th:={ u.th with phase:=8 } } else if Zcc (Za3 u (Zbl u))=3 then { u with th:={ u.th with phase:=9,who:=Za3 u (Zbl u) / 8-1 } } else u,true) else if u.th.phase=8 then (if Zbl u=-1 then u else if Za3 u (Zbl u)=8*(u.t+1)+1 then ZoX (setW u (Zbl u) 0) else { u with th:={ u.th with phase:=7 } },true) else if u.th.phase=9 then (if u.th.who<0\/u.th.who>=(u.m.boxes.length:Int) then u else { ZqF u u.th.who (u.m.boxes.getD u.th.who.toNat []) with th:={ (ZqF u u.th.who (u.m.boxes.getD u.th.who.toNat [])).th with phase:=10 } },true) else if u.th.phase=10 then (if Zbl u=-1 then u else ZoX (setW u (Zbl u) 0),true) else if u.th.phase=11 then ({ u with m:={ u.m with boxes:=u.m.boxes.set u.t.toNat u.th.batch },th:={ u.th with phase:=12 } },true) else if u.th.phase=12 then (if nodeAt u.c u.th.item u.th.stop=-1 then u else { setW u (nodeAt u.c u.th.item u.th.stop) (8*(u.t+1)+3) with th:={ u.th with phase:=13 } },true) else (u,false)
structure FitG (u:Turn):Prop where
  cfg:CfgOK u.c
  t:0<=u.t/\u.t<u.c.threads
  words:(u.m.words.length:Int)=sizeOf u.c
  boxes:(u.m.boxes.length:Int)=u.c.threads
  nums:∀ n∈u.m.words,Num n
  batch:u.th.batch.length<=1000000
  kids:u.th.kids.length<=1000000
  box:∀ b∈u.m.boxes,b.length<=1000000
theorem FitG.node {u:Turn} (h:FitG u) {i n:Int} (h0:nodeAt u.c i n≠-1):0<=nodeAt u.c i n/\nodeAt u.c i n<(u.m.words.length:Int):=by
 obtain ⟨h1,h2,_⟩:=ZjP h.cfg _ _ h0
 have h3:=h.words
 have h4:=h.cfg.threads
 unfold sizeOf at h3
 omega
theorem FitG.held {u:Turn} (h:FitG u) (h0:Zbl u≠-1):0<=Zbl u/\Zbl u<(u.m.words.length:Int):=by
 unfold Zbl at h0 ⊢
 split at h0
 . exact (h0 rfl).elim
 . rename_i hc
   rw [if_neg hc]
   exact h.node h0
theorem FitG.len {u:Turn} (h:FitG u):u.m.words.length<=192:=by
 have h1:=Za8 h.cfg
 have h2:=h.cfg.threads
 have h3:=h.words
 unfold sizeOf at h3
 omega
theorem FitG.word {u:Turn} (h:FitG u) {a:Int} (h1:0<=a) (h2:a<(u.m.words.length:Int)):Num (Za3 u a):=by
 have hlt:a.toNat<u.m.words.length:=by omega
 show Num (u.m.words.getD _ _)
 rw [List.getD_eq_getElem?_getD,List.getElem?_eq_getElem hlt,Option.getD_some]
 exact h.nums _ (List.getElem_mem hlt)
theorem FitG.boxLen {u:Turn} (h:FitG u) (i:Nat):(u.m.boxes.getD i ([]:List Entry)).length<=1000000:=by
 rw [List.getD_eq_getElem?_getD]
 cases hb:u.m.boxes[i]? with
 | none=>simp
 | some b=>exact h.box b (List.mem_of_getElem? hb)
theorem Zi2 {l:List Entry} (h:l.length<=4294967296):ZcR l=some l:=by
 simp only [ZcR,Nat.zero_add,Zbb h,cond_true]
theorem ZvC {l:List (List Entry)} (h:l.length<=4294967296):ZdL l=some l:=by
 simp only [ZdL,Nat.zero_add,Zbb h,cond_true]
theorem Zd0 {m:Memo} {a v:Int} (h0:0<=a) (h1:a<(m.words.length:Int)) (hl:m.words.length<=4294967296) :
   Zgo m a v=some ({ m with words:=m.words.set a.toNat v },0):=by
 simp only [Zgo,ZbD,Zfs h0 h1,bne_self_eq_false,cond_false,Zbs,Zls hl,Zat,if_pos h0,if_pos h1]
theorem ZgN {m:Memo} {a v:Int} (h:a<0\/a>=(m.words.length:Int)):Zgo m a v=some (m,30):=by
 simp only [Zgo,ZbD,Zg2 h]
 rfl
theorem Zpn {m:Memo} {a:Int} (h0:0<=a) (h1:a<(m.boxes.length:Int)) (hl:(m.boxes.getD a.toNat ([]:List Entry)).length<=4294967296) :
   Zis m a=some (m.boxes.getD a.toNat [],0):=by
 simp only [Zis,Zcg,Zch,Zat]
 rw [if_neg (by omega),if_neg (by omega),if_pos h0,if_pos h1]
 simp only [Zbk,Zi2 hl]
theorem ZoA {m:Memo} {a:Int} (h:a<0\/a>=(m.boxes.length:Int)):Zis m a=some ([],30):=by
 have e:Zch m.boxes a=some ([],30):=by
   simp only [Zch,Zat]
   rcases h with h | h
   . rw [if_pos h]
   . by_cases h1:a<0
     . rw [if_pos h1]
     . rw [if_neg h1,if_pos h]
 simp only [Zis,Zcg,e,Zbk,Zi2 (l:=[]) (by simp)]
theorem Zpz {m:Memo} {a:Int} {b:List Entry} (h0:0<=a) (h1:a<(m.boxes.length:Int)) (hl:m.boxes.length<=4294967296) (hb:b.length<=4294967296) :
   ZmW m a b=some ({ m with boxes:=m.boxes.set a.toNat b },0):=by
 have e:Zch m.boxes a=some (m.boxes.getD a.toNat [],0):=by
   simp only [Zch,Zat]
   rw [if_neg (by omega),if_neg (by omega),if_pos h0,if_pos h1]
 simp only [ZmW,Zcg,e,bne_self_eq_false,cond_false,ZdJ,ZvC hl,Zbk,Zi2 hb,Zat,if_pos h0,if_pos h1]
theorem Zru {t:Int} (h0 : -1<=t) (h1:t<=1000):Zht t=some (8*(t+1)+3):=by
 simp only [Zht,ZbQ,Zdq]
 rw [Zas (n:=t+1) (by omega) (by omega),Zas (n:=8*(t+1)) (by omega) (by omega),Zas (by omega) (by omega)]
theorem ZvF {u:Turn} (h:FitG u):ZjE u=some (Zci u):=by
 have ht:=h.cfg.threads
 have h1:=h.t
 have hl:=h.len
 have hb:=h.boxes
 have hbt:=h.batch
 have hkd:=h.kids
 simp only [ZjE,ZjR,Zno,Zj0,Znm,Zhy,Zk2,ZjD,Zne,ZhA,ZkQ,Zhv,ZkU,
   ZfP,Zvj h.cfg,Ze9,ZqL (t:=u.t) (by omega) (by omega),Zhx,Zru (t:=u.t) (by omega) (by omega),Zek,Zmy h.cfg,ZbX,ZfV,ZbD,ZcS,Zb5,Zig,Zij,Zhm,Zvh]
 unfold Zci
 by_cases p7:u.th.phase=7
 . rw [Zbf p7,cond_true,if_pos p7]
   by_cases hn:Zbl u=-1
   . rw [Zg2 (.inl (by omega)),if_pos hn]
     rfl
   . obtain ⟨n0,n1⟩:=h.held hn
     rw [Zfs n0 n1,if_neg hn]
     simp only [bne_self_eq_false,cond_false]
     by_cases e:Za3 u (Zbl u)=8*(u.t+1)+1
     . rw [Zbf e,if_pos e];rfl
     . rw [ZaS e,if_neg e]
       simp only [cond_false,Zg4,Zsb (h.word n0 n1).1 (h.word n0 n1).2]
       by_cases k:Zcc (Za3 u (Zbl u))=3
       . rw [Zbf k,if_pos k]
         simp only [cond_true,Zm4,who3 (h.word n0 n1) k]
       . rw [ZaS k,if_neg k];rfl
 rw [ZaS p7,cond_false,if_neg p7]
 by_cases p8:u.th.phase=8
 . rw [Zbf p8,cond_true,if_pos p8]
   by_cases hn:Zbl u=-1
   . rw [Zir (.inl (by omega)),if_pos hn]
     rfl
   . obtain ⟨n0,n1⟩:=h.held hn
     rw [ZeQ n0 n1 (by omega),if_neg hn]
     simp only [bne_self_eq_false,cond_false]
     by_cases e:Za3 u (Zbl u)=8*(u.t+1)+1
     . rw [decide_eq_true e,if_pos e,if_pos e];rfl
     . rw [decide_eq_false e,if_neg e,if_neg e];rfl
 rw [ZaS p8,cond_false,if_neg p8]
 by_cases p9:u.th.phase=9
 . rw [Zbf p9,cond_true,if_pos p9]
   by_cases hn:u.th.who<0\/u.th.who>=(u.m.boxes.length:Int)
   . rw [ZoA hn,if_pos hn]
     rfl
   . have hbl:=h.boxLen u.th.who.toNat
     rw [Zpn (by omega) (by omega) (by omega),if_neg hn]
     simp only [bne_self_eq_false,cond_false,ZfG]
     rw [Zps (by omega) (by omega)]
 rw [ZaS p9,cond_false,if_neg p9]
 by_cases p10:u.th.phase=10
 . rw [Zbf p10,cond_true,if_pos p10]
   by_cases hn:Zbl u=-1
   . rw [ZgN (.inl (by omega)),if_pos hn]
     rfl
   . obtain ⟨n0,n1⟩:=h.held hn
     rw [Zd0 n0 n1 (by omega),if_neg hn]
     rfl
 rw [ZaS p10,cond_false,if_neg p10]
 by_cases p11:u.th.phase=11
 . rw [Zbf p11,cond_true,if_pos p11,Zpz (by omega) (by omega) (by omega) (by omega)]
   rfl
 rw [ZaS p11,cond_false,if_neg p11]
 by_cases p12:u.th.phase=12
 . rw [Zbf p12,cond_true,if_pos p12]
   by_cases hn:nodeAt u.c u.th.item u.th.stop=-1
   . rw [ZgN (.inl (by omega)),if_pos hn]
     rfl
   . obtain ⟨n0,n1⟩:=h.node hn
     rw [Zd0 n0 n1 (by omega),if_neg hn]
     rfl
 rw [ZaS p12,cond_false,if_neg p12]
end Go.Proofs.Mill
namespace Go.Proofs.Mill
end Go.Proofs.Mill
namespace Go.Proofs.Mill
def ZaX (c:Config) (t:Int):Int:=if t<0\/t>=c.threads then -1 else Za0 c+2*t
def ZfE (c:Config) (item layer i:Int):Int :=
 if item<0\/item>=c.items\/layer<1\/layer>c.layers\/i<0\/i>=c.width then -1 else item*Zaz c+(1+ZaI c)+(layer-1)*c.width+i
theorem Zj1 {c:Config} (h:CfgOK c) {t:Int} (h0:ZaX c t≠-1):Za0 c<=ZaX c t/\ZaX c t<sizeOf c/\0<=t/\t<c.threads/\ZaX c t=Za0 c+2*t:=by
 have h1:=Za8 h
 unfold ZaX at h0 ⊢
 unfold sizeOf
 split at h0
 . exact (h0 rfl).elim
 . rename_i hc
   rw [if_neg hc]
   omega
theorem ZeG {c:Config} (h:CfgOK c) {t:Int} (h0:0<=t) (h1:t<c.threads):ZaX c t=Za0 c+2*t/\Za0 c<=ZaX c t/\ZaX c t<sizeOf c:=by
 unfold ZaX sizeOf
 rw [if_neg (by omega)]
 omega
theorem ZhO {c:Config} (h:CfgOK c) {layer:Int} (h0:1<=layer) (h1:layer<=c.layers):0<=(layer-1)*c.width/\(layer-1)*c.width+c.width<=c.layers*c.width:=by
 have h2:=h.width
 refine ⟨Int.mul_nonneg (by omega) (by omega),?_⟩
 have h3:(layer-1)*c.width=layer*c.width-c.width:=by rw [Int.sub_mul,Int.one_mul]
 have h4:=Int.mul_le_mul_of_nonneg_right h1 (show 0<=c.width by omega)
 omega
theorem Znk {c:Config} (h:CfgOK c) {item layer i:Int} (h0:ZfE c item layer i≠-1) :
   0<=ZfE c item layer i/\ZfE c item layer i<Za0 c/\(0<=item/\item<c.items)/\(1<=layer/\layer<=c.layers)/\(0<=i/\i<c.width) /\
   ZfE c item layer i=item*Zaz c+(1+ZaI c)+(layer-1)*c.width+i:=by
 unfold ZfE at h0 ⊢
 split at h0
 . exact (h0 rfl).elim
 rename_i hc
 rw [if_neg hc]
 have h1:=Zdv h (i:=item) (by omega) (by omega)
 have h2:=Zdv h (i:=item+1) (by omega) (by omega)
 have h3:(item+1)*Zaz c=item*Zaz c+Zaz c:=by rw [Int.add_mul,Int.one_mul]
 have h4:=ZbT c
 have h6:Zaz c=1+ZaI c+c.layers*c.width:=rfl
 have h7:=ZhO h (layer:=layer) (by omega) (by omega)
 omega
theorem Zkk {c:Config} (h:CfgOK c) (t:Int):Zks c t=some (ZaX c t):=by
 have h1:=Za8 h
 have h2:=h.threads
 simp only [Zks,Zat,Zcl,ZiP h]
 unfold ZaX
 by_cases a:t<0
 . rw [if_pos a,if_pos (.inl a)]
 by_cases b:t>=c.threads
 . rw [if_neg a,if_pos b,if_pos (.inr b)]
 rw [if_neg a,if_neg b,if_neg (by omega),Zas (n:=2*t) (by omega) (by omega),Zas (by omega) (by omega)]
theorem ZwE {c:Config} (h:CfgOK c) (item layer i:Int):ZkF c item layer i=some (ZfE c item layer i):=by
 have h1:=Za8 h
 have h4:=ZbT c
 have h5:=h.layers
 have h6:=h.width
 have h8:=Zgp h
 have h9:=ZcJ h
 simp only [ZkF,Zat,Zcl,ZiP h]
 rw [Zas (n:=1+c.layers) (by omega) (by omega)]
 unfold ZfE
 by_cases a1:item<0
 . simp [a1]
 by_cases a2:item>=c.items
 . simp [a1,a2]
 by_cases a3:layer<1
 . simp [a1,a2,a3]
 by_cases a4:layer>c.layers
 . have a4':layer>=1+c.layers:=by omega
   simp [a1,a2,a3,a4,a4']
 have a4':¬layer>=1+c.layers:=by omega
 by_cases a5:i<0
 . simp [a1,a2,a3,a4,a4',a5]
 by_cases a6:i>=c.width
 . simp [a1,a2,a3,a4,a4',a5,a6]
 rw [if_neg a1,if_neg a2,if_neg a3,if_neg a4',if_neg a5,if_neg a6,if_neg (by omega)]
 have h7:=ZhO h (layer:=layer) (by omega) (by omega)
 have h3:=Zdv h (i:=item) (by omega) (by omega)
 rw [Zas (n:=item*Zaz c) (by omega) (by omega),Zas (n:=item*Zaz c+(1+ZaI c)) (by omega) (by omega),
   Zas (n:=layer-1) (by omega) (by omega),Zas (n:=(layer-1)*c.width) (by omega) (by omega),Zas (n:=item*Zaz c+(1+ZaI c)+(layer-1)*c.width) (by omega) (by omega),Zas (by omega) (by omega)]
theorem Zyf {i l:Int} (h0:0<=i) (h1:i<=1000) (h2:0<=l) (h3:l<=1000):Zi6 i l=some (8*(16*i+l+1)+4):=by
 simp only [Zi6,ZbQ,Zdq]
 rw [show i*(2:Int) ^ min (Int.toNat (4:Int)) IntKind.i64.bits=16*i from Int.mul_comm i 16,Zas (n:=16*i) (by omega) (by omega),Zas (n:=16*i+l) (by omega) (by omega),Zas (n:=16*i+l+1) (by omega) (by omega),Zas (n:=8*(16*i+l+1)) (by omega) (by omega),Zas (by omega) (by omega)]
def Zez (t:Tape):Int×Tape:=if t.at_<0\/t.at_>=(t.l.length:Int) then (0,t) else (t.l.getD t.at_.toNat 0,{ t with at_:=Zac .i64 (t.at_+1) })
def ZfJ (t:Tape) (n:Int):Int×Tape :=
 if n<1 then (0,t) else (if (Zez t).1.tmod n<0 then Zac .i64 ((Zez t).1.tmod n+n) else (Zez t).1.tmod n,(Zez t).2)
theorem Zyu {t:Tape} (h:Num t.at_) (hl:t.l.length<=4294967296):Zhb t=some (Zez t):=by
 have e:Zg9 t=some (if t.at_<0\/t.at_>=(t.l.length:Int) then 0 else (t.l.length:Int)-t.at_):=by
   simp only [Zg9,Zat]
   have h1:=h.2
   by_cases a:t.at_<0
   . rw [if_pos a,if_pos (show t.at_<0\/t.at_>=(t.l.length:Int) from .inl a)]
   by_cases b:t.at_>=(t.l.length:Int)
   . rw [if_neg a,if_pos (show t.at_<0\/t.at_>=(t.l.length:Int) from .inr b),Zas (n:=(t.l.length:Int)-t.at_) (by omega) (by omega),if_neg (by omega)]
   . rw [if_neg a,Zas (n:=(t.l.length:Int)-t.at_) (by omega) (by omega),if_pos (show (t.l.length:Int)-t.at_>0 by omega),if_neg (show ¬(t.at_<0\/t.at_>=(t.l.length:Int)) by omega)]
 simp only [Zhb,ZfW,e,Zat]
 unfold Zez
 by_cases c:t.at_<0\/t.at_>=(t.l.length:Int)
 . simp only [if_pos c]
   rfl
 . simp only [if_neg c]
   rw [if_pos (show (t.l.length:Int)-t.at_>0 by omega),if_pos (show (0:Int)<=t.at_ by omega),if_pos (show t.at_<(t.l.length:Int) by omega)]
theorem ZwW {t:Tape} (n:Int) (h:Num t.at_) (hl:t.l.length<=4294967296):ZkK t n=some (ZfJ t n):=by
 simp only [ZkK,Zat,ZlA,Zyu h hl]
 unfold ZfJ
 by_cases a:n<1
 . rw [if_pos a,if_pos a]
 rw [if_neg a,if_neg (by omega),if_neg a]
 split <;> rfl
theorem ZtF {m:Memo} {a v:Int} (h0:0<=a) (h1:a<(m.words.length:Int)) (hl:m.words.length<=4294967296) :
   Zhg m a v=some ({ m with words:=m.words.set a.toNat v },m.words.getD a.toNat 0,0):=by
 simp only [Zhg,ZbD,Zfs h0 h1,bne_self_eq_false,cond_false,Zbs,Zls hl,Zat,if_pos h0,if_pos h1]
theorem Zs9 {m:Memo} {a v:Int} (h:a<0\/a>=(m.words.length:Int)):Zhg m a v=some (m,0,30):=by
 simp only [Zhg,ZbD,Zg2 h]
 rfl
def Zdy (u:Turn):Turn :=
 if u.th.layer<u.c.layers/\¬Late u then { u with th:={ u.th with phase:=17,layer:=Zac .i64 (u.th.layer+1) } } else { u with th:={ u.th with phase:=2 } }
theorem Znq (u:Turn):Zh8 u=some (Zdy u):=by
 simp only [Zh8,ZdY,ZlT,Zat]
 unfold Zdy
 have e:decide (Late { u with th:={ u.th with phase:=2 } })=decide (Late u):=rfl
 by_cases a:u.th.layer<u.c.layers
 . rw [if_pos a,e]
   by_cases b:Late u
   . rw [decide_eq_true b,if_neg (fun h=>h.2 b)];rfl
   . rw [decide_eq_false b,if_pos ⟨a,b⟩];rfl
 . rw [if_neg a,if_neg (fun h=>a h.1)]
abbrev Zje (u:Turn):Int:=8*(16*u.th.item+u.th.layer+1)+4
abbrev ZeJ (u:Turn):Int:=ZaX u.c u.t
abbrev Zb8 (u:Turn):Int:=ZfE u.c u.th.item u.th.layer (ZfJ u.tape u.th.width).1
def swapT (u:Turn):Turn := if Zb8 u=-1 then u else if 1<=Za3 u (Zb8 u)/\Za3 u (Zb8 u)<=u.c.threads/\Za3 u (Zb8 u)≠u.t+1 then { setW u (Zb8 u) (u.t+1) with tape:=(ZfJ u.tape u.th.width).2,th:={ u.th with phase:=20,who:=Za3 u (Zb8 u)-1 } } else { setW u (Zb8 u) (u.t+1) with tape:=(ZfJ u.tape u.th.width).2,th:={ u.th with phase:=23,left:=u.c.spin } }
def ZbW (u:Turn) (t so no:Int):Turn :=
 if ZaX u.c t=-1 then u else if Za3 u (ZaX u.c t)=Zje u then { setW u (ZaX u.c t) 0 with th:={ u.th with phase:=so } } else { u with th:={ u.th with phase:=no } }
def ZfS (u:Turn):Turn := if u.th.who<0\/u.th.who>=(u.m.boxes.length:Int) then u else { ZqF u u.th.who (u.m.boxes.getD u.th.who.toNat []) with th:={ (ZqF u u.th.who (u.m.boxes.getD u.th.who.toNat [])).th with phase:=25 } }
def Zja (u:Turn):Turn := if Za3 u (ZeJ u)≠Zje u then { u with th:={ u.th with phase:=13 } } else if u.th.left>0/\¬Late u then { u with th:={ u.th with left:=Zac .i64 (u.th.left-1) } } else { u with th:={ u.th with phase:=26 } }
def Zhd (u:Turn):Turn :=
 if Za3 u (ZeJ u)=Zje u then Zdy { setW u (ZeJ u) 0 with th:={ u.th with phase:=26,width:=if u.th.width / 2>1 then u.th.width / 2 else 1 } } else { u with th:={ u.th with phase:=13 } }
def ZbY (u:Turn):Turn×Bool := if u.th.phase=17 then ({ u with m:={ u.m with boxes:=u.m.boxes.set u.t.toNat u.th.batch },th:={ u.th with phase:=18 } },true) else if u.th.phase=18 then ({ setW u (ZeJ u) (Zje u) with th:={ u.th with phase:=19 } },true) else if u.th.phase=19 then (swapT u,true) else if u.th.phase=20 then (ZbW u u.t 21 13,true) else if u.th.phase=21 then (ZbW u u.th.who 22 24,true) else if u.th.phase=22 then (ZfS u,true) else if u.th.phase=23 then (Zja u,true) else if u.th.phase=24 then ({ setW u (ZeJ u) (Zje u) with th:={ u.th with phase:=23,left:=u.c.spin } },true) else if u.th.phase=26 then (Zhd u,true) else (u,false)
structure FitC (u:Turn):Prop where
  g:FitG u
  item:0<=u.th.item/\u.th.item<u.c.items
  layer:1<=u.th.layer/\u.th.layer<=3
  tape:Num u.tape.at_
  draws:u.tape.l.length<=4294967296
  width:Num u.th.width
theorem FitC.line {u:Turn} (h:FitC u) {t:Int} (h0:ZaX u.c t≠-1):0<=ZaX u.c t/\ZaX u.c t<(u.m.words.length:Int):=by
 have h1:=Zj1 h.g.cfg h0
 have h2:=h.g.words
 have h3:=Za8 h.g.cfg
 omega
theorem FitC.mine {u:Turn} (h:FitC u):ZeJ u≠-1/\0<=ZeJ u/\ZeJ u<(u.m.words.length:Int):=by
 have h1:=ZeG h.g.cfg h.g.t.1 h.g.t.2
 have h2:=h.g.words
 have h3:=Za8 h.g.cfg
 simp only [ZeJ] at *
 omega
theorem FitC.slot {u:Turn} (h:FitC u) (h0:Zb8 u≠-1):0<=Zb8 u/\Zb8 u<(u.m.words.length:Int):=by
 have h1:=Znk h.g.cfg h0
 have h2:=h.g.words
 have h3:=h.g.cfg.threads
 unfold sizeOf at h2
 simp only [Zb8] at *
 omega
theorem ZuK {u:Turn} (h:FitC u):Zej u=some (ZbY u):=by
 have ht:=h.g.cfg.threads
 have hi:=h.g.cfg.items
 have h1:=h.g.t
 have h2:=h.item
 have h3:=h.layer
 have hl:=h.g.len
 have hb:=h.g.boxes
 have hbt:=h.g.batch
 have hkd:=h.g.kids
 obtain ⟨mn,m0,m1⟩:=h.mine
 simp only [Zej,Zjc,Zyf (i:=u.th.item) (l:=u.th.layer) (by omega) (by omega) (by omega) (by omega),Zij,Zb0,Zia,Zc5,Zkk h.g.cfg,
   Zb5,Zk0,ZwW u.th.width h.tape h.draws,ZkZ,ZwE h.g.cfg,ZlP,ZcS,Zcm,Znq,Zig,ZfG,ZbX,ZfV,ZbD,
   ZdY,ZlT,shr1]
 unfold ZbY
 by_cases p17:u.th.phase=17
 . rw [Zbf p17,cond_true,if_pos p17,Zpz (by omega) (by omega) (by omega) (by omega)]
   rfl
 rw [ZaS p17,cond_false,if_neg p17]
 by_cases p18:u.th.phase=18
 . rw [Zbf p18,cond_true,if_pos p18,Zd0 m0 m1 (by omega)]
   rfl
 rw [ZaS p18,cond_false,if_neg p18]
 by_cases p19:u.th.phase=19
 . rw [Zbf p19,cond_true,if_pos p19]
   unfold swapT
   by_cases hn:Zb8 u=-1
   . rw [Zs9 (.inl (by simp only [Zb8] at hn;omega)),if_pos hn]
     rfl
   . obtain ⟨n0,n1⟩:=h.slot hn
     rw [ZtF n0 n1 (by omega),if_neg hn,Zas (n:=u.t+1) (by omega) (by omega)]
     simp only [bne_self_eq_false,cond_false,Zat]
     by_cases a1:Za3 u (Zb8 u)<1
     . rw [if_pos a1,if_neg (by omega)]
     by_cases a2:Za3 u (Zb8 u)>u.c.threads
     . rw [if_neg a1,if_pos a2,if_neg (by omega)]
     by_cases a3:Za3 u (Zb8 u)=u.t+1
     . rw [if_neg a1,if_neg a2,Zbf a3,cond_true,if_neg (by omega)]
     . rw [if_neg a1,if_neg a2,ZaS a3,cond_false,if_pos (by omega),Zas (n:=Za3 u (Zb8 u)-1) (by omega) (by omega)]
 rw [ZaS p19,cond_false,if_neg p19]
 by_cases p20:u.th.phase=20
 . rw [Zbf p20,cond_true,if_pos p20,ZeQ m0 m1 (by omega),ZaS (show u.th.phase≠26 by omega)]
   unfold ZbW
   rw [if_neg mn]
   simp only [bne_self_eq_false,cond_false]
   by_cases e:Za3 u (ZeJ u)=Zje u
   . rw [decide_eq_true e,if_pos e,if_pos e];rfl
   . rw [decide_eq_false e,if_neg e,if_neg e];rfl
 rw [ZaS p20,cond_false,if_neg p20]
 by_cases p21:u.th.phase=21
 . rw [Zbf p21,cond_true,if_pos p21,ZaS (show u.th.phase≠26 by omega)]
   unfold ZbW
   by_cases hn:ZaX u.c u.th.who=-1
   . rw [Zir (.inl (by omega)),if_pos hn]
     rfl
   . obtain ⟨n0,n1⟩:=h.line hn
     rw [ZeQ n0 n1 (by omega),if_neg hn]
     simp only [bne_self_eq_false,cond_false]
     by_cases e:Za3 u (ZaX u.c u.th.who)=Zje u
     . rw [decide_eq_true e,if_pos e,if_pos e];rfl
     . rw [decide_eq_false e,if_neg e,if_neg e];rfl
 rw [ZaS p21,cond_false,if_neg p21]
 by_cases p22:u.th.phase=22
 . rw [Zbf p22,cond_true,if_pos p22]
   unfold ZfS
   by_cases hn:u.th.who<0\/u.th.who>=(u.m.boxes.length:Int)
   . rw [ZoA hn,if_pos hn]
     rfl
   . have hbl:=h.g.boxLen u.th.who.toNat
     rw [Zpn (by omega) (by omega) (by omega),if_neg hn]
     simp only [beq_self_eq_true,cond_true]
     rw [Zps (by omega) (by omega)]
 rw [ZaS p22,cond_false,if_neg p22]
 by_cases p23:u.th.phase=23
 . rw [Zbf p23,cond_true,if_pos p23,Zfs m0 m1]
   unfold Zja
   simp only [bne_self_eq_false,cond_false,Zat]
   by_cases e:Za3 u (ZeJ u)=Zje u
   . rw [Zf7 e,cond_false,if_neg (show ¬(Za3 u (ZeJ u)≠Zje u) from fun h=>h e)]
     by_cases a:u.th.left>0
     . rw [if_pos a]
       by_cases b:Late u
       . rw [decide_eq_true b,if_neg (fun h=>h.2 b)];rfl
       . rw [decide_eq_false b,if_pos ⟨a,b⟩];rfl
     . rw [if_neg a,if_neg (fun h=>a h.1)]
   . rw [ZeV e,cond_true,if_pos e]
 rw [ZaS p23,cond_false,if_neg p23]
 by_cases p24:u.th.phase=24
 . rw [Zbf p24,cond_true,if_pos p24,Zd0 m0 m1 (by omega)]
   rfl
 rw [ZaS p24,cond_false,if_neg p24]
 by_cases p26:u.th.phase=26
 . rw [Zbf p26,cond_true,if_pos p26,ZeQ m0 m1 (by omega)]
   unfold Zhd
   simp only [bne_self_eq_false,cond_false,cond_true]
   by_cases e:Za3 u (ZeJ u)=Zje u
   . rw [decide_eq_true e,if_pos e,if_pos e];rfl
   . rw [decide_eq_false e,if_neg e,if_neg e];rfl
 rw [ZaS p26,cond_false,if_neg p26]
end Go.Proofs.Mill
namespace Go.Proofs.Mill
theorem ZmS (n:Int):Num (Zac .i64 n):=by
 rw [Zbv]
 simp only [Num,IntKind.wrap,IntKind.signed,IntKind.bits]
 constructor <;> simp <;> omega
theorem Zp3 (n:Int):∃ k:Int,Zac .i64 n=n+k*18446744073709551616:=by
 rw [Zbv]
 simp only [IntKind.wrap,IntKind.signed,IntKind.bits]
 refine ⟨-((n+9223372036854775808) / 18446744073709551616),?_⟩
 simp
 omega
theorem wrap_u64 {n:Int} (h0:0<=n) (h1:n<18446744073709551616):Zac .u64 n=n:=by
 rw [Zbv]
 simp [IntKind.wrap,IntKind.signed,IntKind.bits]
 omega
theorem Zo1 (n:Int):∃ k:Int,IntKind.u64.wrap n=n+k*18446744073709551616/\0<=IntKind.u64.wrap n/\IntKind.u64.wrap n<18446744073709551616:=by
 refine ⟨-(n / 18446744073709551616),?_⟩
 simp [IntKind.wrap,IntKind.signed,IntKind.bits]
 omega
theorem ZzP (n:Int):∃ k:Int,Zac .u64 n=n+k*18446744073709551616/\0<=Zac .u64 n/\Zac .u64 n<18446744073709551616:=by
 rw [Zbv]
 exact Zo1 n
theorem ZzG {α:Type} {c:Bool} {a b:Option α} (ha:a.isSome=true) (hb:b.isSome=true):(bif c then a else b).isSome=true:=by cases c <;> assumption
theorem ZCu {α:Type} {P:α->Prop} {c:Bool} {a b:Option α} (ha:∀ r,a=some r->P r) (hb:∀ r,b=some r->P r):∀ r,(bif c then a else b)=some r->P r:=by cases c <;> assumption
theorem ZwM (o:Op) (x lo hi:Int):∃ r,ZcQ o x lo hi=some r:=by
 refine Option.isSome_iff_exists.1 ?_
 simp only [ZcQ,Zg8,Zg6]
 repeat' first | rfl | refine ZzG ?_ ?_
def App (o:Op) (x lo hi:Int):Int×Bool:=(ZcQ o x lo hi).getD (0,false)
theorem ZlR (o:Op) (x lo hi:Int):ZcQ o x lo hi=some (App o x lo hi):=by
 obtain ⟨r,h⟩:=ZwM o x lo hi
 rw [App,h]
 rfl
theorem ZoI {o:Op} {x lo hi:Int} (hx:Num x) (hv:Num o.v) (hlo:Num lo):Num (App o x lo hi).1:=by
 have h:=ZlR o x lo hi
 revert h
 generalize App o x lo hi=r
 revert r
 simp only [ZcQ,Zg8,Zg6]
 repeat' refine ZCu (P:=fun r:Int×Bool=>Num r.1) ?_ ?_
 all_goals (intro r h;obtain rfl:=Option.some.inj h)
 all_goals first | exact ZmS _ | exact hx | exact hv | exact hlo | (simp only;split <;> assumption)
theorem ZuQ {x lo:Int} (hx:Num x) (hlo:Num lo) (h:lo<=x):Zac .u64 (IntKind.u64.wrap x-IntKind.u64.wrap lo)=x-lo:=by
 unfold Num at hx hlo
 obtain ⟨k2,e2,l2,u2⟩:=Zo1 x
 obtain ⟨k3,e3,l3,u3⟩:=Zo1 lo
 obtain ⟨k4,e4,l4,u4⟩:=ZzP (IntKind.u64.wrap x-IntKind.u64.wrap lo)
 generalize Zac .u64 (IntKind.u64.wrap x-IntKind.u64.wrap lo)=z at *
 generalize IntKind.u64.wrap x=a at *
 generalize IntKind.u64.wrap lo=b at *
 omega
theorem ZAi {x v:Int}:Zac .i64 (x+Zac .i64 (0-v))=Zac .i64 (x-v):=by
 rw [Zbv,Zbv,Zbv]
 simp [IntKind.wrap,IntKind.signed,IntKind.bits]
 omega
theorem ZCs {x v s lo k:Int} (hx:Num x) (hv:Num v) (hlo:Num lo) (e:s=x-v+k*18446744073709551616) (hs:Num s) (a1:¬v<0) (a2:¬x<lo) :
   (if s<=x then if s>=lo then some (s,true) else some (lo,true) else some (lo,true))=if v>=x-lo then some (lo,true) else some (s,true):=by
 unfold Num at *
 by_cases a3:v>=x-lo
 . rw [if_pos a3]
   by_cases a4:s<=x
   . rw [if_pos a4]
     by_cases a5:s>=lo
     . rw [if_pos a5,show s=lo by omega]
     . rw [if_neg a5]
   . rw [if_neg a4]
 . rw [if_neg a3,if_pos (by omega),if_pos (by omega)]
theorem ZCx {x v s lo hi:Int}:(match (bif decide (v>=0) then bif decide (s>=x) then bif decide (s<lo) then some true else some (decide (s>hi))
      else bif decide (v<0) then bif decide (s<x) then bif decide (s<lo) then some true else some (decide (s>hi)) else some true else some true
    else bif decide (v<0) then bif decide (s<x) then bif decide (s<lo) then some true else some (decide (s>hi)) else some true else some true:Option Bool) with
    | some y1=>bif !y1 then some (s,true) else some (x,false)
    | none=>none) =
    bif !(decide (v>=0) == decide (s>=x)) then some (x,false) else bif decide (s<lo) then some (x,false) else bif decide (s>hi) then some (x,false) else some (s,true):=by
  by_cases a1:v>=0
  . have d1:decide (v>=0)=true:=decide_eq_true a1
    have d0:decide (v<0)=false:=decide_eq_false (by omega)
    by_cases a2:s>=x
    . have d2:decide (s>=x)=true:=decide_eq_true a2
      simp only [d1,d2,cond_true,beq_self_eq_true,Bool.not_true,cond_false]
      cases decide (s<lo) <;> cases decide (s>hi) <;> rfl
    . have d2:decide (s>=x)=false:=decide_eq_false a2
      simp only [d1,d2,d0,cond_true,cond_false]
      rfl
  . have d1:decide (v>=0)=false:=decide_eq_false a1
    have d0:decide (v<0)=true:=decide_eq_true (by omega)
    by_cases a2:s<x
    . have d2:decide (s>=x)=false:=decide_eq_false (by omega)
      have d3:decide (s<x)=true:=decide_eq_true a2
      simp only [d1,d2,d0,d3,cond_true,beq_self_eq_true,Bool.not_true,cond_false]
      cases decide (s<lo) <;> cases decide (s>hi) <;> rfl
    . have d2:decide (s>=x)=true:=decide_eq_true (by omega)
      have d3:decide (s<x)=false:=decide_eq_false a2
      simp only [d1,d2,d0,d3,cond_true,cond_false]
      rfl
theorem Zz0 {o:Op} {x lo hi:Int} (hx:Num x) (hv:Num o.v) (hlo:Num lo) (hhi:Num hi):Zim o x lo hi=ZcQ o x lo hi:=by
 obtain ⟨t,v⟩:=o
 simp only at hv
 unfold Zim ZcQ
 simp only
 have n:∀ j:Int,t≠j->(t == j)=false:=fun j h=>by simpa using h
 have y:∀ j:Int,t=j->(t == j)=true:=fun j h=>by simpa using h
 by_cases t1:t=1
 . rw [n 2 (by omega),y 1 t1];rfl
 by_cases t2:t=2
 . rw [n 1 (by omega),y 2 t2]
   simp only [cond_true,cond_false]
   rw [ZAi]
 by_cases t3:t=3
 . rw [n 1 (by omega),n 2 (by omega),y 3 t3];rfl
 by_cases t4:t=4
 . rw [n 1 (by omega),n 2 (by omega),n 3 (by omega),y 4 t4];rfl
 by_cases t5:t=5
 . rw [n 1 (by omega),n 2 (by omega),n 3 (by omega),n 4 (by omega),y 5 t5]
   have:(if x>v then x else v)=if v>x then v else x:=by split <;> split <;> omega
   simp only [cond_true,cond_false,this]
 by_cases t6:t=6
 . rw [n 1 (by omega),n 2 (by omega),n 3 (by omega),n 4 (by omega),n 5 (by omega),y 6 t6]
   have:(if x<v then x else v)=if v<x then v else x:=by split <;> split <;> omega
   simp only [cond_true,cond_false,this]
 by_cases t7:t=7
 . rw [n 1 (by omega),n 2 (by omega),n 3 (by omega),n 4 (by omega),n 5 (by omega),n 6 (by omega),y 7 t7]
   simp only [cond_true,cond_false]
 by_cases t8:t=8
 . rw [n 1 (by omega),n 2 (by omega),n 3 (by omega),n 4 (by omega),n 5 (by omega),n 6 (by omega),n 7 (by omega),n 9 (by omega),y 8 t8]
   simp only [cond_true,cond_false,ZjH,Zni,Zg8,Zg6]
   exact ZCx
 by_cases t9:t=9
 . rw [n 1 (by omega),n 2 (by omega),n 3 (by omega),n 4 (by omega),n 5 (by omega),n 6 (by omega),n 7 (by omega),n 8 (by omega),y 9 t9]
   simp only [cond_true,cond_false,Zat]
   by_cases a1:v<0
   . rw [if_pos a1,if_pos a1]
   rw [if_neg a1,if_neg a1]
   by_cases a2:x<lo
   . rw [if_pos a2,if_pos a2]
   rw [if_neg a2,if_neg a2]
   obtain ⟨k,e⟩:=Zp3 (x-v)
   have f1:IntKind.u64.wrap v=v:=by
     obtain ⟨k1,e1,l1,u1⟩:=Zo1 v
     generalize IntKind.u64.wrap v=z at *
     unfold Num at hv
     omega
   rw [f1,ZuQ hx hlo (by omega)]
   exact ZCs hx hv hlo e (ZmS _) a1 a2
 rw [n 1 t1,n 2 t2,n 3 t3,n 4 t4,n 5 t5,n 6 t6,n 7 t7,n 8 t8,n 9 t9]
 rfl
theorem Zkd {o:Op} {x lo hi:Int} (hx:Num x) (hv:Num o.v) (hlo:Num lo) (hhi:Num hi):Zim o x lo hi=some (App o x lo hi):=by
 rw [Zz0 hx hv hlo hhi,ZlR]
end Go.Proofs.Mill
namespace Go.Proofs.Mill
def allT (lo hi:Int):List Entry->Int->Int
 | [],x=>x
 | e::r,x=>allT lo hi r (App e.op x lo hi).1
def Zei (lo hi:Int):List Entry->Int->List Int
 | [],_=>[]
 | e::r,x=>x::Zei lo hi r (App e.op x lo hi).1
theorem Zmb (lo hi:Int):∀ (b:List Entry) (x:Int),(Zei lo hi b x).length=b.length
 | [],_=>rfl
 | e::r,x=>by simp [Zei,Zmb lo hi r]
theorem ZnF {lo hi:Int} (hlo:Num lo) (hhi:Num hi):∀ (b:List Entry) (x:Int),Num x->(∀ e∈b,Num e.op.v) ->
   ∃ l,cellsOf (apC lo hi) b x=some l/\l.map (·.1)=Zei lo hi b x/\l.foldl (fun _ p=>p.2) x=allT lo hi b x/\Num (allT lo hi b x)
 | [],x,hx,_=>⟨[],rfl,rfl,rfl,hx⟩
 | e :: r, x, hx, hb => by
   have hv:=hb e (by simp)
   obtain ⟨l,h1,h2,h3,h4⟩:=ZnF hlo hhi r (App e.op x lo hi).1 (ZoI hx hv hlo) (fun e he=>hb e (by simp [he]))
   refine ⟨(x,(App e.op x lo hi).1)::l,?_,by simp [h2,Zei],h3,h4⟩
   unfold cellsOf
   have:apC lo hi e x=some (App e.op x lo hi).1:=by
     unfold apC
     rw [show Zcf (e.op,x,lo,hi)=some (App e.op x lo hi) from Zkd hx hv hlo hhi]
   rw [this]
   simp only [h1]
theorem Zr0 {lo hi x:Int} {b:List Entry} (hlo:Num lo) (hhi:Num hi) (hx:Num x) (hb:∀ e∈b,Num e.op.v) (hl:b.length<=4294967296):Zg1 b x lo hi=some (allT lo hi b x):=by
 obtain ⟨l,h1,_,h3,_⟩:=ZnF hlo hhi b x hx hb
 simp only [Zg1,Zbb hl,cond_true,h1,h3]
theorem ZuR {lo hi x:Int} {b:List Entry} (hlo:Num lo) (hhi:Num hi) (hx:Num x) (hb:∀ e∈b,Num e.op.v) (hl:b.length<=4294967296):Zfg b x lo hi=some (Zei lo hi b x):=by
 obtain ⟨l,h1,h2,_,_⟩:=ZnF hlo hhi b x hx hb
 simp only [Zfg,Zbb hl,cond_true,h1,h2]
theorem Zwr {b:List Entry} {n:Int} (hl:b.length<=4294967296):ZkG b n=some (b.take n.toNat):=by
 unfold ZkG
 simp only [Zat]
 have key:∀ m:Int,0<=m->m<=(b.length:Int)->Zbk (List.drop (Int.toNat (0:Int)) (List.take m.toNat b))=some (b.take m.toNat):=by
   intro m h0 h1
   show ZcR _=_
   rw [show Int.toNat (0:Int)=0 from rfl,List.drop_zero,Zi2 (by simp;omega)]
 by_cases h:(b.length:Int)<n
 . simp only [if_pos h]
   by_cases h2:(b.length:Int)>0
   . simp only [if_pos h2]
     rw [if_pos (by omega),if_pos (by omega),key _ (by omega) (by omega)]
     rw [List.take_of_length_le (by omega),List.take_of_length_le (by omega)]
   . simp only [if_neg h2]
     rw [if_pos (by omega),if_pos (by omega),key _ (by omega) (by omega)]
     have:b=[]:=List.length_eq_zero_iff.1 (by omega)
     subst this
     simp
 . simp only [if_neg h]
   by_cases h2:n>0
   . simp only [if_pos h2]
     rw [if_pos (by omega),if_pos (by omega),key _ (by omega) (by omega)]
   . simp only [if_neg h2]
     rw [if_pos (by omega),if_pos (by omega),key _ (by omega) (by omega)]
     have:n.toNat=0:=by omega
     simp [this]
theorem ZrW:Zpw=some 5:=by kernel_rfl
def cellAt (c:Config) (item:Int):Int:=if item<0\/item>=c.items then -1 else item*Zaz c
def Zcw (c:Config) (t:Int):Int:=if t<0\/t>=c.threads then -1 else Za0 c+2*t+1
theorem Zkl {c:Config} (h:CfgOK c) (i:Int):Zgj c i=some (cellAt c i):=by
 unfold Zgj cellAt
 simp only [Zat]
 by_cases h1:i<0
 . rw [if_pos h1,if_pos (.inl h1)]
 . rw [if_neg h1]
   by_cases h2:i>=c.items
   . rw [if_pos h2,if_pos (.inr h2)]
   . rw [if_neg h2,if_neg (fun h=>h.elim h1 h2)]
     simp only [Zcl,ZiP h]
     have:=Zdv h (i:=i) (by omega) (by omega)
     have:=Za8 h
     rw [Zas (by omega) (by omega)]
theorem Zoi {c:Config} (h:CfgOK c) (t:Int):ZiN c t=some (Zcw c t):=by
 unfold ZiN Zcw
 simp only [Zat]
 by_cases h1:t<0
 . rw [if_pos h1,if_pos (.inl h1)]
 . rw [if_neg h1]
   by_cases h2:t>=c.threads
   . rw [if_pos h2,if_pos (.inr h2)]
   . rw [if_neg h2,if_neg (fun h=>h.elim h1 h2)]
     simp only [Zcl,ZiP h]
     have:=Za8 h
     have:=h.threads
     rw [Zas (n:=(2:Int)*t) (by omega) (by omega),Zas (n:=Za0 c+2*t) (by omega) (by omega),Zas (by omega) (by omega)]
def Zcj (u:Turn):Turn:=if u.th.at_<0\/u.th.at_>=(u.th.kids.length:Int) then { u with th:={ u.th with phase:=0 },done:=true } else { u with th:={ u.th with phase:=15 } }
theorem Zku (u:Turn):ZiB u=some (Zcj u):=by
 unfold ZiB Zcj
 simp only [Zat]
 by_cases h1:u.th.at_<0
 . rw [if_pos h1,if_pos (.inl h1)]
 . rw [if_neg h1]
   by_cases h2:u.th.at_>=(u.th.kids.length:Int)
   . rw [if_pos h2,if_pos (.inr h2)]
   . rw [if_neg h2,if_neg (show ¬(u.th.at_<0\/u.th.at_>=(u.th.kids.length:Int)) from fun h=>h.elim h1 h2),if_pos (by omega),if_pos (by omega)]
structure FitM (u:Turn):Prop where
  g:FitG u
  held:u.th.held.length<=4294967295
  item:0<=u.th.item/\u.th.item<u.c.items
  layer:17<=u.th.phase->1<=u.th.layer/\u.th.layer<=3
  tape:Num u.tape.at_
  draws:u.tape.l.length<=4294967296
  width:Num u.th.width
  lo:Num u.c.lo
  hi:Num u.c.hi
  x:Num u.th.x
  ops:∀ e∈u.th.batch,Num e.op.v
theorem FitM.cell {u:Turn} (h:FitM u):cellAt u.c u.th.item=u.th.item*Zaz u.c/\0<=u.th.item*Zaz u.c/\u.th.item*Zaz u.c<(u.m.words.length:Int):=by
 have h1:=Zdv h.g.cfg (i:=u.th.item) h.item.1 (by have:=h.item.2;omega)
 have h2:=h.g.words
 have h3:=h.g.cfg.threads
 unfold sizeOf at h2
 refine ⟨?_,h1.1,by omega⟩
 unfold cellAt
 rw [if_neg (by have:=h.item;omega)]
theorem Zx0 {u:Turn} (h:FitG u) {t:Int} (h0:0<=t) (h1:t<u.c.threads):Zcw u.c t=Za0 u.c+2*t+1/\0<=Zcw u.c t/\Zcw u.c t<(u.m.words.length:Int):=by
 have h2:=h.words
 have h3:=Za8 h.cfg
 have e:Zcw u.c t=Za0 u.c+2*t+1:=by unfold Zcw;rw [if_neg (by omega)]
 unfold sizeOf at h2
 rw [e]
 omega
theorem ZrE {u:Turn} (h:FitG u) {t:Int} (h0:0<=t) (h1:t<u.c.threads):0<=ZaX u.c t/\ZaX u.c t<(u.m.words.length:Int)/\ZaX u.c t≠-1:=by
 have h2:=ZeG h.cfg h0 h1
 have h3:=h.words
 have h4:=Za8 h.cfg
 omega
def Zf4 (u:Turn):Kid:=u.th.kids.getD u.th.at_.toNat ⟨0,0⟩
abbrev ZgV (u:Turn):Prop:=u.th.at_<0\/u.th.at_>=(u.th.kids.length:Int)
def Zb4 (u:Turn):Turn×Bool := if u.th.phase=13 then (if Za3 u (ZaX u.c u.t)=5 then { u with th:={ u.th with phase:=14 } } else u,true) else if u.th.phase=14 then (Zcj { u with th:={ u.th with at_:=0,x:=Za3 u (Zcw u.c u.t) } },true) else if u.th.phase=15 then (if ZgV u then u else if Zcw u.c (Zf4 u).t=-1 then u else { setW u (Zcw u.c (Zf4 u).t) (allT u.c.lo u.c.hi (u.th.batch.take (Zf4 u).ahead.toNat) u.th.x) with th:={ u.th with phase:=16 } },true) else if u.th.phase=16 then (if ZgV u then u else if ZaX u.c (Zf4 u).t=-1 then u else Zcj { setW u (ZaX u.c (Zf4 u).t) 5 with th:={ u.th with at_:=Zac .i64 (u.th.at_+1) } },true) else (u,false)
theorem ZhU {m:Memo} {a:Int} (h0:0<=a) (h1:a<(m.words.length:Int)):ZfV m a=some (m.words.getD a.toNat 0,0):=by
 simp only [ZfV,ZbD,Zfs h0 h1]
theorem FitG.wl {u:Turn} (h:FitG u):u.m.words.length<=4294967296:=by have:=h.len;omega
theorem ZxK {u:Turn} (h:FitM u):ZeZ u=some (Zb4 u):=by
 have hc:=h.g.cfg
 have hl:=ZrE h.g h.g.t.1 h.g.t.2
 have hr:=Zx0 h.g h.g.t.1 h.g.t.2
 unfold ZeZ Zb4
 by_cases p13:u.th.phase=13
 . rw [Zbf p13,if_pos p13]
   simp only [cond_true,Zmz,Zc5,Zkk hc,ZbX,ZhU hl.1 hl.2.1,Zg3,ZrW]
   by_cases e:u.m.words.getD (ZaX u.c u.t).toNat 0=5
   . rw [show ((0:Int) == 0)=true from rfl,Zbf e,if_pos e];rfl
   . rw [show ((0:Int) == 0)=true from rfl,ZaS e,if_neg e];rfl
 rw [ZaS p13,if_neg p13]
 simp only [cond_false]
 by_cases p14:u.th.phase=14
 . rw [Zbf p14,if_pos p14]
   simp only [cond_true,ZmJ,Zfd,Zoi hc,ZbX,ZhU hr.2.1 hr.2.2,bne_self_eq_false,cond_false,Zdt,Zku]
 rw [ZaS p14,if_neg p14]
 simp only [cond_false]
 by_cases p15:u.th.phase=15
 . rw [Zbf p15,if_pos p15]
   simp only [cond_true,Zm1,Zat]
   by_cases k1:u.th.at_<0
   . rw [if_pos k1,if_pos (show ZgV u from .inl k1)]
   rw [if_neg k1]
   by_cases k2:u.th.at_>=(u.th.kids.length:Int)
   . rw [if_pos k2,if_pos (show ZgV u from .inr k2)]
   rw [if_neg k2,if_neg (show ¬ZgV u from fun h=>h.elim k1 k2),if_pos (by omega),if_pos (by omega)]
   have hb:u.th.batch.length<=4294967296:=by have:=h.g.batch;omega
   have hall:ZeP (u.th.batch.take (Zf4 u).ahead.toNat,u.th.x,u.c.lo,u.c.hi)=some (allT u.c.lo u.c.hi (u.th.batch.take (Zf4 u).ahead.toNat) u.th.x) :=
     Zr0 h.lo h.hi h.x (fun e he=>h.ops e (List.mem_of_mem_take he)) (by simp;omega)
   have hup:ZkW (u.th.batch,(u.th.kids.getD u.th.at_.toNat dKid).ahead)=some (u.th.batch.take (Zf4 u).ahead.toNat):=Zwr hb
   have hres:Zfd (u.c,(u.th.kids.getD u.th.at_.toNat dKid).t)=some (Zcw u.c (Zf4 u).t):=Zoi hc _
   simp only [hup,hall,hres,Zb5]
   by_cases e:Zcw u.c (Zf4 u).t=-1
   . rw [ZgN (.inl (by omega)),if_pos e];rfl
   . have hk:0<=(Zf4 u).t/\(Zf4 u).t<u.c.threads:=by unfold Zcw at e;split at e <;> omega
     have hk2:=Zx0 h.g hk.1 hk.2
     rw [Zd0 hk2.2.1 hk2.2.2 h.g.wl,if_neg e];rfl
 rw [ZaS p15,if_neg p15]
 simp only [cond_false]
 by_cases p16:u.th.phase=16
 . rw [Zbf p16,if_pos p16]
   simp only [cond_true,Zm5,Zat]
   by_cases k1:u.th.at_<0
   . rw [if_pos k1,if_pos (show ZgV u from .inl k1)]
   rw [if_neg k1]
   by_cases k2:u.th.at_>=(u.th.kids.length:Int)
   . rw [if_pos k2,if_pos (show ZgV u from .inr k2)]
   rw [if_neg k2,if_neg (show ¬ZgV u from fun h=>h.elim k1 k2),if_pos (by omega),if_pos (by omega)]
   have hline:Zc5 (u.c,(u.th.kids.getD u.th.at_.toNat dKid).t)=some (ZaX u.c (Zf4 u).t):=Zkk hc _
   simp only [hline,Zg3,ZrW,Zb5]
   by_cases e:ZaX u.c (Zf4 u).t=-1
   . rw [ZgN (.inl (by omega)),if_pos e];rfl
   . have hk:=Zj1 hc e
     have hk2:=ZrE h.g hk.2.2.1 hk.2.2.2.1
     rw [Zd0 hk2.1 hk2.2.1 h.g.wl,if_neg e]
     simp only [bne_self_eq_false,cond_false,Zdt,Zku]
 rw [ZaS p16,if_neg p16]
 rfl
def Zqh (u:Turn) (x:Int):List Mark:=List.zipWith (fun (e:Entry) p=>(⟨e.t,u.th.item,e.op,p,0⟩:Mark)) u.th.batch (Zei u.c.lo u.c.hi u.th.batch x)
def Ze0 (u:Turn) (x:Int):Turn:=Zcj { u with th:={ u.th with at_:=0,x:=x },log:=u.log++Zqh u x }
theorem Zu7 {u z:Turn} {x:Int} {ps:List Int} (hp:ps.length=u.th.batch.length) (hl:u.log.length+u.th.batch.length<=4294967296) :
   ZgZ (x,u,z,(),u.log,ps,(ps.length:Int),0)=some (x,u,z,(),u.log++List.zipWith (fun (e:Entry) p=>(⟨e.t,u.th.item,e.op,p,0⟩:Mark)) u.th.batch ps):=by
 obtain ⟨ms,hms⟩:∃ ms,ms=List.zipWith (fun (e:Entry) p=>(⟨e.t,u.th.item,e.op,p,0⟩:Mark)) u.th.batch ps:=⟨_,rfl⟩
 have hlen:ms.length=ps.length:=by rw [hms];simp [hp]
 rw [<- hms]
 unfold ZgZ
 have h0:ZaA Zd5 (x,u,z,(),u.log++ms.take 0,ps,(ps.length:Int),((0:Nat):Int))=some (x,u,z,(),u.log++ms):=ZeL (step:=Zd5) (fun i=>(x,u,z,(),u.log++ms.take i,ps,(ps.length:Int),(i:Int))) ps.length (y:=(x,u,z,(),u.log++ms)) (fun i hi=>?_) ?_
 . rw [List.take_zero,List.append_nil] at h0
   exact h0
 . show Zd8 _ _ _ _ _ _ _ _=_
   unfold Zd8
   have hw:Zac .i64 ((i:Int)+1)=((i+1:Nat):Int):=by rw [Zas (by omega) (by omega)];rfl
   have hg:(ms.getD i ⟨0,0,⟨0,0⟩,0,0⟩)=⟨(u.th.batch.getD i Zjs).t,u.th.item,(u.th.batch.getD i Zjs).op,ps.getD i 0,0⟩:=by
     have h1:i<u.th.batch.length:=by omega
     rw [hms]
     simp only [List.getD_eq_getElem?_getD,List.getElem?_zipWith,List.getElem?_eq_getElem h1,List.getElem?_eq_getElem hi,Option.getD_some]
   have hfew:fewB ((u.log++ms.take i).length+([(⟨(u.th.batch.getD i Zjs).t,u.th.item,(u.th.batch.getD i Zjs).op,ps.getD i 0,0⟩:Mark)]).length)=true:=Zbb (by simp;omega)
   simp only [Zat,Int.toNat_natCast]
   rw [if_pos (by omega),if_pos (by omega),if_pos (by omega),if_pos (by omega),if_pos (by omega),hfew,hw]
   simp only [cond_true]
   rw [<- Zso ms ⟨0,0,⟨0,0⟩,0,0⟩ i (by omega),hg,List.append_assoc]
 . show Zd8 _ _ _ _ _ _ _ _=some (.inr _)
   unfold Zd8
   simp only [Zat]
   rw [if_neg (by omega),List.take_of_length_le (by omega)]
theorem Ztf {u:Turn} {x:Int} (hlo:Num u.c.lo) (hhi:Num u.c.hi) (hx:Num x) (hb:∀ e∈u.th.batch,Num e.op.v) (hl:u.log.length+u.th.batch.length<=4294967296):Zil u x=some (Ze0 u x):=by
 unfold Zil
 rw [Zbb (by omega)]
 simp only [cond_true,ZiC,ZuR hlo hhi hx hb (by omega)]
 rw [Zu7 (Zmb _ _ _ _) hl]
 simp only [Zdt,Zku]
 rfl
def Zef (u:Turn):Turn := if Za3 u (cellAt u.c u.th.item)=u.th.x then Ze0 (setW u (cellAt u.c u.th.item) u.th.y) u.th.x else { u with th:={ u.th with phase:=2,width:=if u.th.width<u.c.width then (if u.c.width<Zac .i64 (u.th.width*2) then u.c.width else Zac .i64 (u.th.width*2)) else (if u.c.width<u.th.width then u.c.width else u.th.width) } }
def ZbV (u:Turn):Turn×Bool := if u.th.phase=3 then (Zef u,true) else if u.th.phase=2\/u.th.phase=25 then (if allT u.c.lo u.c.hi u.th.batch (Za3 u (cellAt u.c u.th.item))=Za3 u (cellAt u.c u.th.item) then Ze0 u (Za3 u (cellAt u.c u.th.item)) else if u.th.phase=25 then Zdy u else { u with th:={ u.th with phase:=3,x:=Za3 u (cellAt u.c u.th.item),y:=allT u.c.lo u.c.hi u.th.batch (Za3 u (cellAt u.c u.th.item)) } },true) else (u,false)
theorem Zva {u:Turn} (h:FitM u) (hlog:u.log=[]):Zj5 u=some (ZbV u):=by
 have hc:=h.g.cfg
 obtain ⟨hcell,c0,c1⟩:=h.cell
 rw [<- hcell] at c0 c1
 have hb:u.th.batch.length<=4294967296:=by have:=h.g.batch;omega
 have hw:Num (Za3 u (cellAt u.c u.th.item)):=h.g.word c0 c1
 have hcom:∀ {v:Turn} {x:Int},v.c=u.c->v.th.batch=u.th.batch->v.log=u.log->Num x->ZdO (v,x)=some (Ze0 v x):=by
   intro v x h1 h2 h3 hx
   refine Ztf (by rw [h1];exact h.lo) (by rw [h1];exact h.hi) hx (by rw [h2];exact h.ops) ?_
   rw [h2,h3,hlog]
   have:=h.g.batch
   simp only [List.length_nil]
   omega
 have hall:ZeP (u.th.batch,Za3 u (cellAt u.c u.th.item),u.c.lo,u.c.hi)=some (allT u.c.lo u.c.hi u.th.batch (Za3 u (cellAt u.c u.th.item))):=Zr0 h.lo h.hi hw h.ops hb
 unfold Zj5 ZbV
 by_cases p3:u.th.phase=3
 . rw [Zbf p3,if_pos p3]
   simp only [cond_true,ZgX,Zka,ZcM,Zkl hc,ZcS,ZeQ c0 c1 h.g.wl,bne_self_eq_false,cond_false]
   unfold Zef
   by_cases e:u.m.words.getD (cellAt u.c u.th.item).toNat 0=u.th.x
   . rw [decide_eq_true e,if_pos e,if_pos e]
     simp only [cond_true]
     rw [hcom (v:=setW u (cellAt u.c u.th.item) u.th.y) (x:=u.th.x) rfl rfl rfl h.x]
   . rw [decide_eq_false e,if_neg e,if_neg (show ¬Za3 u (cellAt u.c u.th.item)=u.th.x from e)]
     simp only [cond_false,Zat]
     by_cases e2:u.th.width<u.c.width
     . rw [if_pos e2,if_pos e2]
     . rw [if_neg e2,if_neg e2]
 rw [ZaS p3,if_neg p3]
 simp only [cond_false,ZcM,Zkl hc,ZbX,ZhU c0 c1]
 have hrest:∀ q:Bool,(q=(u.th.phase == (25:Int)))->(match ZeP (u.th.batch,u.m.words.getD (cellAt u.c u.th.item).toNat 0,u.c.lo,u.c.hi) with
     | some y3 =>
       bif (0:Int) != (0:Int) then some (u,true)
       else
         bif u.m.words.getD (cellAt u.c u.th.item).toNat 0 == u.m.words.getD (cellAt u.c u.th.item).toNat 0 && (y3 == u.m.words.getD (cellAt u.c u.th.item).toNat 0 && true) then
           match ZdO (u,u.m.words.getD (cellAt u.c u.th.item).toNat 0) with
           | some y4=>some (y4,true)
           | none=>none
         else
           bif u.th.phase == (25:Int) then
             match Zcm u with
             | some y4=>some (y4,true)
             | none=>none
           else some ({ u with th:={ u.th with phase:=(3:Int),x:=u.m.words.getD (cellAt u.c u.th.item).toNat 0,y:=y3 } },true)
     | none=>none)=some (if allT u.c.lo u.c.hi u.th.batch (Za3 u (cellAt u.c u.th.item))=Za3 u (cellAt u.c u.th.item) then Ze0 u (Za3 u (cellAt u.c u.th.item))
    else if u.th.phase=25 then Zdy u
    else { u with th:={ u.th with phase:=3,x:=Za3 u (cellAt u.c u.th.item),y:=allT u.c.lo u.c.hi u.th.batch (Za3 u (cellAt u.c u.th.item)) } },true):=by
   intro q hq
   rw [hall]
   simp only [bne_self_eq_false,cond_false,beq_self_eq_true,Bool.true_and,Bool.and_true]
   by_cases e:allT u.c.lo u.c.hi u.th.batch (Za3 u (cellAt u.c u.th.item))=Za3 u (cellAt u.c u.th.item)
   . rw [Zbf e,if_pos e]
     simp only [cond_true]
     rw [hcom rfl rfl rfl hw]
   . rw [ZaS e,if_neg e]
     simp only [cond_false]
     by_cases p:u.th.phase=25
     . rw [Zbf p,if_pos p]
       simp only [cond_true,Zcm,Znq]
     . rw [ZaS p,if_neg p]
       rfl
 by_cases p2:u.th.phase=2
 . rw [Zf7 p2,if_pos (.inl p2)]
   simp only [cond_false]
   exact hrest _ rfl
 . rw [ZeV p2]
   simp only [cond_true]
   by_cases p25:u.th.phase=25
   . rw [Zf7 p25,if_pos (.inr p25)]
     simp only [cond_false]
     exact hrest _ rfl
   . rw [ZeV p25,if_neg (fun h=>h.elim p2 p25)]
     rfl
def ZfN (u:Turn):Turn := if u.c.backend=2/\u.c.depth>0 then { u with th:={ u.th with phase:=4 } } else if u.c.backend=3/\u.c.layers>0 then { u with th:={ u.th with phase:=17,layer:=1 } } else { u with th:={ u.th with phase:=2 } }
theorem Zs6 (u:Turn):ZhK u=some (ZfN u):=by
 unfold ZhK ZfN
 simp only [Zat]
 by_cases b2:u.c.backend=2
 . have b3:¬u.c.backend=3:=by omega
   rw [Zbf b2,ZaS b3,if_neg (show ¬(u.c.backend=3/\u.c.layers>0) from fun h=>b3 h.1)]
   simp only [cond_true,cond_false]
   by_cases d:u.c.depth>0
   . rw [if_pos d,if_pos (show u.c.backend=2/\u.c.depth>0 from ⟨b2,d⟩)]
   . rw [if_neg d,if_neg (show ¬(u.c.backend=2/\u.c.depth>0) from fun h=>d h.2)]
 . rw [ZaS b2,if_neg (show ¬(u.c.backend=2/\u.c.depth>0) from fun h=>b2 h.1)]
   simp only [cond_false]
   by_cases b3:u.c.backend=3
   . rw [Zbf b3]
     simp only [cond_true]
     by_cases d:u.c.layers>0
     . rw [if_pos d,if_pos (show u.c.backend=3/\u.c.layers>0 from ⟨b3,d⟩)]
     . rw [if_neg d,if_neg (show ¬(u.c.backend=3/\u.c.layers>0) from fun h=>d h.2)]
   . rw [ZaS b3,if_neg (show ¬(u.c.backend=3/\u.c.layers>0) from fun h=>b3 h.1)]
     rfl
def Zca (u:Turn):Turn×Bool:=if u.th.phase=1 then (ZfN (setW u (ZaX u.c u.t) 0),true) else (u,false)
theorem ZsR {u:Turn} (h:FitG u):ZhX u=some (Zca u):=by
 have hl:=ZrE h h.t.1 h.t.2
 unfold ZhX Zca
 by_cases p:u.th.phase=1
 . rw [Zf7 p,if_pos p]
   simp only [cond_false,Zc5,Zkk h.cfg,Zb5,Zd0 hl.1 hl.2.1 h.wl,bne_self_eq_false,Zin,Zs6]
 . rw [ZeV p,if_neg p]
   rfl
theorem Ztt {u:Turn} (hp:u.th.phase≠17/\u.th.phase≠18/\u.th.phase≠19/\u.th.phase≠20/\u.th.phase≠21/\u.th.phase≠22/\u.th.phase≠23/\u.th.phase≠24/\u.th.phase≠26):Zej u=some (u,false)/\ZbY u=(u,false):=by
 obtain ⟨p1,p2,p3,p4,p5,p6,p7,p8,p9⟩:=hp
 constructor
 . simp only [Zej,Zjc,Zi6,ZbQ,Zdq,ZaS p1,ZaS p2,ZaS p3,ZaS p4,ZaS p5,ZaS p6,ZaS p7,ZaS p8,ZaS p9,cond_false]
 . simp only [ZbY,if_neg p1,if_neg p2,if_neg p3,if_neg p4,if_neg p5,if_neg p6,if_neg p7,if_neg p8,if_neg p9]
theorem FitM.fit {u:Turn} (h:FitM u):Fit u:=⟨h.g.cfg,h.g.t,h.g.words,h.g.nums,h.held⟩
theorem Zvw {u:Turn} (h:FitM u):Zej u=some (ZbY u):=by
 by_cases p:17<=u.th.phase
 . exact ZuK ⟨h.g,h.item,h.layer p,h.tape,h.draws,h.width⟩
 . obtain ⟨h1,h2⟩:=Ztt (u:=u) (by omega)
   rw [h1,h2]
def begT (u:Turn):Turn:={ u with log:=[],done:=false }
theorem FitM.beg {u:Turn} (h:FitM u):FitM (begT u):=⟨⟨h.g.cfg,h.g.t,h.g.words,h.g.boxes,h.g.nums,h.g.batch,h.g.kids,h.g.box⟩,h.held,h.item,h.layer,h.tape,h.draws,h.width,h.lo,h.hi,h.x,h.ops⟩
def ZaR (u:Turn):Turn := if u.th.phase=0 then u else if (Zca (begT u)).2=true then (Zca (begT u)).1 else if (Zb4 (begT u)).2=true then (Zb4 (begT u)).1 else if (ZbV (begT u)).2=true then (ZbV (begT u)).1 else if (Zcs (begT u)).2=true then (Zcs (begT u)).1 else if (Zci (begT u)).2=true then (Zci (begT u)).1 else if (ZbY (begT u)).2=true then (ZbY (begT u)).1 else begT u
theorem ZuL {u:Turn} (h:FitM u):Ziz u=some (ZaR u):=by
 have hb:=h.beg
 unfold Ziz ZaR
 simp only [ZbE,ZeD]
 by_cases p:u.th.phase=0
 . rw [Zf7 p,if_pos p];rfl
 rw [ZeV p,if_neg p]
 have e1:ZhY { u with log:=([]:List Mark),done:=false }=some (Zca (begT u)):=ZsR hb.g
 have e2:ZkT { u with log:=([]:List Mark),done:=false }=some (Zb4 (begT u)):=ZxK hb
 have e3:ZjG { u with log:=([]:List Mark),done:=false }=some (ZbV (begT u)):=Zva hb rfl
 have e4:ZkX { u with log:=([]:List Mark),done:=false }=some (Zcs (begT u)):=ZxD hb.fit
 have e5:ZjF { u with log:=([]:List Mark),done:=false }=some (Zci (begT u)):=ZvF hb.g
 have e6:ZiV { u with log:=([]:List Mark),done:=false }=some (ZbY (begT u)):=Zvw hb
 simp only [Bool.not_true,cond_false,e1,e2,e3,e4,e5,e6]
 cases h1:(Zca (begT u)).2 with
 | true=>rfl
 | false =>
 cases h2:(Zb4 (begT u)).2 with
 | true=>rfl
 | false =>
 cases h3:(ZbV (begT u)).2 with
 | true=>rfl
 | false =>
 cases h4:(Zcs (begT u)).2 with
 | true=>rfl
 | false =>
 cases h5:(Zci (begT u)).2 with
 | true=>rfl
 | false =>
 cases h6:(ZbY (begT u)).2 with
 | true=>rfl
 | false=>rfl
end Go.Proofs.Mill
namespace Go.Proofs.Mill
def seta {α:Type} (f:Int->α) (j:Int) (a:α):Int->α:=fun k=>if k=j then a else f k
theorem Zag {α:Type} {f:Int->α} {j:Int} {a:α}:seta f j a j=a:=if_pos rfl
theorem Zaf {α:Type} {f:Int->α} {j k:Int} {a:α} (h:k≠j):seta f j a k=f k:=if_neg h
theorem Zdi {α:Type} {f:Int->α} {j:Int}:seta f j (f j)=f:=by
 funext k
 unfold seta
 split
 . rename_i h;rw [h]
 . rfl
def InT (c:Config) (j:Int):Prop:=0<=j/\j<c.threads
def idxOf (b:List Entry) (j:Int):Nat:=(b.map (·.t)).findIdx (fun t=>t == j)
def Seg (a b:List Entry) (off:Nat):Prop:=a=(b.drop off).take a.length
theorem Seg.refl (a:List Entry):Seg a a 0:=by unfold Seg;simp
theorem Seg.left {a b d:List Entry} {off:Nat} (h:Seg a b off):Seg a (b++d) off:=by
 unfold Seg at h ⊢
 by_cases ho:off<=b.length
 . rw [List.drop_append_of_le_length ho,List.take_append_of_le_length]
   . exact h
   . have:=congrArg List.length h
     rw [List.length_take] at this
     omega
 . rw [List.drop_of_length_le (by omega),List.take_nil] at h
   subst h
   simp
theorem Seg.right {a b d:List Entry} {off:Nat} (h:Seg a b off):Seg a (d++b) (d.length+off):=by
 unfold Seg at h ⊢
 rw [List.drop_append,List.drop_of_length_le (by omega),List.nil_append,show d.length+off-d.length=off by omega]
 exact h
theorem Seg.trans {a b d:List Entry} {o1 o2:Nat} (h1:Seg a b o1) (h2:Seg b d o2):Seg a d (o2+o1):=by
 unfold Seg at h1 h2 ⊢
 have e:(b.drop o1).take a.length=(((d.drop o2).take b.length).drop o1).take a.length:=congrArg (fun x=>(List.drop o1 x).take a.length) h2
 rw [e,List.drop_take,List.drop_drop,List.take_take] at h1
 have hl:a.length=((d.drop (o2+o1)).take (min a.length (b.length-o1))).length:=congrArg List.length h1
 rw [List.length_take] at hl
 have hm:min a.length (b.length-o1)=a.length:=by omega
 rw [hm] at h1
 exact h1
theorem Seg.mem {a b:List Entry} {off:Nat} (h:Seg a b off) {e:Entry} (he:e∈a):e∈b:=by
 unfold Seg at h
 rw [h] at he
 exact List.mem_of_mem_drop (List.mem_of_mem_take he)
theorem Zue {e:Entry} {r:List Entry}:idxOf (e::r) e.t=0:=by simp [idxOf,List.findIdx_cons]
theorem ZCU {b:List Entry} {e:Entry} (h:e∈b):idxOf b e.t<b.length:=by
 have:idxOf b e.t<(b.map (·.t)).length:=List.findIdx_lt_length_of_exists ⟨e.t,List.mem_map_of_mem h,by simp⟩
 rwa [List.length_map] at this
theorem ZBJ {b:List Entry} (hn:(b.map (·.t)).Nodup) {i:Nat} (hi:i<b.length):idxOf b (b[i]).t=i:=by
 unfold idxOf
 have hi':i<(b.map (·.t)).length:=by rwa [List.length_map]
 have hex:(b.map (·.t)).findIdx (fun t=>t == (b[i]).t)<(b.map (·.t)).length:=List.findIdx_lt_length_of_exists ⟨(b[i]).t,List.mem_map_of_mem (List.getElem_mem hi),by simp⟩
 have h1:=List.findIdx_getElem (w:=hex)
 have h2:(b.map (·.t))[(b.map (·.t)).findIdx (fun t=>t == (b[i]).t)]=(b.map (·.t))[i]:=by
   rw [eq_of_beq h1,List.getElem_map]
 rcases Nat.lt_trichotomy ((b.map (·.t)).findIdx (fun t=>t == (b[i]).t)) i with hlt | heq | hgt
 . exact (List.pairwise_iff_getElem.1 hn _ _ hex hi' hlt h2).elim
 . exact heq
 . exact (List.pairwise_iff_getElem.1 hn _ _ hi' hex hgt h2.symm).elim
theorem Zwh {a b:List Entry} {off:Nat} (h:Seg a b off) (hn:(b.map (·.t)).Nodup) {e:Entry} {r:List Entry} (ha:a=e::r):idxOf b e.t=off:=by
 unfold Seg at h
 have hl:0<((b.drop off).take a.length).length:=by rw [<- h,ha];simp
 have ho:off<b.length:=by
   rw [List.length_take,List.length_drop] at hl
   omega
 have:b[off]=e:=by
   have h1:((b.drop off).take a.length)[0]'hl=e:=by
     have:a[0]'(by rw [ha];simp)=e:=by simp [ha]
     rw [<- this]
     congr 1
     exact h.symm
   rw [List.getElem_take,List.getElem_drop] at h1
   simpa using h1
 rw [<- this]
 exact ZBJ hn ho
theorem Zpr (lo hi:Int):∀ (a b:List Entry) (x:Int),allT lo hi (a++b) x=allT lo hi b (allT lo hi a x)
 | [],_,_=>rfl
 | e :: a, b, x => by
   show allT lo hi (a++b) _=allT lo hi b (allT lo hi a _)
   exact Zpr lo hi a b _
structure Core (c:Config) (ba:Int->List Entry) (ks:Int->List Kid) (op:Int->Op) (it ro pa rt:Int->Int) (co:Int->Option Int):Prop where
  out:∀ j,ro j≠0->InT c j
  k0:∀ j,ro j=0->co j=none/\ks j=[]
  k1:∀ j,1<=ro j/\ro j<=4->co j=none/\rt j=j
  k2:∀ j,ro j=6\/ro j=7->co j≠none
  rng:∀ j,0<=ro j/\ro j<=7
  k3:∀ j,ro j≠0->∃ r,ba j=⟨j,op j⟩::r
  nod:∀ j,ro j≠0->((ba j).map (·.t)).Nodup
  ent:∀ j,ro j≠0->∀ e∈ba j,InT c e.t
  k4:∀ j,ro j≠0->co j=none->∀ e∈ba j,ro e.t≠0/\op e.t=e.op/\it e.t=it j/\co e.t=none/\rt e.t=rt j
  k5:∀ j,ro j≠0->co j=none->1<=ro (rt j)/\ro (rt j)<=4/\∃ off,Seg (ba j) (ba (rt j)) off
  k6:∀ j,ro j=5->∃ a,(⟨j,a⟩:Kid)∈ks (pa j)
  k7:∀ p,∀ k∈ks p,ro k.t=5/\pa k.t=p/\Seg (ba k.t) (ba p) k.ahead.toNat/\(co p=none->co k.t=none/\rt k.t=rt p)/\(∀ x,co p=some x->co k.t=some (allT c.lo c.hi ((ba p).take k.ahead.toNat) x))
  k8:∀ p,((ks p).map (·.t)).Nodup
section
variable {c:Config} {ba:Int->List Entry} {ks:Int->List Kid} {op:Int->Op} {it ro pa rt:Int->Int} {co:Int->Option Int}
theorem Core.kids_busy (h:Core c ba ks op it ro pa rt co) {p:Int} {k:Kid} (hk:k∈ks p):ro p≠0:=by
 intro h0
 rw [(h.k0 p h0).2] at hk
 cases hk
theorem Core.roles (h:Core c ba ks op it ro pa rt co) {ro' pa':Int->Int} (hr:∀ j,ro' j=ro j\/((1<=ro j/\ro j<=4)/\1<=ro' j/\ro' j<=4)) (hp:∀ j,ro j=5->pa' j=pa j):Core c ba ks op it ro' pa' rt co:=by
 have hz:∀ j,ro' j≠0↔ro j≠0:=fun j=>by have:=hr j;omega
 have h5:∀ j,ro' j=5↔ro j=5:=fun j=>by have:=hr j;omega
 have h14:∀ j,(1<=ro' j/\ro' j<=4)↔(1<=ro j/\ro j<=4):=fun j=>by have:=hr j;omega
 refine ⟨fun j hj=>h.out j ((hz j).1 hj),fun j hj=>h.k0 j (by have:=hz j;omega),fun j hj=>h.k1 j ((h14 j).1 hj),fun j hj=>h.k2 j (by have:=hr j;omega),fun j=>by have:=hr j;have:=h.rng j;omega,
   fun j hj=>h.k3 j ((hz j).1 hj),fun j hj=>h.nod j ((hz j).1 hj),fun j hj=>h.ent j ((hz j).1 hj),fun j hj hc e he=>?_,fun j hj hc=>?_,fun j hj=>?_,fun p k hk=>?_,h.k8⟩
 . obtain ⟨a,b⟩:=h.k4 j ((hz j).1 hj) hc e he
   exact ⟨(hz _).2 a,b⟩
 . obtain ⟨a,b,d⟩:=h.k5 j ((hz j).1 hj) hc
   have:=(h14 (rt j)).2 ⟨a,b⟩
   exact ⟨this.1,this.2,d⟩
 . obtain ⟨a,ha⟩:=h.k6 j ((h5 j).1 hj)
   rw [hp j ((h5 j).1 hj)]
   exact ⟨a,ha⟩
 . obtain ⟨a,b,d⟩:=h.k7 p k hk
   exact ⟨(h5 _).2 a,by rw [hp _ a];exact b,d⟩
theorem Core.take (h:Core c ba ks op it ro pa rt co) {p q:Int} (hp:ro p=1) (hq:ro q=2\/ro q=4) (hi:it p=it q) :
   Core c (seta ba p (ba p++ba q)) (seta ks p (ks p++[⟨q,(ba p).length⟩])) op it (seta ro q 5) (seta pa q p) (fun j=>if ro j≠0/\co j=none/\rt j=q then p else rt j) co:=by
 have hpq:p≠q:=by intro e;subst e;omega
 obtain ⟨cp,rp⟩:=h.k1 p (by omega)
 obtain ⟨cq,rq⟩:=h.k1 q (by omega)
 have hz:∀ j,seta ro q 5 j≠0↔ro j≠0:=fun j=>by
   by_cases e:j=q
   . subst e;rw [Zag];omega
   . rw [Zaf e]
 have hbne:∀ j,j≠p->seta ba p (ba p++ba q) j=ba j:=fun j hj=>Zaf hj
 have hseg:∀ {a:List Entry} {r:Int} {o:Nat},Seg a (ba r) o->Seg a (seta ba p (ba p++ba q) r) o:=by
   intro a r o hs
   by_cases e:r=p
   . subst e;rw [Zag];exact hs.left
   . rw [Zaf e];exact hs
 have hsp:∀ {j:Int},j≠p->seta ba p (ba p++ba q) j=ba j:=fun e=>Zaf e
 refine ⟨fun j hj=>h.out j ((hz j).1 hj),fun j hj=>?_,fun j hj=>?_,fun j hj=>?_,fun j=>?_,fun j hj=>?_,fun j hj=>?_,fun j hj e he=>?_,fun j hj hc e he=>?_,fun j hj hc=>?_,fun j hj=>?_,fun s k hk=>?_,fun s=>?_⟩
 . have h0:ro j=0:=by have:=hz j;omega
   have hj2:j≠p:=by intro e;subst e;omega
   rw [Zaf hj2]
   exact h.k0 j h0
 . have e:j≠q:=by intro e;subst e;rw [Zag] at hj;omega
   rw [Zaf e] at hj
   obtain ⟨a,b⟩:=h.k1 j hj
   refine ⟨a,?_⟩
   rw [if_neg (fun x=>e (by rw [b] at x;exact x.2.2))]
   exact b
 . have e:j≠q:=by intro e;subst e;rw [Zag] at hj;omega
   rw [Zaf e] at hj
   exact h.k2 j hj
 . by_cases e:j=q
   . subst e;rw [Zag];omega
   . rw [Zaf e];exact h.rng j
 . obtain ⟨r,hr⟩:=h.k3 j ((hz j).1 hj)
   by_cases e:j=p
   . subst e;rw [Zag,hr];exact ⟨r++ba q,rfl⟩
   . rw [Zaf e];exact ⟨r,hr⟩
 . by_cases e:j=p
   . subst e
     rw [Zag,List.map_append,List.nodup_append]
     refine ⟨h.nod j (by omega),h.nod q (by omega),?_⟩
     intro x hx y hy hxy
     subst hxy
     obtain ⟨e1,he1,rfl⟩:=List.mem_map.1 hx
     obtain ⟨e2,he2,he3⟩:=List.mem_map.1 hy
     have k1:=(h.k4 j (by omega) cp e1 he1).2.2.2.2
     have k2:=(h.k4 q (by omega) cq e2 he2).2.2.2.2
     rw [he3] at k2
     rw [k1,rp,rq] at k2
     exact hpq k2
   . rw [Zaf e];exact h.nod j ((hz j).1 hj)
 . by_cases e1:j=p
   . subst e1
     rw [Zag] at he
     rcases List.mem_append.1 he with he | he
     . exact h.ent j (by omega) e he
     . exact h.ent q (by omega) e he
   . rw [Zaf e1] at he
     exact h.ent j ((hz j).1 hj) e he
 . by_cases e1:j=p
   . subst e1
     rw [Zag] at he
     have hj1:(if ro j≠0/\co j=none/\rt j=q then j else rt j)=j:=by
       split
       . rfl
       . exact rp
     rw [hj1]
     rcases List.mem_append.1 he with he | he
     . obtain ⟨a,b,d,f,g⟩:=h.k4 j (by omega) cp e he
       refine ⟨(hz _).2 a,b,d,f,?_⟩
       rw [if_neg (fun x=>hpq (by rw [<- rp,<- g];exact x.2.2)),g,rp]
     . obtain ⟨a,b,d,f,g⟩:=h.k4 q (by omega) cq e he
       refine ⟨(hz _).2 a,b,by rw [d,hi],f,?_⟩
       rw [if_pos ⟨a,f,by rw [g,rq]⟩]
   . rw [Zaf e1] at he
     obtain ⟨a,b,d,f,g⟩:=h.k4 j ((hz j).1 hj) hc e he
     refine ⟨(hz _).2 a,b,d,f,?_⟩
     rw [g]
     by_cases x:rt j=q
     . rw [if_pos ⟨a,f,x⟩,if_pos ⟨(hz j).1 hj,hc,x⟩]
     . rw [if_neg (fun y=>x y.2.2),if_neg (fun y=>x y.2.2)]
 . have hj':=(hz j).1 hj
   obtain ⟨a,b,o,hs⟩:=h.k5 j hj' hc
   by_cases x:rt j=q
   . rw [if_pos ⟨hj',hc,x⟩]
     rw [Zaf hpq,hp]
     refine ⟨by omega,by omega,(ba p).length+o,?_⟩
     rw [Zag]
     have e1:j≠p:=by intro e1;subst e1;rw [rp] at x;exact hpq x
     rw [Zaf e1]
     rw [x] at hs
     exact hs.right
   . rw [if_neg (fun y=>x y.2.2),Zaf x]
     refine ⟨a,b,?_⟩
     by_cases e1:j=p
     . subst e1;rw [rp];exact ⟨0,Seg.refl _⟩
     . rw [Zaf e1];exact ⟨o,hseg hs⟩
 . by_cases e:j=q
   . subst e
     rw [Zag,Zag]
     exact ⟨_,List.mem_append_right _ (List.mem_singleton.2 rfl)⟩
   . rw [Zaf e] at hj ⊢
     obtain ⟨a,ha⟩:=h.k6 j hj
     refine ⟨a,?_⟩
     by_cases e2:pa j=p
     . rw [e2,Zag,<- e2];exact List.mem_append_left _ ha
     . rw [Zaf e2];exact ha
 . have old:k∈ks s->_:=fun hk=>h.k7 s k hk
   have hkq:∀ {s:Int} {k:Kid},k∈ks s->k.t≠q:=by
     intro s k hk e
     have:=(h.k7 s k hk).1
     rw [e] at this
     omega
   have hkp:∀ {s:Int} {k:Kid},k∈ks s->k.t≠p:=by
     intro s k hk e
     have:=(h.k7 s k hk).1
     rw [e] at this
     omega
   by_cases e:s=p
   . subst e
     rw [Zag] at hk
     rcases List.mem_append.1 hk with hk | hk
     . obtain ⟨a,b,d,f,g⟩:=h.k7 s k hk
       rw [Zaf (hkq hk),Zaf (hkq hk),Zaf (hkp hk),Zag]
       refine ⟨a,b,d.left,fun hc=>?_,fun x hx=>by rw [cp] at hx;cases hx⟩
       obtain ⟨f1,f2⟩:=f hc
       refine ⟨f1,?_⟩
       rw [f2,rp]
       rw [if_neg (fun y=>hpq y.2.2),if_neg (fun y=>hpq y.2.2)]
     . rw [List.mem_singleton] at hk
       subst hk
       show seta ro q 5 q=5/\seta pa q s q=s/\Seg (seta ba s (ba s++ba q) q) (seta ba s (ba s++ba q) s) ((ba s).length:Int).toNat/\_/\_
       rw [Zag,Zag,Zag,Zaf (fun x=>hpq x.symm),Int.toNat_natCast]
       refine ⟨rfl,rfl,by simpa using (Seg.refl (ba q)).right (d:=ba s),fun _=>⟨cq,?_⟩,fun x hx=>by rw [cp] at hx;cases hx⟩
       rw [if_pos (show ro q≠0/\co q=none/\rt q=q from ⟨by omega,cq,rq⟩),if_neg (fun y=>hpq (by rw [rp] at y;exact y.2.2)),rp]
   . rw [Zaf e] at hk
     obtain ⟨a,b,d,f,g⟩:=h.k7 s k hk
     rw [Zaf (hkq hk),Zaf (hkq hk),Zaf (hkp hk),Zaf e]
     refine ⟨a,b,d,fun hc=>?_,g⟩
     obtain ⟨f1,f2⟩:=f hc
     refine ⟨f1,?_⟩
     have hs0:=h.kids_busy hk
     rw [f2]
     by_cases x:rt s=q
     . rw [if_pos ⟨by omega,f1,x⟩,if_pos ⟨hs0,hc,x⟩]
     . rw [if_neg (fun y=>x y.2.2),if_neg (fun y=>x y.2.2)]
 . by_cases e:s=p
   . subst e
     rw [Zag,List.map_append,List.nodup_append]
     refine ⟨h.k8 s,by simp,?_⟩
     intro x hx y hy hxy
     subst hxy
     simp only [List.map_cons,List.map_nil,List.mem_singleton] at hy
     obtain ⟨k,hk,rfl⟩:=List.mem_map.1 hx
     have:=(h.k7 s k hk).1
     rw [hy] at this
     omega
   . rw [Zaf e];exact h.k8 s
def Zlf (c:Config) (ba:Int->List Entry) (ro rt:Int->Int) (co:Int->Option Int) (r x:Int):Int->Option Int :=
 fun j=>if ro j≠0/\co j=none/\rt j=r then some (allT c.lo c.hi ((ba r).take (idxOf (ba r) j)) x) else co j
theorem Core.commit (h:Core c ba ks op it ro pa rt co) {r x:Int} (hr:ro r=1) :
   Core c ba ks op it (seta ro r 7) pa rt (Zlf c ba ro rt co r x):=by
 obtain ⟨cr,rr⟩:=h.k1 r (by omega)
 have hz:∀ j,seta ro r 7 j≠0↔ro j≠0:=fun j=>by
   by_cases e:j=r
   . subst e;rw [Zag];omega
   . rw [Zaf e]
 have hin:∀ {j},ro j≠0->co j=none->rt j=r->Zlf c ba ro rt co r x j=some (allT c.lo c.hi ((ba r).take (idxOf (ba r) j)) x):=fun a b d=>if_pos ⟨a,b,d⟩
 have hout:∀ {j},¬(ro j≠0/\co j=none/\rt j=r)->Zlf c ba ro rt co r x j=co j:=fun a=>if_neg a
 have hnone:∀ {j},Zlf c ba ro rt co r x j=none->co j=none/\(ro j≠0->rt j≠r):=by
   intro j hj
   by_cases y:ro j≠0/\co j=none/\rt j=r
   . rw [hin y.1 y.2.1 y.2.2] at hj;cases hj
   . rw [hout y] at hj
     exact ⟨hj,fun a b=>y ⟨a,hj,b⟩⟩
 refine ⟨fun j hj=>h.out j ((hz j).1 hj),fun j hj=>?_,fun j hj=>?_,fun j hj=>?_,fun j=>?_,fun j hj=>h.k3 j ((hz j).1 hj),fun j hj=>h.nod j ((hz j).1 hj),fun j hj=>h.ent j ((hz j).1 hj),fun j hj hc e he=>?_,fun j hj hc=>?_,fun j hj=>?_,fun p k hk=>?_,h.k8⟩
 . have h0:ro j=0:=by have:=hz j;omega
   rw [hout (fun y=>y.1 h0)]
   exact h.k0 j h0
 . have e:j≠r:=by intro e;subst e;rw [Zag] at hj;omega
   rw [Zaf e] at hj
   obtain ⟨a,b⟩:=h.k1 j hj
   rw [hout (fun y=>e (by rw [b] at y;exact y.2.2))]
   exact ⟨a,b⟩
 . by_cases e:j=r
   . subst e
     rw [hin (by omega) cr rr]
     simp
   . rw [Zaf e] at hj
     intro hn
     exact h.k2 j hj (hnone hn).1
 . by_cases e:j=r
   . subst e;rw [Zag];omega
   . rw [Zaf e];exact h.rng j
 . obtain ⟨hc1,hc2⟩:=hnone hc
   have hj':=(hz j).1 hj
   obtain ⟨a,b,d,f,g⟩:=h.k4 j hj' hc1 e he
   refine ⟨(hz _).2 a,b,d,?_,g⟩
   rw [hout (fun y=>hc2 hj' (by rw [<- g];exact y.2.2))]
   exact f
 . obtain ⟨hc1,hc2⟩:=hnone hc
   have hj':=(hz j).1 hj
   obtain ⟨a,b,o⟩:=h.k5 j hj' hc1
   rw [Zaf (hc2 hj')]
   exact ⟨a,b,o⟩
 . have e:j≠r:=by intro e;subst e;rw [Zag] at hj;omega
   rw [Zaf e] at hj
   exact h.k6 j hj
 . obtain ⟨a,b,d,f,g⟩:=h.k7 p k hk
   have ekr:k.t≠r:=by intro e;rw [e] at a;omega
   rw [Zaf ekr]
   have hp0:=h.kids_busy hk
   refine ⟨a,b,d,fun hc=>?_,fun y hy=>?_⟩
   . obtain ⟨hc1,hc2⟩:=hnone hc
     obtain ⟨f1,f2⟩:=f hc1
     refine ⟨?_,f2⟩
     rw [hout (fun y=>hc2 hp0 (by rw [<- f2];exact y.2.2))]
     exact f1
   . by_cases z:ro p≠0/\co p=none/\rt p=r
     . rw [hin z.1 z.2.1 z.2.2] at hy
       obtain ⟨f1,f2⟩:=f z.2.1
       rw [hin (by omega) f1 (by rw [f2];exact z.2.2)]
       have hy:=Option.some.inj hy
       obtain ⟨_,_,o,hs⟩:=h.k5 p z.1 z.2.1
       rw [z.2.2] at hs
       obtain ⟨r1,hr1⟩:=h.k3 p z.1
       obtain ⟨r2,hr2⟩:=h.k3 k.t (by omega)
       have hn:=h.nod r (by omega)
       have i1:idxOf (ba r) p=o:=Zwh hs hn hr1
       have i2:idxOf (ba r) k.t=o+k.ahead.toNat:=Zwh (d.trans hs) hn hr2
       rw [i2,List.take_add,Zpr,<- i1,hy]
       congr 1
       congr 1
       have hlen:k.ahead.toNat<=(ba p).length:=by
         unfold Seg at d
         have:=congrArg List.length d
         rw [hr2,List.length_take,List.length_drop] at this
         simp at this
         omega
       have hs':=hs
       unfold Seg at hs'
       rw [hs',List.take_take,Nat.min_eq_left hlen,i1]
     . rw [hout z] at hy
       have:=g y hy
       rw [hout (fun w=>by rw [this] at w;cases w.2.1)]
       exact this
theorem Core.done (h:Core c ba ks op it ro pa rt co) {t:Int} (ht:ro t=7) (hk:ks t=[]):Core c ba ks op it (seta ro t 0) pa rt (seta co t none):=by
 have hct:co t≠none:=h.k2 t (.inr ht)
 have hz:∀ j,j≠t->(seta ro t 0 j=ro j/\seta co t none j=co j):=fun j hj=>⟨Zaf hj,Zaf hj⟩
 have hne:∀ {j},seta ro t 0 j≠0->j≠t/\ro j≠0:=fun {j} hj=>by
   have e:j≠t:=by intro e;subst e;rw [Zag] at hj;exact hj rfl
   rw [Zaf e] at hj
   exact ⟨e,hj⟩
 refine ⟨fun j hj=>h.out j (hne hj).2,fun j hj=>?_,fun j hj=>?_,fun j hj=>?_,fun j=>?_,fun j hj=>h.k3 j (hne hj).2,fun j hj=>h.nod j (hne hj).2,fun j hj=>h.ent j (hne hj).2,fun j hj hc e he=>?_,fun j hj hc=>?_,fun j hj=>?_,fun p k hkp=>?_,h.k8⟩
 . by_cases e:j=t
   . subst e;exact ⟨Zag,hk⟩
   . rw [Zaf e] at hj ⊢
     exact h.k0 j hj
 . obtain ⟨e,_⟩:=hne (j:=j) (by omega)
   rw [Zaf e] at hj ⊢
   exact h.k1 j hj
 . obtain ⟨e,_⟩:=hne (j:=j) (by omega)
   rw [Zaf e] at hj ⊢
   exact h.k2 j hj
 . by_cases e:j=t
   . subst e;rw [Zag];omega
   . rw [Zaf e];exact h.rng j
 . obtain ⟨e1,h1⟩:=hne hj
   rw [Zaf e1] at hc
   obtain ⟨a,b,d,f,g⟩:=h.k4 j h1 hc e he
   have e2:e.t≠t:=by intro e2;rw [e2] at f;exact hct f
   rw [Zaf e2,Zaf e2]
   exact ⟨a,b,d,f,g⟩
 . obtain ⟨e1,h1⟩:=hne hj
   rw [Zaf e1] at hc
   obtain ⟨a,b,o⟩:=h.k5 j h1 hc
   have e2:rt j≠t:=by intro e2;rw [e2] at a b;omega
   rw [Zaf e2]
   exact ⟨a,b,o⟩
 . obtain ⟨e,_⟩:=hne (j:=j) (by omega)
   rw [Zaf e] at hj
   exact h.k6 j hj
 . obtain ⟨a,b,d,f,g⟩:=h.k7 p k hkp
   have e2:k.t≠t:=by intro e2;rw [e2] at a;omega
   have e3:p≠t:=by intro e3;rw [e3,hk] at hkp;cases hkp
   rw [Zaf e2,Zaf e2,Zaf e3]
   exact ⟨a,b,d,f,g⟩
theorem Core.tell (h:Core c ba ks op it ro pa rt co) {p:Int} {k:Kid} {rest:List Kid} (hp:ro p=7) (hk:ks p=k::rest):Core c ba (seta ks p rest) op it (seta ro k.t 6) pa rt co:=by
 have hkm:k∈ks p:=by rw [hk];exact List.mem_cons_self ..
 obtain ⟨k5,kpa,kseg,kc1,kc2⟩:=h.k7 p k hkm
 have hcp:co p≠none:=h.k2 p (.inr hp)
 have hck:co k.t≠none:=by
   cases hc:co p with
   | none=>exact (hcp hc).elim
   | some x=>rw [kc2 x hc];simp
 have hnod:=h.k8 p
 rw [hk,List.map_cons,List.nodup_cons] at hnod
 have hz:∀ j,seta ro k.t 6 j≠0↔ro j≠0:=fun j=>by
   by_cases e:j=k.t
   . subst e;rw [Zag];omega
   . rw [Zaf e]
 have hsub:∀ {s:Int} {k':Kid},k'∈seta ks p rest s->k'∈ks s/\k'.t≠k.t:=by
   intro s k' hk'
   by_cases e:s=p
   . subst e
     rw [Zag] at hk'
     refine ⟨by rw [hk];exact List.mem_cons_of_mem _ hk',?_⟩
     intro e2
     exact hnod.1 (by rw [<- e2];exact List.mem_map_of_mem hk')
   . rw [Zaf e] at hk'
     refine ⟨hk',?_⟩
     intro e2
     have:=(h.k7 s k' hk').2.1
     rw [e2,kpa] at this
     exact e this.symm
 refine ⟨fun j hj=>h.out j ((hz j).1 hj),fun j hj=>?_,fun j hj=>?_,fun j hj=>?_,fun j=>?_,fun j hj=>h.k3 j ((hz j).1 hj),fun j hj=>h.nod j ((hz j).1 hj),fun j hj=>h.ent j ((hz j).1 hj),fun j hj hc e he=>?_,fun j hj hc=>?_,fun j hj=>?_,fun s k' hks=>?_,fun s=>?_⟩
 . have h0:ro j=0:=by have:=hz j;omega
   have e:j≠p:=by intro e;subst e;omega
   rw [Zaf e]
   exact h.k0 j h0
 . have e:j≠k.t:=by intro e;subst e;rw [Zag] at hj;omega
   rw [Zaf e] at hj
   exact h.k1 j hj
 . by_cases e:j=k.t
   . subst e;exact hck
   . rw [Zaf e] at hj;exact h.k2 j hj
 . by_cases e:j=k.t
   . subst e;rw [Zag];omega
   . rw [Zaf e];exact h.rng j
 . obtain ⟨a,b⟩:=h.k4 j ((hz j).1 hj) hc e he
   exact ⟨(hz _).2 a,b⟩
 . obtain ⟨a,b,o⟩:=h.k5 j ((hz j).1 hj) hc
   have e:rt j≠k.t:=by intro e;rw [e] at a b;omega
   rw [Zaf e]
   exact ⟨a,b,o⟩
 . have e:j≠k.t:=by intro e;subst e;rw [Zag] at hj;omega
   rw [Zaf e] at hj
   obtain ⟨a,ha⟩:=h.k6 j hj
   refine ⟨a,?_⟩
   by_cases e2:pa j=p
   . rw [e2,Zag]
     rw [e2,hk] at ha
     rcases List.mem_cons.1 ha with h1 | h1
     . exact (e (by rw [<- h1])).elim
     . exact h1
   . rw [Zaf e2];exact ha
 . obtain ⟨h1,h2⟩:=hsub hks
   rw [Zaf h2]
   exact h.k7 s k' h1
 . by_cases e:s=p
   . subst e;rw [Zag];exact hnod.2
   . rw [Zaf e];exact h.k8 s
theorem Core.told (h:Core c ba ks op it ro pa rt co) {t:Int} (ht:ro t=6):Core c ba ks op it (seta ro t 7) pa rt co:=by
 have hct:co t≠none:=h.k2 t (.inl ht)
 have hz:∀ j,seta ro t 7 j≠0↔ro j≠0:=fun j=>by
   by_cases e:j=t
   . subst e;rw [Zag];omega
   . rw [Zaf e]
 refine ⟨fun j hj=>h.out j ((hz j).1 hj),fun j hj=>?_,fun j hj=>?_,fun j hj=>?_,fun j=>?_,fun j hj=>h.k3 j ((hz j).1 hj),fun j hj=>h.nod j ((hz j).1 hj),fun j hj=>h.ent j ((hz j).1 hj),fun j hj hc e he=>?_,fun j hj hc=>?_,fun j hj=>?_,fun s k' hks=>?_,h.k8⟩
 . exact h.k0 j (by have:=hz j;omega)
 . have e:j≠t:=by intro e;subst e;rw [Zag] at hj;omega
   rw [Zaf e] at hj
   exact h.k1 j hj
 . by_cases e:j=t
   . subst e;exact hct
   . rw [Zaf e] at hj;exact h.k2 j hj
 . by_cases e:j=t
   . subst e;rw [Zag];omega
   . rw [Zaf e];exact h.rng j
 . obtain ⟨a,b⟩:=h.k4 j ((hz j).1 hj) hc e he
   exact ⟨(hz _).2 a,b⟩
 . obtain ⟨a,b,o⟩:=h.k5 j ((hz j).1 hj) hc
   have e:rt j≠t:=by intro e;rw [e] at a b;omega
   rw [Zaf e]
   exact ⟨a,b,o⟩
 . have e:j≠t:=by intro e;subst e;rw [Zag] at hj;omega
   rw [Zaf e] at hj
   exact h.k6 j hj
 . obtain ⟨a,b⟩:=h.k7 s k' hks
   have e:k'.t≠t:=by intro e;rw [e] at a;omega
   rw [Zaf e]
   exact ⟨a,b⟩
theorem Core.invoke (h:Core c ba ks op it ro pa rt co) {t i:Int} {o:Op} (ht:ro t=0) (hin:InT c t) :
   Core c (seta ba t [⟨t,o⟩]) ks (seta op t o) (seta it t i) (seta ro t 1) pa (seta rt t t) co:=by
 obtain ⟨ct,kt⟩:=h.k0 t ht
 have hb:∀ {j},seta ro t 1 j≠0->j≠t->ro j≠0:=fun {j} hj e=>by rwa [Zaf e] at hj
 have ntr:∀ {j},ro j≠0->co j=none->rt j≠t:=fun {j} hj hc e=>by
   have:=(h.k5 j hj hc).1
   rw [e] at this
   omega
 refine ⟨fun j hj=>?_,fun j hj=>?_,fun j hj=>?_,fun j hj=>?_,fun j=>?_,fun j hj=>?_,fun j hj=>?_,fun j hj e he=>?_,fun j hj hc e he=>?_,fun j hj hc=>?_,fun j hj=>?_,fun s k hk=>?_,h.k8⟩
 . by_cases e:j=t
   . subst e;exact hin
   . exact h.out j (hb hj e)
 . have e:j≠t:=by intro e;subst e;rw [Zag] at hj;omega
   rw [Zaf e] at hj
   exact h.k0 j hj
 . by_cases e:j=t
   . subst e;rw [Zag];exact ⟨ct,rfl⟩
   . rw [Zaf e] at hj ⊢;exact h.k1 j hj
 . have e:j≠t:=by intro e;subst e;rw [Zag] at hj;omega
   rw [Zaf e] at hj
   exact h.k2 j hj
 . by_cases e:j=t
   . subst e;rw [Zag];omega
   . rw [Zaf e];exact h.rng j
 . by_cases e:j=t
   . subst e;rw [Zag,Zag];exact ⟨[],rfl⟩
   . rw [Zaf e,Zaf e];exact h.k3 j (hb hj e)
 . by_cases e:j=t
   . subst e;rw [Zag];simp
   . rw [Zaf e];exact h.nod j (hb hj e)
 . by_cases e1:j=t
   . subst e1
     rw [Zag,List.mem_singleton] at he
     subst he
     exact hin
   . rw [Zaf e1] at he;exact h.ent j (hb hj e1) e he
 . by_cases e1:j=t
   . subst e1
     rw [Zag,List.mem_singleton] at he
     subst he
     show seta ro j 1 j≠0/\seta op j o j=o/\seta it j i j=seta it j i j/\co j=none/\seta rt j j j=seta rt j j j
     rw [Zag,Zag]
     exact ⟨by omega,rfl,rfl,ct,rfl⟩
   . rw [Zaf e1] at he
     obtain ⟨a,b,d,f,g⟩:=h.k4 j (hb hj e1) hc e he
     have e2:e.t≠t:=by intro e2;rw [e2] at a;exact a ht
     rw [Zaf e2,Zaf e2,Zaf e2,Zaf e2,Zaf e1,Zaf e1]
     exact ⟨a,b,d,f,g⟩
 . by_cases e1:j=t
   . subst e1
     rw [Zag,Zag]
     exact ⟨by omega,by omega,0,Seg.refl _⟩
   . obtain ⟨a,b,s,hs⟩:=h.k5 j (hb hj e1) hc
     have e2:=ntr (hb hj e1) hc
     rw [Zaf e1,Zaf e2,Zaf e2,Zaf e1]
     exact ⟨a,b,s,hs⟩
 . have e:j≠t:=by intro e;subst e;rw [Zag] at hj;omega
   rw [Zaf e] at hj
   exact h.k6 j hj
 . obtain ⟨a,b,d,f,g⟩:=h.k7 s k hk
   have e1:k.t≠t:=by intro e;rw [e] at a;omega
   have e2:s≠t:=by intro e;exact h.kids_busy hk (by rw [e];exact ht)
   rw [Zaf e1,Zaf e1,Zaf e1,Zaf e2,Zaf e2]
   exact ⟨a,b,d,f,g⟩
end
end Go.Proofs.Mill
namespace Go.Proofs.Mill
def One (m n:Memo):Prop:=(∃ a w,n={ m with words:=m.words.set a w })\/(∃ i b,n={ m with boxes:=m.boxes.set i b })\/n=m
theorem One.refl (m:Memo):One m m:=.inr (.inr rfl)
theorem One.word (m:Memo) (a:Nat) (w:Int):One m { m with words:=m.words.set a w }:=.inl ⟨a,w,rfl⟩
theorem One.box (m:Memo) (i:Nat) (b:List Entry):One m { m with boxes:=m.boxes.set i b }:=.inr (.inl ⟨i,b,rfl⟩)
theorem One.same {m n k:Memo} (h:One m n) (e:k=n):One m k:=e ▸ h
theorem Zlr (u:Turn):(Zcj u).m=u.m:=by unfold Zcj;split <;> rfl
theorem ZAg (u:Turn):(ZfN u).m=u.m:=by
                                                      unfold ZfN;repeat' split
                                                      all_goals rfl
theorem ZBK (u:Turn) (w:Int):(ZhJ u w).m=u.m:=by
                                                                unfold ZhJ;repeat' split
                                                                all_goals rfl
theorem Zzs (u:Turn):(Zen u).m=u.m:=by unfold Zen;split <;> rfl
theorem Zsc (u:Turn):(Zdy u).m=u.m:=by unfold Zdy;split <;> rfl
theorem Zw9 (u:Turn):One u.m (Zca u).1.m:=by
 unfold Zca
 split
 . exact (One.word u.m _ 0).same (ZAg _)
 . exact One.refl _
theorem Zxf (u:Turn):One u.m (Zb4 u).1.m:=by
 unfold Zb4
 split
 . show One u.m (if _ then _ else _:Turn).m
   split <;> exact One.refl _
 split
 . exact (One.refl u.m).same (Zlr _)
 split
 . show One u.m (if _ then _ else _:Turn).m
   split
   . exact One.refl _
   . split
     . exact One.refl _
     . exact One.word u.m _ _
 split
 . show One u.m (if _ then _ else _:Turn).m
   split
   . exact One.refl _
   . split
     . exact One.refl _
     . exact (One.word u.m _ _).same (Zlr _)
 exact One.refl _
theorem Zvr (u:Turn):One u.m (ZbV u).1.m:=by
 unfold ZbV
 split
 . show One u.m (Zef u).m
   unfold Zef
   split
   . exact (One.word u.m _ _).same (Zlr _)
   . exact One.refl _
 split
 . show One u.m (if _ then _ else _:Turn).m
   split
   . exact (One.refl u.m).same (Zlr _)
   . split
     . exact (One.refl u.m).same (Zsc _)
     . exact One.refl _
 exact One.refl _
theorem ZxF (u:Turn):One u.m (Zcs u).1.m:=by
 unfold Zcs
 split
 . show One u.m (if _ then _ else _:Turn).m
   split
   . exact One.refl _
   . exact (One.refl u.m).same (ZBK _ _)
 split
 . show One u.m (if _ then _ else _:Turn).m
   split
   . exact One.refl _
   . split
     . exact (One.word u.m _ _).same (Zzs _)
     . exact One.refl _
 split
 . show One u.m (if _ then _ else _:Turn).m
   split
   . exact One.refl _
   . split
     . exact One.word u.m _ _
     . exact One.refl _
 exact One.refl _
theorem Zvn (u:Turn):One u.m (Zci u).1.m:=by
 unfold Zci
 repeat' split
 all_goals first
   | exact One.refl _
   | exact One.word u.m _ _
   | exact One.box u.m _ _
theorem ZtA (u:Turn):One u.m (ZbY u).1.m:=by
 unfold ZbY
 split
 . exact One.box u.m _ _
 split
 . exact One.word u.m _ _
 split
 . show One u.m (swapT u).m
   unfold swapT
   repeat' split
   all_goals first | exact One.refl _ | exact One.word u.m _ _
 split
 . show One u.m (ZbW u u.t 21 13).m
   unfold ZbW
   repeat' split
   all_goals first | exact One.refl _ | exact One.word u.m _ _
 split
 . show One u.m (ZbW u u.th.who 22 24).m
   unfold ZbW
   repeat' split
   all_goals first | exact One.refl _ | exact One.word u.m _ _
 split
 . show One u.m (ZfS u).m
   unfold ZfS
   split <;> exact One.refl _
 split
 . show One u.m (Zja u).m
   unfold Zja
   repeat' split
   all_goals exact One.refl _
 split
 . exact One.word u.m _ _
 split
 . show One u.m (Zhd u).m
   unfold Zhd
   split
   . exact (One.word u.m _ _).same (Zsc _)
   . exact One.refl _
 exact One.refl _
theorem ZtE (u:Turn):One u.m (ZaR u).m:=by
 unfold ZaR
 split
 . exact One.refl _
 split
 . exact Zw9 (begT u)
 split
 . exact Zxf (begT u)
 split
 . exact Zvr (begT u)
 split
 . exact ZxF (begT u)
 split
 . exact Zvn (begT u)
 split
 . exact ZtA (begT u)
 exact One.refl _
end Go.Proofs.Mill
namespace Go.Proofs.Mill
end Go.Proofs.Mill
namespace Go.Proofs.Mill
def ZeO (c:Config):Nat->List Int
 | 0=>List.replicate (sizeOf c).toNat 0
 | k+1=>(ZeO c k).set ((k:Int)*Zaz c).toNat c.init
theorem Zgg (c:Config):∀ k,(ZeO c k).length=(sizeOf c).toNat
 | 0=>by simp [ZeO]
 | k+1=>by simp [ZeO,Zgg c k]
theorem ZmX {c:Config} (h:Num c.init):∀ k,∀ n∈ZeO c k,Num n
 | 0 => by
   intro n hn
   have:=List.eq_of_mem_replicate hn
   subst this
   exact ⟨by omega,by omega⟩
 | k + 1 => by
   intro n hn
   rcases List.mem_or_eq_of_mem_set hn with h1 | rfl
   . exact ZmX h k n h1
   . exact h
theorem ZlO {c:Config} (h:CfgOK c):1<=sizeOf c/\sizeOf c<=192:=by
 have:=Za8 h
 have:=h.threads
 unfold sizeOf
 omega
theorem Zmh {c:Config} (h:CfgOK c) {i:Int} (h0:0<=i) (h1:i<c.items):0<=i*Zaz c/\i*Zaz c<Za0 c/\i*Zaz c<sizeOf c:=by
 have a:=Zdv h (i:=i+1) (by omega) (by omega)
 have b:=ZcJ h
 have c1:=Zdv h (i:=i) h0 (by omega)
 have e:(i+1)*Zaz c=i*Zaz c+Zaz c:=by rw [Int.add_mul,Int.one_mul]
 have:=h.threads
 unfold sizeOf
 omega
theorem Zp8 {c:Config} (h:CfgOK c):∀ (k:Nat),(k:Int)<=c.items->∀ j:Nat,j<k->(ZeO c k).getD ((j:Int)*Zaz c).toNat 0=c.init
 | 0,_,j,hj=>by omega
 | k + 1, hk, j, hj => by
   have hk':=Zmh h (i:=(k:Int)) (by omega) (by omega)
   unfold ZeO
   rw [List.getD_eq_getElem?_getD]
   by_cases e:j=k
   . subst e
     rw [List.getElem?_set_self (by rw [Zgg];omega),Option.getD_some]
   . have hb:=ZcJ h
     have hne:((k:Int)*Zaz c).toNat≠((j:Int)*Zaz c).toNat:=by
       intro e2
       have hj':=Zmh h (i:=(j:Int)) (by omega) (by omega)
       have e3:(k:Int)*Zaz c=(j:Int)*Zaz c:=by omega
       have:=Int.eq_of_mul_eq_mul_right (by omega) e3
       omega
     rw [List.getElem?_set_ne hne,<- List.getD_eq_getElem?_getD]
     exact Zp8 h k (by omega) j (by omega)
def Zc2 (c:Config):Memo:=⟨ZeO c c.items.toNat,List.replicate c.threads.toNat []⟩
theorem Zu0 {c:Config} (h:CfgOK c):ZjV c=some (Zc2 c):=by
 have hs:=ZlO h
 have ht:=h.threads
 have hi:=h.items
 have hl:=Za8 h
 unfold ZjV
 have e1:ZkD c=some (sizeOf c):=by
   show Zkx c=_
   unfold Zkx
   simp only [Zcl,ZiP h]
   rw [Zas (n:=(2:Int)*c.threads) (by omega) (by omega),Zas (by omega) (by omega)]
   rfl
 have e2:ZmO (sizeOf c,c.threads)=some ⟨List.replicate (sizeOf c).toNat 0,List.replicate c.threads.toNat []⟩:=by
   show ZmZ _ _=_
   simp only [ZmZ,ZhM,Zlg,Zem,Zgd,Zat,beq_self_eq_true,cond_true]
   rw [if_neg (show ¬sizeOf c<1 by omega),if_neg (show ¬sizeOf c>10000 by omega),if_pos (show 0<=sizeOf c by omega),if_pos (show sizeOf c<=Zbt by unfold Zbt;omega),
     if_neg (show ¬c.threads<1 by omega),if_neg (show ¬c.threads>10000 by omega),if_pos (show 0<=c.threads by omega),if_pos (show c.threads<=Zbt by unfold Zbt;omega)]
 simp only [e1,e2]
 have hw:Zld (c,⟨[],[]⟩,⟨List.replicate (sizeOf c).toNat 0,List.replicate c.threads.toNat []⟩,c.items,0)=some (⟨[],[]⟩,Zc2 c):=by
   have h0:=ZeL (step:=Zf3) (fun k=>(c,⟨[],[]⟩,(⟨ZeO c k,List.replicate c.threads.toNat []⟩:Memo),c.items,(k:Int))) c.items.toNat (y:=(⟨[],[]⟩,Zc2 c)) (fun k hk=>?_) ?_
   . exact h0
   . show ZeH _ _ _ _ _=_
     unfold ZeH
     have hkc:=Zmh h (i:=(k:Int)) (by omega) (by omega)
     have hcell:ZcM (c,(k:Int))=some ((k:Int)*Zaz c):=by
       show Zgj _ _=_
       rw [Zkl h]
       unfold cellAt
       rw [if_neg (by omega)]
     simp only [Zat,hcell]
     rw [if_pos (by omega),if_pos hkc.1,if_pos (by rw [Zgg];omega),Zas (by omega) (by omega)]
     rfl
   . show ZeH _ _ _ _ _=_
     unfold ZeH
     simp only [Zat]
     rw [if_neg (by omega)]
     rfl
 rw [hw]
theorem ZwY (d t:Int) (h0:0<=d) (h1:d<=4):∃ y,Ze8 d t=some y:=by
 unfold Ze8
 simp only [Zat]
 by_cases h:d<1
 . exact ⟨0,by rw [if_pos h]⟩
 . rw [if_neg h,Zas (n:=d-1) (by omega) (by omega),if_neg (by omega)]
   exact ⟨_,rfl⟩
def Zl0 (c:Config) (t:Int):Int:=(Ze8 c.depth t).getD 0
theorem Zv9 {c:Config} (h:CfgOK c) (t:Int):Ze8 c.depth t=some (Zl0 c t):=by
 obtain ⟨y,hy⟩:=ZwY c.depth t h.depth.1 h.depth.2
 rw [Zl0,hy];rfl
def Zji (c:Config) (t item:Int) (op:Op) (now w:Int):Thread :=
 ⟨1,item,op,[⟨t,op⟩],[],[],0,Zl0 c t,0,0,0,w,0,0,0,if c.wait>0 then Zac .i64 (now+c.wait) else 0⟩
theorem Zuz {c:Config} (h:CfgOK c) (t:Int) (th:Thread) (item:Int) (op:Op) (now:Int):ZiH c t th item op now=some (Zji c t item op now th.width):=by
 unfold ZiH Zji
 simp only [ZkA,Zv9 h,Zat]
 by_cases e:c.wait>0
 . rw [if_pos e,if_pos e]
 . rw [if_neg e,if_neg e]
end Go.Proofs.Mill
