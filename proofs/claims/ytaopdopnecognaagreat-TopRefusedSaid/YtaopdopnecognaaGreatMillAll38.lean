/- Parts of the proof: MillQCfg, MillQTurn, MillQBase, MillQClimb, MillQMachine, MillQGather, MillQGather2, MillQCollide, MillQApply, MillQStep, MillQCore, MillQMOne, MillQMLogs, MillQStart. -/
import Derived.Test.YtaopdopnecognaaGreatMillP0
import Derived.Test.YtaopdopnecognaaGreatMillPShown19
import Derived.Test.YtaopdopnecognaaGreatMillAll4
import Derived.KernelRfl
set_option linter.all false
noncomputable section
/- Configs, places, words. -/
namespace Go.Proofs.Mill
structure CfgOK (c:Config):Prop where
  threads:1<=c.threads/\c.threads<=16
  items:1<=c.items/\c.items<=4
  backend:1<=c.backend/\c.backend<=3
  depth:0<=c.depth/\c.depth<=4
  layers:0<=c.layers/\c.layers<=3
  width:1<=c.width/\c.width<=8
  spin:0<=c.spin/\c.spin<=20
  wait:0<=c.wait/\c.wait<=1000
  bounds:c.bounded=true->c.lo<=c.init/\c.init<=c.hi
theorem ZhH (c:Config):∃ e,ZdY c=some e/\(e=0↔CfgOK c):=by
 unfold ZdY
 simp only [Zaw]
 by_cases h0:c.threads<1
 . exact ⟨50,by rw [if_pos h0],by simp,fun h=>by have:=h.threads;omega⟩
 rw [if_neg h0]
 by_cases h1:c.threads>16
 . exact ⟨50,by rw [if_pos h1],by simp,fun h=>by have:=h.threads;omega⟩
 rw [if_neg h1]
 by_cases h2:c.items<1
 . exact ⟨51,by rw [if_pos h2],by simp,fun h=>by have:=h.items;omega⟩
 rw [if_neg h2]
 by_cases h3:c.items>4
 . exact ⟨51,by rw [if_pos h3],by simp,fun h=>by have:=h.items;omega⟩
 rw [if_neg h3]
 by_cases h4:c.backend<1
 . exact ⟨52,by rw [if_pos h4],by simp,fun h=>by have:=h.backend;omega⟩
 rw [if_neg h4]
 by_cases h5:c.backend>3
 . exact ⟨52,by rw [if_pos h5],by simp,fun h=>by have:=h.backend;omega⟩
 rw [if_neg h5]
 by_cases h6:c.depth<0
 . exact ⟨53,by rw [if_pos h6],by simp,fun h=>by have:=h.depth;omega⟩
 rw [if_neg h6]
 by_cases h7:c.depth>4
 . exact ⟨53,by rw [if_pos h7],by simp,fun h=>by have:=h.depth;omega⟩
 rw [if_neg h7]
 by_cases h8:c.layers<0
 . exact ⟨54,by rw [if_pos h8],by simp,fun h=>by have:=h.layers;omega⟩
 rw [if_neg h8]
 by_cases h9:c.layers>3
 . exact ⟨54,by rw [if_pos h9],by simp,fun h=>by have:=h.layers;omega⟩
 rw [if_neg h9]
 by_cases h10:c.width<1
 . exact ⟨55,by rw [if_pos h10],by simp,fun h=>by have:=h.width;omega⟩
 rw [if_neg h10]
 by_cases h11:c.width>8
 . exact ⟨55,by rw [if_pos h11],by simp,fun h=>by have:=h.width;omega⟩
 rw [if_neg h11]
 by_cases h12:c.spin<0
 . exact ⟨56,by rw [if_pos h12],by simp,fun h=>by have:=h.spin;omega⟩
 rw [if_neg h12]
 by_cases h13:c.spin>20
 . exact ⟨56,by rw [if_pos h13],by simp,fun h=>by have:=h.spin;omega⟩
 rw [if_neg h13]
 by_cases h14:c.wait<0
 . exact ⟨57,by rw [if_pos h14],by simp,fun h=>by have:=h.wait;omega⟩
 rw [if_neg h14]
 by_cases h15:c.wait>1000
 . exact ⟨57,by rw [if_pos h15],by simp,fun h=>by have:=h.wait;omega⟩
 rw [if_neg h15]
 cases hb:c.bounded with
 | false=>exact ⟨0,rfl,fun _=>⟨by omega,by omega,by omega,by omega,by omega,by omega,by omega,by omega,fun h=>by rw [hb] at h;cases h⟩,fun _=>rfl⟩
 | true =>
   simp only [cond_true]
   by_cases k1:c.lo>c.init
   . exact ⟨58,by rw [if_pos k1],by simp,fun h=>by have:=h.bounds hb;omega⟩
   rw [if_neg k1]
   by_cases k2:c.init>c.hi
   . exact ⟨58,by rw [if_pos k2],by simp,fun h=>by have:=h.bounds hb;omega⟩
   rw [if_neg k2]
   exact ⟨0,rfl,fun _=>⟨by omega,by omega,by omega,by omega,by omega,by omega,by omega,by omega,fun _=>by omega⟩,fun _=>rfl⟩
end Go.Proofs.Mill
/- Turns, and whether two of them are alike. -/
namespace Go.Proofs.Mill
structure Sm (n:Nat) (u:Turn):Prop where
  words:u.m.words.length<=n
  boxes:u.m.boxes.length<=n
  box:∀ b∈u.m.boxes,b.length<=n
  batch:u.th.batch.length<=n
  kids:u.th.kids.length<=n
  held:u.th.held.length<=n
  tape:u.tape.l.length<=n
  log:u.log.length<=n
end Go.Proofs.Mill
/- Configs, places, words. -/
namespace Go.Proofs.Mill
def Zaz (c:Config):Int:=if c.depth=0 then 0 else if c.depth=1 then 1 else if c.depth=2 then 3 else if c.depth=3 then 7 else 15
def Zay (c:Config):Int:=1+Zaz c+c.layers*c.width
def Za1 (c:Config):Int:=c.items*Zay c
def sizeOf (c:Config):Int:=Za1 c+2*c.threads
theorem ZCa {c:Config} (h:CfgOK c):c.depth=0\/c.depth=1\/c.depth=2\/c.depth=3\/c.depth=4:=by have:=h.depth;omega
theorem Zbx (c:Config):0<=Zaz c/\Zaz c<=15:=by
 unfold Zaz
 repeat' split
 all_goals omega
theorem Zf8 {c:Config} (h:CfgOK c):0<=c.layers*c.width/\c.layers*c.width<=24:=by
 have h1:=h.layers
 have h2:=h.width
 have:c.layers=0\/c.layers=1\/c.layers=2\/c.layers=3:=by omega
 rcases this with e | e | e | e <;> rw [e] <;> omega
theorem ZdB {c:Config} (h:CfgOK c):1<=Zay c/\Zay c<=40:=by
 have h1:=Zf8 h
 have h2:=Zbx c
 unfold Zay
 omega
theorem Zda {c:Config} (h:CfgOK c) {i:Int} (h0:0<=i) (h1:i<=c.items):0<=i*Zay c/\i*Zay c<=Za1 c:=by
 have hb:=ZdB h
 refine ⟨Int.mul_nonneg h0 (by omega),Int.mul_le_mul_of_nonneg_right h1 (by omega)⟩
theorem Za9 {c:Config} (h:CfgOK c):1<=Za1 c/\Za1 c<=160:=by
 have hb:=ZdB h
 have h1:=h.items
 unfold Za1
 have:c.items=1\/c.items=2\/c.items=3\/c.items=4:=by omega
 rcases this with e | e | e | e <;> rw [e] <;> omega
theorem Zo9 {c:Config} (h:CfgOK c):ZjA c=some (Zaz c):=by
 unfold ZjA Zaz
 rcases ZCa h with e | e | e | e | e <;> rw [e] <;> rfl
theorem ZiO {c:Config} (h:CfgOK c):Zmz c=some ⟨1,1+Zaz c,Zay c,Za1 c⟩:=by
 have h1:=Zf8 h
 have h2:=Zbx c
 have h3:=ZdB h
 have h4:=Za9 h
 simp only [Zmz,ZfG,Zo9 h]
 rw [Zat (n:=1+Zaz c) (by omega) (by omega),Zat (n:=c.layers*c.width) (by omega) (by omega),Zat (n:=1+Zaz c+c.layers*c.width) (by omega) (by omega),
   show c.items*(1+Zaz c+c.layers*c.width)=Za1 c from rfl,Zat (n:=Za1 c) (by omega) (by omega)]
 rfl
def nodeAt (c:Config) (item n:Int):Int:=if item<0\/item>=c.items\/n<1\/n>Zaz c then -1 else item*Zay c+n
theorem ZjD {c:Config} (h:CfgOK c) (item n:Int) (h0:nodeAt c item n≠-1):0<=nodeAt c item n/\nodeAt c item n<Za1 c/\0<=item/\item<c.items/\1<=n/\n<=Zaz c/\nodeAt c item n=item*Zay c+n:=by
 unfold nodeAt at h0 ⊢
 split at h0
 . exact (h0 rfl).elim
 rename_i hc
 rw [if_neg hc]
 have h1:=Zda h (i:=item) (by omega) (by omega)
 have h2:=Zda h (i:=item+1) (by omega) (by omega)
 have h3:(item+1)*Zay c=item*Zay c+Zay c:=by rw [Int.add_mul,Int.one_mul]
 have h4:=Zbx c
 have h5:=Zf8 h
 have h6:Zay c=1+Zaz c+c.layers*c.width:=rfl
 omega
theorem ZmE {c:Config} (h:CfgOK c) (item n:Int):Zkt c item n=some (nodeAt c item n):=by
 have h6:=Zbx c
 simp only [Zkt,Zaw,ZfG,Zo9 h,Zcm,ZiO h]
 rw [Zat (n:=1+Zaz c) (by omega) (by omega)]
 unfold nodeAt
 by_cases h1:item<0
 . simp [h1]
 by_cases h2:item>=c.items
 . simp [h1,h2]
 by_cases h3:n<1
 . simp [h1,h2,h3]
 by_cases h4:n>Zaz c
 . have h4':n>=1+Zaz c:=by omega
   simp [h1,h2,h3,h4,h4']
 have h4':¬n>=1+Zaz c:=by omega
 simp only [if_neg h1,if_neg h2,if_neg h3,if_neg h4',h1,h2,h3,h4,or_self]
 have h5:=Zda h (i:=item) (by omega) (by omega)
 have h7:=Za9 h
 rw [Zat (n:=item*Zay c) (by omega) (by omega),Zat (by omega) (by omega)]
 rfl
theorem ZqU {t:Int} (h0 : -1<=t) (h1:t<=1000):ZkP t=some (8*(t+1)+1):=by
 simp only [ZkP,ZbM,Zdi]
 rw [Zat (n:=t+1) (by omega) (by omega),Zat (n:=8*(t+1)) (by omega) (by omega),Zat (by omega) (by omega)]
theorem Zva {t:Int} (h0 : -1<=t) (h1:t<=1000):Zjv t=some (8*(t+1)+2):=by
 simp only [Zjv,ZbM,Zdi]
 rw [Zat (n:=t+1) (by omega) (by omega),Zat (n:=8*(t+1)) (by omega) (by omega),Zat (by omega) (by omega)]
def Zb1 (w:Int):Int := if w=0 then 0 else if w=5 then 5 else if 1<=w % 8/\w % 8<=3/\0<=w / 8-1/\w / 8-1<16 then w % 8 else if w % 8=4/\0<=(w / 8-1) / 16/\(w / 8-1) / 16<4/\1<=(w / 8-1) % 16/\(w / 8-1) % 16<=3 then 4 else -1
theorem Zvu (w:Int) (k:Nat) (hk:k<=64):((BitVec.ofInt 64 w &&& BitVec.ofInt 64 (2 ^ k-1)).toNat:Int)=w % (2 ^ k):=by
 have h1:(BitVec.ofInt 64 ((2:Int) ^ k-1)).toNat=2 ^ k-1:=by
   rw [BitVec.toNat_ofInt]
   have hp:(1:Nat)<=2 ^ k:=Nat.one_le_two_pow
   have hq:2 ^ k<=2 ^ 64:=Nat.pow_le_pow_right (by omega) hk
   have e:((2:Int) ^ k-1)=((2 ^ k-1:Nat):Int):=by
     rw [Int.natCast_sub hp]
     simp
   rw [e]
   have:((2 ^ k-1:Nat):Int) % ((2 ^ 64:Nat):Int)=((2 ^ k-1:Nat):Int):=by
     rw [<- Int.natCast_emod,Nat.mod_eq_of_lt (by omega)]
   rw [this]
   rfl
 rw [BitVec.toNat_and,h1,Nat.and_two_pow_sub_one_eq_mod,BitVec.toNat_ofInt,Int.natCast_emod]
 have h2:0<=w % ((2 ^ 64:Nat):Int):=Int.emod_nonneg _ (by decide)
 rw [Int.toNat_of_nonneg h2]
 have h3:((2 ^ k:Nat):Int)∣((2 ^ 64:Nat):Int):=by
   exact Int.natCast_dvd_natCast.2 (Nat.pow_dvd_pow 2 hk)
 rw [Int.emod_emod_of_dvd _ h3]
 simp
theorem and7 (w:Int):((BitVec.ofInt IntKind.i64.bits w &&& BitVec.ofInt IntKind.i64.bits (7:Int)).toNat:Int)=w % 8:=by
 have:=Zvu w 3 (by omega)
 exact this
theorem ZC5 (w:Int):((BitVec.ofInt IntKind.i64.bits w &&& BitVec.ofInt IntKind.i64.bits (15:Int)).toNat:Int)=w % 16:=by
 have:=Zvu w 4 (by omega)
 exact this
theorem shr3 (w:Int):w.fdiv ((2:Int) ^ min (Int.toNat (3:Int)) IntKind.i64.bits)=w / 8:=by
 rw [show ((2:Int) ^ min (Int.toNat (3:Int)) IntKind.i64.bits)=8 from rfl,Int.fdiv_eq_ediv_of_nonneg _ (by omega)]
theorem shr4 (w:Int):w.fdiv ((2:Int) ^ min (Int.toNat (4:Int)) IntKind.i64.bits)=w / 16:=by
 rw [show ((2:Int) ^ min (Int.toNat (4:Int)) IntKind.i64.bits)=16 from rfl,Int.fdiv_eq_ediv_of_nonneg _ (by omega)]
theorem shr1 (w:Int):w.fdiv ((2:Int) ^ min (Int.toNat (1:Int)) IntKind.i64.bits)=w / 2:=by
 rw [show ((2:Int) ^ min (Int.toNat (1:Int)) IntKind.i64.bits)=2 from rfl,Int.fdiv_eq_ediv_of_nonneg _ (by omega)]
def Znl (w:Int):Said := if w % 8=5/\w / 8-1=-1 then ⟨5,-1⟩ else if 1<=w % 8/\w % 8<=3/\0<=w / 8-1/\w / 8-1<16 then ⟨w % 8,w / 8-1⟩ else if w % 8=4/\0<=(w / 8-1) / 16/\(w / 8-1) / 16<4/\1<=(w / 8-1) % 16/\(w / 8-1) % 16<=3 then ⟨w % 8,w / 8-1⟩ else ⟨0,0⟩
theorem ZvO {w:Int} (h0 : -9223372036854775808<=w) (h1:w<=9223372036854775807):Znk w=some (Znl w):=by
 simp only [Znk,and7,shr3]
 rw [Zat (n:=w % 8) (by omega) (by omega),Zat (n:=w / 8-1) (by omega) (by omega)]
 simp only [ZC5,shr4]
 rw [Zat (n:=(w / 8-1) % 16) (by omega) (by omega)]
 unfold Znl
 by_cases e5:w % 8=5/\w / 8-1=-1
 . simp [e5]
 rw [if_neg e5]
 have e5':(w % 8 == 5 && (w / 8-1 == -1 && true))=false:=by
   simp only [Bool.and_true,Bool.and_eq_false_imp,beq_iff_eq,beq_eq_false_iff_ne]
   intro a b
   exact e5 ⟨a,b⟩
 rw [e5',cond_false]
 simp only [Zaw,ge_iff_le]
 have hb:∀ (α:Type) (x y:α),(bif w % 8 == 4 then x else y)=if w % 8=4 then x else y:=by
   intro α x y
   by_cases h:w % 8=4
   . simp [h]
   . rw [if_neg h,show (w % 8 == 4)=false by simpa using h]
     rfl
 simp only [hb]
 repeat' split
 all_goals first | rfl | (exfalso;omega)
theorem Zsp {w:Int} (h0 : -9223372036854775808<=w) (h1:w<=9223372036854775807):Zls w=some (Zb1 w):=by
 simp only [Zls,Zjj,ZvO h0 h1]
 unfold Zb1 Znl
 by_cases e0:w=0
 . subst e0;rfl
 have e0':(w == 0)=false:=by simpa using e0
 rw [e0',cond_false,if_neg e0]
 by_cases e5:w=5
 . subst e5;rfl
 rw [if_neg e5,if_neg (by omega)]
 by_cases e1:1<=w % 8/\w % 8<=3/\0<=w / 8-1/\w / 8-1<16
 . rw [if_pos e1,if_pos e1]
   have:(w % 8 == 0)=false:=by simp;omega
   simp only [this,Bool.false_and,Bool.not_false,cond_true]
 rw [if_neg e1,if_neg e1]
 by_cases e4:w % 8=4/\0<=(w / 8-1) / 16/\(w / 8-1) / 16<4/\1<=(w / 8-1) % 16/\(w / 8-1) % 16<=3
 . rw [if_pos e4,if_pos e4,e4.1]
   rfl
 . rw [if_neg e4,if_neg e4]
   rfl
end Go.Proofs.Mill
/- Turns that climb. -/
namespace Go.Proofs.Mill
structure Big (u:Turn):Prop where
  words:u.m.words.length<=400
  boxes:u.m.boxes.length<=16
  box:∀ b∈u.m.boxes,b.length<=20
  batch:u.th.batch.length<=20
  kids:u.th.kids.length<=20
  held:u.th.held.length<=20
  tape:u.tape.l.length<=100
  log:u.log.length<=50
theorem Big.sm {u:Turn} (h:Big u) {n:Nat} (hn:400<=n):Sm n u :=
 ⟨Nat.le_trans h.words hn,Nat.le_trans h.boxes (by omega),fun b hb=>Nat.le_trans (h.box b hb) (by omega),Nat.le_trans h.batch (by omega),Nat.le_trans h.kids (by omega),Nat.le_trans h.held (by omega),
  Nat.le_trans h.tape (by omega),Nat.le_trans h.log (by omega)⟩
structure May (u:Turn):Prop where
  cfg:CfgOK u.c
  t:0<=u.t/\u.t<u.c.threads
  words:(u.m.words.length:Int)=sizeOf u.c
  boxes:(u.m.boxes.length:Int)=u.c.threads
  item:0<=u.th.item/\u.th.item<u.c.items
def Num (n:Int):Prop:=-9223372036854775808<=n/\n<=9223372036854775807
theorem ZaR {a b:Int} (h:a≠b):(a == b)=false:=by simpa using h
theorem Zbg {a b:Int} (h:a=b):(a == b)=true:=by simpa using h
theorem ZgB {a b:Int} (h:a=b):(a != b)=false:=by simp [h]
theorem Zha {a b:Int} (h:a≠b):(a != b)=true:=by simpa using h
def ZsW (u:Turn):Turn:={ u with th:={ u.th with phase:=if 0<=u.th.at_/\u.th.at_<(u.th.held.length:Int) then 7 else if u.th.stop>0 then 11 else 2 } }
theorem ZpV (u:Turn):ZkG u=some (ZsW u):=by
 simp only [ZkG,Zaw,ZsW,ge_iff_le]
 repeat' split
 all_goals first | rfl | (exfalso;omega)
def ZpY (u:Turn):Turn:=ZsW { u with th:={ u.th with at_:=0 } }
theorem Zmt (u:Turn):ZkL u=some (ZpY u):=by simp only [ZkL,Zgb,ZpV,ZpY]
def Late (u:Turn):Prop:=0<u.th.until_/\u.th.until_<=u.now
instance (u:Turn):Decidable (Late u):=inferInstanceAs (Decidable (_/\_))
theorem Zll (u:Turn):ZjS u=some (decide (Late u)):=by
 simp only [ZjS,Zaw]
 by_cases h:0<u.th.until_
 . rw [if_pos h];simp [Late,h]
 . rw [if_neg h];simp [Late,h]
abbrev Za3 (u:Turn) (a:Int):Int:=u.m.words.getD a.toNat 0
def ZhN (u:Turn) (w:Int):Turn := if Zb1 w=1 then { u with th:={ u.th with phase:=6,x:=w } } else if Zb1 w=0 then { u with th:={ u.th with phase:=5 } } else if Late u then ZpY u else u
def Zeq (u:Turn):Turn := if u.th.node / 2>0 then { u with th:={ u.th with held:=u.th.held++[u.th.node],node:=u.th.node / 2 } } else ZpY { u with th:={ u.th with held:=u.th.held++[u.th.node],node:=u.th.node / 2 } }
def ZoC (u:Turn):Turn:=ZpY { u with th:={ u.th with stop:=u.th.node } }
abbrev ZcB (u:Turn):Int:=nodeAt u.c u.th.item u.th.node
abbrev Zjr (u:Turn) (a w:Int):Turn:={ u with m:={ u.m with words:=u.m.words.set a.toNat w },th:={ u.th with phase:=4 } }
def Zcs (u:Turn):Turn×Bool := if u.th.phase=4 then (if ZcB u=-1 then u else ZhN u (Za3 u (ZcB u)),true) else if u.th.phase=5 then (if ZcB u=-1 then u else if Za3 u (ZcB u)=0 then Zeq (Zjr u (ZcB u) (8*(u.t+1)+1)) else { u with th:={ u.th with phase:=4 } },true) else if u.th.phase=6 then (if ZcB u=-1 then u else if Za3 u (ZcB u)=u.th.x then ZoC (Zjr u (ZcB u) (8*(u.t+1)+2)) else { u with th:={ u.th with phase:=4 } },true) else (u,false)
structure Fit (u:Turn):Prop where
  cfg:CfgOK u.c
  t:0<=u.t/\u.t<u.c.threads
  words:(u.m.words.length:Int)=sizeOf u.c
  nums:∀ n∈u.m.words,Num n
  held:u.th.held.length<=4294967295
theorem Fit.node {u:Turn} (h:Fit u) (h0:ZcB u≠-1):0<=ZcB u/\ZcB u<(u.m.words.length:Int)/\1<=u.th.node/\u.th.node<=15:=by
 obtain ⟨h1,h2,_,_,h5,h6,_⟩:=ZjD h.cfg _ _ h0
 have h3:=h.words
 have h4:=h.cfg.threads
 have h7:=Zbx u.c
 unfold sizeOf at h3
 exact ⟨h1,by show nodeAt _ _ _<_;omega,h5,by omega⟩
theorem Fit.len {u:Turn} (h:Fit u):u.m.words.length<=192:=by
 have h1:=Za9 h.cfg
 have h2:=h.cfg.threads
 have h3:=h.words
 unfold sizeOf at h3
 omega
theorem Fit.word {u:Turn} (h:Fit u) (h0:ZcB u≠-1):Num (Za3 u (ZcB u)):=by
 obtain ⟨h1,h2,_⟩:=h.node h0
 have hlt:(ZcB u).toNat<u.m.words.length:=by omega
 show Num (u.m.words.getD _ _)
 rw [List.getD_eq_getElem?_getD,List.getElem?_eq_getElem hlt,Option.getD_some]
 exact h.nums _ (List.getElem_mem hlt)
theorem Zfo {l:List Int} {a:Int} (h0:0<=a) (h1:a<(l.length:Int)):ZfB l a=some (l.getD a.toNat 0,0):=by
 simp only [ZfB,Zaw]
 rw [if_neg (by omega),if_neg (by omega),if_pos h0,if_pos h1]
theorem ZgY {l:List Int} {a:Int} (h:a<0\/a>=(l.length:Int)):ZfB l a=some (0,30):=by
 simp only [ZfB,Zaw]
 rcases h with h | h
 . rw [if_pos h]
 . by_cases h1:a<0
   . rw [if_pos h1]
   . rw [if_neg h1,if_pos h]
theorem Zld {l:List Int} (h:l.length<=4294967296):Zdx l=some l:=by
 simp only [Zdx,Nat.zero_add,Zbv h,cond_true]
theorem ZeP {m:Memo} {a o v:Int} (h0:0<=a) (h1:a<(m.words.length:Int)) (hl:m.words.length<=4294967296) :
   Zh4 m a o v=some (if m.words.getD a.toNat 0=o then { m with words:=m.words.set a.toNat v } else m,decide (m.words.getD a.toNat 0=o),0):=by
 simp only [Zh4,ZbD,Zfo h0 h1,bne_self_eq_false,cond_false,Zby,Zld hl,Zaw,if_pos h0,if_pos h1]
 by_cases e:m.words.getD a.toNat 0=o
 . rw [Zbg e,cond_true,if_pos e,decide_eq_true e]
 . rw [ZaR e,cond_false,if_neg e,decide_eq_false e]
theorem ZhX {m:Memo} {a o v:Int} (h:a<0\/a>=(m.words.length:Int)):Zh4 m a o v=some (m,false,30):=by
 simp only [Zh4,ZbD,ZgY h]
 rfl
theorem Zwy {u:Turn} {w:Int} (h:Num w):Zkl u w=some (ZhN u w):=by
 simp only [Zkl,ZgS,Zsp h.1 h.2,ZdQ,Zll,Zej,Zmt]
 unfold ZhN
 by_cases h1:Zb1 w=1
 . rw [Zbg h1,cond_true,if_pos h1]
 rw [ZaR h1,cond_false,if_neg h1]
 by_cases h2:Zb1 w=0
 . rw [Zbg h2,cond_true,if_pos h2]
 rw [ZaR h2,cond_false,if_neg h2]
 by_cases h3:Late u
 . rw [if_pos h3,decide_eq_true h3];rfl
 . rw [if_neg h3,decide_eq_false h3];rfl
theorem ZuY {u:Turn} (h:u.th.held.length<=4294967295) (h1:1<=u.th.node):ZjE u=some (Zeq u):=by
 have e:(if (0:Int)>u.th.node then (0:Int) else u.th.node)=u.th.node:=if_neg (by omega)
 have hf:fewB (u.th.held.length+1)=true:=Zbv (by omega)
 simp only [ZjE,Zby,Zld (show u.th.held.length<=4294967296 by omega),List.length_cons,List.length_nil,Nat.zero_add,hf,cond_true,ZiM,ZlH,e,shr1,Zaw,Zej,Zmt]
 unfold Zeq
 split <;> rfl
theorem Zum (u:Turn):ZiR u=some (ZoC u):=by
 simp only [ZiR,Zej,Zmt,ZoC]
theorem Zv8 {u:Turn} (h:Fit u):ZkA u=some (Zcs u):=by
 have ht:=h.cfg.threads
 have h1:=h.t
 have hl:=h.len
 simp only [ZkA,Zek,ZmE h.cfg,Ze7,ZqU (t:=u.t) (by omega) (by omega),ZjG,Zva (t:=u.t) (by omega) (by omega),ZbY,ZfN,ZbD,ZcN]
 unfold Zcs
 by_cases p4:u.th.phase=4
 . rw [Zbg p4,cond_true,if_pos p4]
   by_cases hn:ZcB u=-1
   . rw [ZgY (.inl (by show ZcB u<0;omega)),if_pos hn]
     rfl
   . obtain ⟨n0,n1,_⟩:=h.node hn
     rw [Zfo n0 n1,if_neg hn]
     simp only [bne_self_eq_false,cond_false,Zkx]
     rw [Zwy (h.word hn)]
 rw [ZaR p4,cond_false,if_neg p4]
 by_cases p6:u.th.phase=6
 . rw [Zbg p6,cond_true,if_neg (by omega),if_pos p6]
   by_cases hn:ZcB u=-1
   . rw [ZhX (.inl (by show ZcB u<0;omega)),if_pos hn]
     rfl
   . obtain ⟨n0,n1,_⟩:=h.node hn
     rw [ZeP n0 n1 (by omega),if_neg hn]
     simp only [bne_self_eq_false,cond_false,Zix,Zum]
     by_cases e:Za3 u (ZcB u)=u.th.x
     . rw [decide_eq_true e,cond_true,if_pos e,if_pos e]
     . rw [decide_eq_false e,cond_false,if_neg e,if_neg e]
 rw [ZaR p6,cond_false]
 by_cases p5:u.th.phase=5
 . rw [Zbg p5,cond_true,if_pos p5]
   by_cases hn:ZcB u=-1
   . rw [ZhX (.inl (by show ZcB u<0;omega)),if_pos hn]
     rfl
   . obtain ⟨n0,n1,n2,n3⟩:=h.node hn
     rw [ZeP n0 n1 (by omega),if_neg hn]
     simp only [bne_self_eq_false,cond_false,Zjy]
     by_cases e:Za3 u (ZcB u)=0
     . rw [decide_eq_true e,cond_true,if_pos e,if_pos e,ZuY (by exact h.held) (by exact n2)]
     . rw [decide_eq_false e,cond_false,if_neg e,if_neg e]
 rw [ZaR p5,cond_false,if_neg p5,if_neg p6]
end Go.Proofs.Mill
/- A machine that is shown; one that is idle. -/
namespace Go.Proofs.Mill
end Go.Proofs.Mill
/- A thread that gathers: what its step makes of a turn. -/
namespace Go.Proofs.Mill
theorem Zvo {n:Int} (h:n<=4294967296):n<=Zbz:=by unfold Zbz;exact h
theorem ZyY {n:Int} (h0:0<=n) (h1:n<=4294967296):Zei () n=some []:=by
 have e:Zad IntKind.i64 (n-Zad IntKind.i64 (0-0))=n:=by
   rw [Zat (n:=0-0) (by omega) (by omega),Zat (by omega) (by omega)];omega
 simp only [Zei,Zaw,e]
 rw [if_neg (by omega),if_pos h0,if_pos (Zvo h1)]
 split <;> rfl
theorem ZvY {n:Int} (h0:0<=n) (h1:n<=4294967296):Zd7 () n=some []:=by
 have e:Zad IntKind.i64 (n-Zad IntKind.i64 (0-0))=n:=by
   rw [Zat (n:=0-0) (by omega) (by omega),Zat (by omega) (by omega)];omega
 simp only [Zd7,Zaw,e]
 rw [if_neg (by omega),if_pos h0,if_pos (Zvo h1)]
 split <;> rfl
theorem Zv3 {a b:List Kid} (h:a.length+b.length<=4294967296):ZdT (a::b::[])=some (a++b):=by
 have h3:Zdn (a::b::[],0,a::b::[],2,0)=some (a::b::[],(a.length:Int)+b.length):=by
   unfold Zdn
   rw [Zca]
   simp only [ZbK,Zcz,Zaw,List.length_cons,List.length_nil]
   rw [if_pos (by omega),if_pos (by omega),if_pos (by omega),show ((0:Int).toNat)=0 from rfl,List.getD_cons_zero,Zat (n:=0+(a.length:Int)) (by omega) (by omega),if_neg (by omega),Zat (n:=0+1) (by omega) (by omega)]
   simp only
   rw [Zca]
   simp only [ZbK,Zcz,Zaw,List.length_cons,List.length_nil]
   rw [if_pos (by omega),if_pos (by omega),if_pos (by omega),show ((0+1:Int).toNat)=1 from rfl,List.getD_cons_succ,List.getD_cons_zero,Zat (n:=0+(a.length:Int)+(b.length:Int)) (by omega) (by omega),if_neg (by omega),Zat (n:=0+1+1) (by omega) (by omega)]
   simp only
   rw [Zca]
   simp only [ZbK,Zcz,Zaw,List.length_cons,List.length_nil]
   rw [if_neg (by omega),Int.zero_add]
 have h11:Zdd ([],a::b::[],2,0)=some (a++b):=by
   unfold Zdd
   rw [Zca]
   simp only [ZbF,Zco,Zaw,List.length_cons,List.length_nil]
   rw [if_pos (by omega),if_pos (by omega),if_pos (by omega),show ((0:Int).toNat)=0 from rfl,List.getD_cons_zero,Zbv (by omega),Zat (n:=0+1) (by omega) (by omega)]
   simp only [cond_true,List.nil_append]
   rw [Zca]
   simp only [ZbF,Zco,Zaw,List.length_cons,List.length_nil]
   rw [if_pos (by omega),if_pos (by omega),if_pos (by omega),show ((0+1:Int).toNat)=1 from rfl,List.getD_cons_succ,List.getD_cons_zero,Zbv (by omega),Zat (n:=0+1+1) (by omega) (by omega)]
   simp only [cond_true]
   rw [Zca]
   simp only [ZbF,Zco,Zaw,List.length_cons,List.length_nil]
   rw [if_neg (by omega)]
 have e2:(((a::b::([]:List (List Kid))).length:Nat):Int)=2:=rfl
 simp only [ZdT,e2,h3,Zeo,ZyY (n:=(a.length:Int)+b.length) (by omega) (by omega),h11]
theorem ZtC {a b:List Entry} (h:a.length+b.length<=4294967296):Zdz (a::b::[])=some (a++b):=by
 have h3:Zdc (a::b::[],0,a::b::[],2,0)=some (a::b::[],(a.length:Int)+b.length):=by
   unfold Zdc
   rw [Zca]
   simp only [ZbI,Zcp,Zaw,List.length_cons,List.length_nil]
   rw [if_pos (by omega),if_pos (by omega),if_pos (by omega),show ((0:Int).toNat)=0 from rfl,List.getD_cons_zero,Zat (n:=0+(a.length:Int)) (by omega) (by omega),if_neg (by omega),Zat (n:=0+1) (by omega) (by omega)]
   simp only
   rw [Zca]
   simp only [ZbI,Zcp,Zaw,List.length_cons,List.length_nil]
   rw [if_pos (by omega),if_pos (by omega),if_pos (by omega),show ((0+1:Int).toNat)=1 from rfl,List.getD_cons_succ,List.getD_cons_zero,Zat (n:=0+(a.length:Int)+(b.length:Int)) (by omega) (by omega),if_neg (by omega),Zat (n:=0+1+1) (by omega) (by omega)]
   simp only
   rw [Zca]
   simp only [ZbI,Zcp,Zaw,List.length_cons,List.length_nil]
   rw [if_neg (by omega),Int.zero_add]
 have h11:Zc5 ([],a::b::[],2,0)=some (a++b):=by
   unfold Zc5
   rw [Zca]
   simp only [ZbB,Zcl,Zaw,List.length_cons,List.length_nil]
   rw [if_pos (by omega),if_pos (by omega),if_pos (by omega),show ((0:Int).toNat)=0 from rfl,List.getD_cons_zero,Zbv (by omega),Zat (n:=0+1) (by omega) (by omega)]
   simp only [cond_true,List.nil_append]
   rw [Zca]
   simp only [ZbB,Zcl,Zaw,List.length_cons,List.length_nil]
   rw [if_pos (by omega),if_pos (by omega),if_pos (by omega),show ((0+1:Int).toNat)=1 from rfl,List.getD_cons_succ,List.getD_cons_zero,Zbv (by omega),Zat (n:=0+1+1) (by omega) (by omega)]
   simp only [cond_true]
   rw [Zca]
   simp only [ZbB,Zcl,Zaw,List.length_cons,List.length_nil]
   rw [if_neg (by omega)]
 have e2:(((a::b::([]:List (List Entry))).length:Nat):Int)=2:=rfl
 simp only [Zdz,e2,h3,Zd8,ZvY (n:=(a.length:Int)+b.length) (by omega) (by omega),h11]
def Zqy (u:Turn) (who:Int) (b:List Entry):Turn:={ u with th:={ u.th with batch:=u.th.batch++b,kids:=u.th.kids++[⟨who,u.th.batch.length⟩] } }
theorem Zpf {u:Turn} {who:Int} {b:List Entry} (h1:u.th.batch.length+b.length<=4294967296) (h2:u.th.kids.length+1<=4294967296):Zjw u who b=some (Zqy u who b):=by
 simp only [Zjw,ZdR,Zv3 (a:=u.th.kids) (b:=[⟨who,u.th.batch.length⟩]) (by simpa using h2),ZkD,Znp,ZdA,ZtC h1]
 rfl
theorem who3 {w:Int} (h:Num w) (hk:Zb1 w=3):ZmI w=some (w / 8-1):=by
 have hb:1<=w % 8/\w % 8<=3/\0<=w / 8-1/\w / 8-1<16:=by
   unfold Zb1 at hk
   split at hk
   . omega
   split at hk
   . omega
   split at hk
   . assumption
   . split at hk <;> omega
 have hs:Znl w=⟨w % 8,w / 8-1⟩:=by
   unfold Znl
   rw [if_neg (by omega),if_pos hb]
 simp only [ZmI,Zjj,ZvO h.1 h.2,hs,Zaw]
 rw [if_pos (by omega),if_pos (by omega)]
def Zbj (u:Turn):Int:=if u.th.at_<0\/u.th.at_>=(u.th.held.length:Int) then -1 else nodeAt u.c u.th.item (u.th.held.getD u.th.at_.toNat 0)
theorem Zu6 {u:Turn} (h:CfgOK u.c):Zju u=some (Zbj u):=by
 simp only [Zju,Zaw,Zek,ZmE h,Zbj]
 by_cases h1:u.th.at_<0
 . rw [if_pos h1,if_pos (.inl h1)]
 by_cases h2:u.th.at_>=(u.th.held.length:Int)
 . rw [if_neg h1,if_pos h2,if_pos (.inr h2)]
 rw [if_neg h1,if_neg h2,if_pos (by omega),if_pos (by omega),if_neg (by omega)]
def Zoq (u:Turn):Turn:=ZsW { u with th:={ u.th with at_:=Zad IntKind.i64 (u.th.at_+1) } }
theorem Zvc (u:Turn):ZjM u=some (Zoq u):=by simp only [ZjM,Zgb,ZpV,Zoq]
abbrev setW (u:Turn) (a w:Int):Turn:={ u with m:={ u.m with words:=u.m.words.set a.toNat w } }
def Zcg (u:Turn):Turn×Bool := if u.th.phase=7 then (if Zbj u=-1 then u else if Za3 u (Zbj u)=8*(u.t+1)+1 then { u with th:={ u.th with phase:=8 } } else if Zb1 (Za3 u (Zbj u))=3 then { u with th:={ u.th with phase:=9,who:=Za3 u (Zbj u) / 8-1 } } else u,true) else if u.th.phase=8 then (if Zbj u=-1 then u else if Za3 u (Zbj u)=8*(u.t+1)+1 then Zoq (setW u (Zbj u) 0) else { u with th:={ u.th with phase:=7 } },true) else if u.th.phase=9 then (if u.th.who<0\/u.th.who>=(u.m.boxes.length:Int) then u else { Zqy u u.th.who (u.m.boxes.getD u.th.who.toNat []) with th:={ (Zqy u u.th.who (u.m.boxes.getD u.th.who.toNat [])).th with phase:=10 } },true) else if u.th.phase=10 then (if Zbj u=-1 then u else Zoq (setW u (Zbj u) 0),true) else if u.th.phase=11 then ({ u with m:={ u.m with boxes:=u.m.boxes.set u.t.toNat u.th.batch },th:={ u.th with phase:=12 } },true) else if u.th.phase=12 then (if nodeAt u.c u.th.item u.th.stop=-1 then u else { setW u (nodeAt u.c u.th.item u.th.stop) (8*(u.t+1)+3) with th:={ u.th with phase:=13 } },true) else (u,false)
structure FitG (u:Turn):Prop where
  cfg:CfgOK u.c
  t:0<=u.t/\u.t<u.c.threads
  words:(u.m.words.length:Int)=sizeOf u.c
  boxes:(u.m.boxes.length:Int)=u.c.threads
  nums:∀ n∈u.m.words,Num n
  batch:u.th.batch.length<=1000000
  kids:u.th.kids.length<=1000000
  box:∀ b∈u.m.boxes,b.length<=1000000
theorem FitG.node {u:Turn} (h:FitG u) {i n:Int} (h0:nodeAt u.c i n≠-1):0<=nodeAt u.c i n/\nodeAt u.c i n<(u.m.words.length:Int):=by
 obtain ⟨h1,h2,_⟩:=ZjD h.cfg _ _ h0
 have h3:=h.words
 have h4:=h.cfg.threads
 unfold sizeOf at h3
 omega
theorem FitG.held {u:Turn} (h:FitG u) (h0:Zbj u≠-1):0<=Zbj u/\Zbj u<(u.m.words.length:Int):=by
 unfold Zbj at h0 ⊢
 split at h0
 . exact (h0 rfl).elim
 . rename_i hc
   rw [if_neg hc]
   exact h.node h0
theorem FitG.len {u:Turn} (h:FitG u):u.m.words.length<=192:=by
 have h1:=Za9 h.cfg
 have h2:=h.cfg.threads
 have h3:=h.words
 unfold sizeOf at h3
 omega
theorem FitG.word {u:Turn} (h:FitG u) {a:Int} (h1:0<=a) (h2:a<(u.m.words.length:Int)):Num (Za3 u a):=by
 have hlt:a.toNat<u.m.words.length:=by omega
 show Num (u.m.words.getD _ _)
 rw [List.getD_eq_getElem?_getD,List.getElem?_eq_getElem hlt,Option.getD_some]
 exact h.nums _ (List.getElem_mem hlt)
theorem FitG.boxLen {u:Turn} (h:FitG u) (i:Nat):(u.m.boxes.getD i ([]:List Entry)).length<=1000000:=by
 rw [List.getD_eq_getElem?_getD]
 cases hb:u.m.boxes[i]? with
 | none=>simp
 | some b=>exact h.box b (List.mem_of_getElem? hb)
theorem ZiZ {l:List Entry} (h:l.length<=4294967296):ZcO l=some l:=by
 simp only [ZcO,Nat.zero_add,Zbv h,cond_true]
theorem ZuJ {l:List (List Entry)} (h:l.length<=4294967296):Zdu l=some l:=by
 simp only [Zdu,Nat.zero_add,Zbv h,cond_true]
theorem ZdW {m:Memo} {a v:Int} (h0:0<=a) (h1:a<(m.words.length:Int)) (hl:m.words.length<=4294967296) :
   Zf3 m a v=some ({ m with words:=m.words.set a.toNat v },0):=by
 simp only [Zf3,ZbD,Zfo h0 h1,bne_self_eq_false,cond_false,Zby,Zld hl,Zaw,if_pos h0,if_pos h1]
theorem Zgu {m:Memo} {a v:Int} (h:a<0\/a>=(m.words.length:Int)):Zf3 m a v=some (m,30):=by
 simp only [Zf3,ZbD,ZgY h]
 rfl
theorem ZoW {m:Memo} {a:Int} (h0:0<=a) (h1:a<(m.boxes.length:Int)) (hl:(m.boxes.getD a.toNat ([]:List Entry)).length<=4294967296) :
   ZhP m a=some (m.boxes.getD a.toNat [],0):=by
 simp only [ZhP,Zcf,Zci,Zaw]
 rw [if_neg (by omega),if_neg (by omega),if_pos h0,if_pos h1]
 simp only [Zbk,ZiZ hl]
theorem ZnT {m:Memo} {a:Int} (h:a<0\/a>=(m.boxes.length:Int)):ZhP m a=some ([],30):=by
 have e:Zci m.boxes a=some ([],30):=by
   simp only [Zci,Zaw]
   rcases h with h | h
   . rw [if_pos h]
   . by_cases h1:a<0
     . rw [if_pos h1]
     . rw [if_neg h1,if_pos h]
 simp only [ZhP,Zcf,e,Zbk,ZiZ (l:=[]) (by simp)]
theorem ZoX {m:Memo} {a:Int} {b:List Entry} (h0:0<=a) (h1:a<(m.boxes.length:Int)) (hl:m.boxes.length<=4294967296) (hb:b.length<=4294967296) :
   Zl5 m a b=some ({ m with boxes:=m.boxes.set a.toNat b },0):=by
 have e:Zci m.boxes a=some (m.boxes.getD a.toNat [],0):=by
   simp only [Zci,Zaw]
   rw [if_neg (by omega),if_neg (by omega),if_pos h0,if_pos h1]
 simp only [Zl5,Zcf,e,bne_self_eq_false,cond_false,ZdC,ZuJ hl,Zbk,ZiZ hb,Zaw,if_pos h0,if_pos h1]
theorem Zrz {t:Int} (h0 : -1<=t) (h1:t<=1000):Zhn t=some (8*(t+1)+3):=by
 simp only [Zhn,ZbM,Zdi]
 rw [Zat (n:=t+1) (by omega) (by omega),Zat (n:=8*(t+1)) (by omega) (by omega),Zat (by omega) (by omega)]
theorem ZuU {u:Turn} (h:FitG u):ZjQ u=some (Zcg u):=by
 have ht:=h.cfg.threads
 have h1:=h.t
 have hl:=h.len
 have hb:=h.boxes
 have hbt:=h.batch
 have hkd:=h.kids
 simp only [ZjQ,ZjV,ZmP,ZjI,Zm0,Zhp,Zkm,ZjH,ZmX,Zhw,Zky,Zht,Zkw,
   Zfs,Zu6 h.cfg,Ze7,ZqU (t:=u.t) (by omega) (by omega),Zhm,Zrz (t:=u.t) (by omega) (by omega),Zek,ZmE h.cfg,ZbY,ZfN,ZbD,ZcN,Zb8,Zia,ZhR,Zhd,Zvc]
 unfold Zcg
 by_cases p7:u.th.phase=7
 . rw [Zbg p7,cond_true,if_pos p7]
   by_cases hn:Zbj u=-1
   . rw [ZgY (.inl (by omega)),if_pos hn]
     rfl
   . obtain ⟨n0,n1⟩:=h.held hn
     rw [Zfo n0 n1,if_neg hn]
     simp only [bne_self_eq_false,cond_false]
     by_cases e:Za3 u (Zbj u)=8*(u.t+1)+1
     . rw [Zbg e,if_pos e];rfl
     . rw [ZaR e,if_neg e]
       simp only [cond_false,ZgS,Zsp (h.word n0 n1).1 (h.word n0 n1).2]
       by_cases k:Zb1 (Za3 u (Zbj u))=3
       . rw [Zbg k,if_pos k]
         simp only [cond_true,ZmG,who3 (h.word n0 n1) k]
       . rw [ZaR k,if_neg k];rfl
 rw [ZaR p7,cond_false,if_neg p7]
 by_cases p8:u.th.phase=8
 . rw [Zbg p8,cond_true,if_pos p8]
   by_cases hn:Zbj u=-1
   . rw [ZhX (.inl (by omega)),if_pos hn]
     rfl
   . obtain ⟨n0,n1⟩:=h.held hn
     rw [ZeP n0 n1 (by omega),if_neg hn]
     simp only [bne_self_eq_false,cond_false]
     by_cases e:Za3 u (Zbj u)=8*(u.t+1)+1
     . rw [decide_eq_true e,if_pos e,if_pos e];rfl
     . rw [decide_eq_false e,if_neg e,if_neg e];rfl
 rw [ZaR p8,cond_false,if_neg p8]
 by_cases p9:u.th.phase=9
 . rw [Zbg p9,cond_true,if_pos p9]
   by_cases hn:u.th.who<0\/u.th.who>=(u.m.boxes.length:Int)
   . rw [ZnT hn,if_pos hn]
     rfl
   . have hbl:=h.boxLen u.th.who.toNat
     rw [ZoW (by omega) (by omega) (by omega),if_neg hn]
     simp only [bne_self_eq_false,cond_false,Zfw]
     rw [Zpf (by omega) (by omega)]
 rw [ZaR p9,cond_false,if_neg p9]
 by_cases p10:u.th.phase=10
 . rw [Zbg p10,cond_true,if_pos p10]
   by_cases hn:Zbj u=-1
   . rw [Zgu (.inl (by omega)),if_pos hn]
     rfl
   . obtain ⟨n0,n1⟩:=h.held hn
     rw [ZdW n0 n1 (by omega),if_neg hn]
     rfl
 rw [ZaR p10,cond_false,if_neg p10]
 by_cases p11:u.th.phase=11
 . rw [Zbg p11,cond_true,if_pos p11,ZoX (by omega) (by omega) (by omega) (by omega)]
   rfl
 rw [ZaR p11,cond_false,if_neg p11]
 by_cases p12:u.th.phase=12
 . rw [Zbg p12,cond_true,if_pos p12]
   by_cases hn:nodeAt u.c u.th.item u.th.stop=-1
   . rw [Zgu (.inl (by omega)),if_pos hn]
     rfl
   . obtain ⟨n0,n1⟩:=h.node hn
     rw [ZdW n0 n1 (by omega),if_neg hn]
     rfl
 rw [ZaR p12,cond_false,if_neg p12]
end Go.Proofs.Mill
/- A thread that gathers: what the laws share. -/
namespace Go.Proofs.Mill
theorem Sm.same {n:Nat} {u v:Turn} (h:Sm n u) (hw:v.m.words.length=u.m.words.length) (hb:v.m.boxes=u.m.boxes) (h1:v.th.batch=u.th.batch) (h2:v.th.kids=u.th.kids) (h3:v.th.held=u.th.held) (h4:v.tape=u.tape) (h5:v.log=u.log):Sm n v :=
 ⟨by rw [hw];exact h.words,by rw [hb];exact h.boxes,by rw [hb];exact h.box,by rw [h1];exact h.batch,by rw [h2];exact h.kids,by rw [h3];exact h.held,by rw [h4];exact h.tape,by rw [h5];exact h.log⟩
theorem FitG.of {u v:Turn} (h:FitG u) (hc:v.c=u.c) (ht:v.t=u.t) (hl:v.m.words.length=u.m.words.length) (hn:∀ n∈v.m.words,Num n) (hb:v.m.boxes=u.m.boxes) (h1:v.th.batch=u.th.batch) (h2:v.th.kids=u.th.kids):FitG v :=
 ⟨by rw [hc];exact h.cfg,by rw [hc,ht];exact h.t,by rw [hc,hl];exact h.words,by rw [hb,hc];exact h.boxes,hn,by rw [h1];exact h.batch,by rw [h2];exact h.kids,by rw [hb];exact h.box⟩
end Go.Proofs.Mill
/- A thread in a funnel: what its step makes of a turn. -/
namespace Go.Proofs.Mill
def ZaZ (c:Config) (t:Int):Int:=if t<0\/t>=c.threads then -1 else Za1 c+2*t
def ZfF (c:Config) (item layer i:Int):Int :=
 if item<0\/item>=c.items\/layer<1\/layer>c.layers\/i<0\/i>=c.width then -1 else item*Zay c+(1+Zaz c)+(layer-1)*c.width+i
theorem ZjW {c:Config} (h:CfgOK c) {t:Int} (h0:ZaZ c t≠-1):Za1 c<=ZaZ c t/\ZaZ c t<sizeOf c/\0<=t/\t<c.threads/\ZaZ c t=Za1 c+2*t:=by
 have h1:=Za9 h
 unfold ZaZ at h0 ⊢
 unfold sizeOf
 split at h0
 . exact (h0 rfl).elim
 . rename_i hc
   rw [if_neg hc]
   omega
theorem Zdy {c:Config} (h:CfgOK c) {t:Int} (h0:0<=t) (h1:t<c.threads):ZaZ c t=Za1 c+2*t/\Za1 c<=ZaZ c t/\ZaZ c t<sizeOf c:=by
 unfold ZaZ sizeOf
 rw [if_neg (by omega)]
 omega
theorem Zii {c:Config} (h:CfgOK c) {layer:Int} (h0:1<=layer) (h1:layer<=c.layers):0<=(layer-1)*c.width/\(layer-1)*c.width+c.width<=c.layers*c.width:=by
 have h2:=h.width
 refine ⟨Int.mul_nonneg (by omega) (by omega),?_⟩
 have h3:(layer-1)*c.width=layer*c.width-c.width:=by rw [Int.sub_mul,Int.one_mul]
 have h4:=Int.mul_le_mul_of_nonneg_right h1 (show 0<=c.width by omega)
 omega
theorem ZmL {c:Config} (h:CfgOK c) {item layer i:Int} (h0:ZfF c item layer i≠-1) :
   0<=ZfF c item layer i/\ZfF c item layer i<Za1 c/\(0<=item/\item<c.items)/\(1<=layer/\layer<=c.layers)/\(0<=i/\i<c.width) /\
   ZfF c item layer i=item*Zay c+(1+Zaz c)+(layer-1)*c.width+i:=by
 unfold ZfF at h0 ⊢
 split at h0
 . exact (h0 rfl).elim
 rename_i hc
 rw [if_neg hc]
 have h1:=Zda h (i:=item) (by omega) (by omega)
 have h2:=Zda h (i:=item+1) (by omega) (by omega)
 have h3:(item+1)*Zay c=item*Zay c+Zay c:=by rw [Int.add_mul,Int.one_mul]
 have h4:=Zbx c
 have h6:Zay c=1+Zaz c+c.layers*c.width:=rfl
 have h7:=Zii h (layer:=layer) (by omega) (by omega)
 omega
theorem Zj5 {c:Config} (h:CfgOK c) (t:Int):Zkz c t=some (ZaZ c t):=by
 have h1:=Za9 h
 have h2:=h.threads
 simp only [Zkz,Zaw,Zcm,ZiO h]
 unfold ZaZ
 by_cases a:t<0
 . rw [if_pos a,if_pos (.inl a)]
 by_cases b:t>=c.threads
 . rw [if_neg a,if_pos b,if_pos (.inr b)]
 rw [if_neg a,if_neg b,if_neg (by omega),Zat (n:=2*t) (by omega) (by omega),Zat (by omega) (by omega)]
theorem Zxh {c:Config} (h:CfgOK c) (item layer i:Int):ZkM c item layer i=some (ZfF c item layer i):=by
 have h1:=Za9 h
 have h4:=Zbx c
 have h5:=h.layers
 have h6:=h.width
 have h8:=Zf8 h
 have h9:=ZdB h
 simp only [ZkM,Zaw,Zcm,ZiO h]
 rw [Zat (n:=1+c.layers) (by omega) (by omega)]
 unfold ZfF
 by_cases a1:item<0
 . simp [a1]
 by_cases a2:item>=c.items
 . simp [a1,a2]
 by_cases a3:layer<1
 . simp [a1,a2,a3]
 by_cases a4:layer>c.layers
 . have a4':layer>=1+c.layers:=by omega
   simp [a1,a2,a3,a4,a4']
 have a4':¬layer>=1+c.layers:=by omega
 by_cases a5:i<0
 . simp [a1,a2,a3,a4,a4',a5]
 by_cases a6:i>=c.width
 . simp [a1,a2,a3,a4,a4',a5,a6]
 rw [if_neg a1,if_neg a2,if_neg a3,if_neg a4',if_neg a5,if_neg a6,if_neg (by omega)]
 have h7:=Zii h (layer:=layer) (by omega) (by omega)
 have h3:=Zda h (i:=item) (by omega) (by omega)
 rw [Zat (n:=item*Zay c) (by omega) (by omega),Zat (n:=item*Zay c+(1+Zaz c)) (by omega) (by omega),
   Zat (n:=layer-1) (by omega) (by omega),Zat (n:=(layer-1)*c.width) (by omega) (by omega),Zat (n:=item*Zay c+(1+Zaz c)+(layer-1)*c.width) (by omega) (by omega),Zat (by omega) (by omega)]
theorem ZxZ {i l:Int} (h0:0<=i) (h1:i<=1000) (h2:0<=l) (h3:l<=1000):ZiX i l=some (8*(16*i+l+1)+4):=by
 simp only [ZiX,ZbM,Zdi]
 rw [show i*(2:Int) ^ min (Int.toNat (4:Int)) IntKind.i64.bits=16*i from Int.mul_comm i 16,Zat (n:=16*i) (by omega) (by omega),Zat (n:=16*i+l) (by omega) (by omega),Zat (n:=16*i+l+1) (by omega) (by omega),Zat (n:=8*(16*i+l+1)) (by omega) (by omega),Zat (by omega) (by omega)]
def Zey (t:Tape):Int×Tape:=if t.at_<0\/t.at_>=(t.l.length:Int) then (0,t) else (t.l.getD t.at_.toNat 0,{ t with at_:=Zad .i64 (t.at_+1) })
def Zfu (t:Tape) (n:Int):Int×Tape :=
 if n<1 then (0,t) else (if (Zey t).1.tmod n<0 then Zad .i64 ((Zey t).1.tmod n+n) else (Zey t).1.tmod n,(Zey t).2)
theorem Zyw {t:Tape} (h:Num t.at_) (hl:t.l.length<=4294967296):ZgN t=some (Zey t):=by
 have e:Zg2 t=some (if t.at_<0\/t.at_>=(t.l.length:Int) then 0 else (t.l.length:Int)-t.at_):=by
   simp only [Zg2,Zaw]
   have h1:=h.2
   by_cases a:t.at_<0
   . rw [if_pos a,if_pos (show t.at_<0\/t.at_>=(t.l.length:Int) from .inl a)]
   by_cases b:t.at_>=(t.l.length:Int)
   . rw [if_neg a,if_pos (show t.at_<0\/t.at_>=(t.l.length:Int) from .inr b),Zat (n:=(t.l.length:Int)-t.at_) (by omega) (by omega),if_neg (by omega)]
   . rw [if_neg a,Zat (n:=(t.l.length:Int)-t.at_) (by omega) (by omega),if_pos (show (t.l.length:Int)-t.at_>0 by omega),if_neg (show ¬(t.at_<0\/t.at_>=(t.l.length:Int)) by omega)]
 simp only [ZgN,ZfI,e,Zaw]
 unfold Zey
 by_cases c:t.at_<0\/t.at_>=(t.l.length:Int)
 . simp only [if_pos c]
   rfl
 . simp only [if_neg c]
   rw [if_pos (show (t.l.length:Int)-t.at_>0 by omega),if_pos (show (0:Int)<=t.at_ by omega),if_pos (show t.at_<(t.l.length:Int) by omega)]
theorem ZvX {t:Tape} (n:Int) (h:Num t.at_) (hl:t.l.length<=4294967296):Zj9 t n=some (Zfu t n):=by
 simp only [Zj9,Zaw,Zly,Zyw h hl]
 unfold Zfu
 by_cases a:n<1
 . rw [if_pos a,if_pos a]
 rw [if_neg a,if_neg (by omega),if_neg a]
 split <;> rfl
theorem Zt2 {m:Memo} {a v:Int} (h0:0<=a) (h1:a<(m.words.length:Int)) (hl:m.words.length<=4294967296) :
   Zg0 m a v=some ({ m with words:=m.words.set a.toNat v },m.words.getD a.toNat 0,0):=by
 simp only [Zg0,ZbD,Zfo h0 h1,bne_self_eq_false,cond_false,Zby,Zld hl,Zaw,if_pos h0,if_pos h1]
theorem ZsH {m:Memo} {a v:Int} (h:a<0\/a>=(m.words.length:Int)):Zg0 m a v=some (m,0,30):=by
 simp only [Zg0,ZbD,ZgY h]
 rfl
def Zdl (u:Turn):Turn :=
 if u.th.layer<u.c.layers/\¬Late u then { u with th:={ u.th with phase:=17,layer:=Zad .i64 (u.th.layer+1) } } else { u with th:={ u.th with phase:=2 } }
theorem ZmM (u:Turn):Zh2 u=some (Zdl u):=by
 simp only [Zh2,ZdQ,Zll,Zaw]
 unfold Zdl
 have e:decide (Late { u with th:={ u.th with phase:=2 } })=decide (Late u):=rfl
 by_cases a:u.th.layer<u.c.layers
 . rw [if_pos a,e]
   by_cases b:Late u
   . rw [decide_eq_true b,if_neg (fun h=>h.2 b)];rfl
   . rw [decide_eq_false b,if_pos ⟨a,b⟩];rfl
 . rw [if_neg a,if_neg (fun h=>a h.1)]
abbrev Zi5 (u:Turn):Int:=8*(16*u.th.item+u.th.layer+1)+4
abbrev ZeL (u:Turn):Int:=ZaZ u.c u.t
abbrev Zb4 (u:Turn):Int:=ZfF u.c u.th.item u.th.layer (Zfu u.tape u.th.width).1
def swapT (u:Turn):Turn := if Zb4 u=-1 then u else if 1<=Za3 u (Zb4 u)/\Za3 u (Zb4 u)<=u.c.threads/\Za3 u (Zb4 u)≠u.t+1 then { setW u (Zb4 u) (u.t+1) with tape:=(Zfu u.tape u.th.width).2,th:={ u.th with phase:=20,who:=Za3 u (Zb4 u)-1 } } else { setW u (Zb4 u) (u.t+1) with tape:=(Zfu u.tape u.th.width).2,th:={ u.th with phase:=23,left:=u.c.spin } }
def ZbO (u:Turn) (t so no:Int):Turn :=
 if ZaZ u.c t=-1 then u else if Za3 u (ZaZ u.c t)=Zi5 u then { setW u (ZaZ u.c t) 0 with th:={ u.th with phase:=so } } else { u with th:={ u.th with phase:=no } }
def ZfH (u:Turn):Turn := if u.th.who<0\/u.th.who>=(u.m.boxes.length:Int) then u else { Zqy u u.th.who (u.m.boxes.getD u.th.who.toNat []) with th:={ (Zqy u u.th.who (u.m.boxes.getD u.th.who.toNat [])).th with phase:=25 } }
def ZiY (u:Turn):Turn := if Za3 u (ZeL u)≠Zi5 u then { u with th:={ u.th with phase:=13 } } else if u.th.left>0/\¬Late u then { u with th:={ u.th with left:=Zad .i64 (u.th.left-1) } } else { u with th:={ u.th with phase:=26 } }
def ZgT (u:Turn):Turn :=
 if Za3 u (ZeL u)=Zi5 u then Zdl { setW u (ZeL u) 0 with th:={ u.th with phase:=26,width:=if u.th.width / 2>1 then u.th.width / 2 else 1 } } else { u with th:={ u.th with phase:=13 } }
def ZbR (u:Turn):Turn×Bool := if u.th.phase=17 then ({ u with m:={ u.m with boxes:=u.m.boxes.set u.t.toNat u.th.batch },th:={ u.th with phase:=18 } },true) else if u.th.phase=18 then ({ setW u (ZeL u) (Zi5 u) with th:={ u.th with phase:=19 } },true) else if u.th.phase=19 then (swapT u,true) else if u.th.phase=20 then (ZbO u u.t 21 13,true) else if u.th.phase=21 then (ZbO u u.th.who 22 24,true) else if u.th.phase=22 then (ZfH u,true) else if u.th.phase=23 then (ZiY u,true) else if u.th.phase=24 then ({ setW u (ZeL u) (Zi5 u) with th:={ u.th with phase:=23,left:=u.c.spin } },true) else if u.th.phase=26 then (ZgT u,true) else (u,false)
structure FitC (u:Turn):Prop where
  g:FitG u
  item:0<=u.th.item/\u.th.item<u.c.items
  layer:1<=u.th.layer/\u.th.layer<=3
  tape:Num u.tape.at_
  draws:u.tape.l.length<=4294967296
  width:Num u.th.width
theorem FitC.line {u:Turn} (h:FitC u) {t:Int} (h0:ZaZ u.c t≠-1):0<=ZaZ u.c t/\ZaZ u.c t<(u.m.words.length:Int):=by
 have h1:=ZjW h.g.cfg h0
 have h2:=h.g.words
 have h3:=Za9 h.g.cfg
 omega
theorem FitC.mine {u:Turn} (h:FitC u):ZeL u≠-1/\0<=ZeL u/\ZeL u<(u.m.words.length:Int):=by
 have h1:=Zdy h.g.cfg h.g.t.1 h.g.t.2
 have h2:=h.g.words
 have h3:=Za9 h.g.cfg
 simp only [ZeL] at *
 omega
theorem FitC.slot {u:Turn} (h:FitC u) (h0:Zb4 u≠-1):0<=Zb4 u/\Zb4 u<(u.m.words.length:Int):=by
 have h1:=ZmL h.g.cfg h0
 have h2:=h.g.words
 have h3:=h.g.cfg.threads
 unfold sizeOf at h2
 simp only [Zb4] at *
 omega
theorem Zs4 {u:Turn} (h:FitC u):Zee u=some (ZbR u):=by
 have ht:=h.g.cfg.threads
 have hi:=h.g.cfg.items
 have h1:=h.g.t
 have h2:=h.item
 have h3:=h.layer
 have hl:=h.g.len
 have hb:=h.g.boxes
 have hbt:=h.g.batch
 have hkd:=h.g.kids
 obtain ⟨mn,m0,m1⟩:=h.mine
 simp only [Zee,Zi6,ZxZ (i:=u.th.item) (l:=u.th.layer) (by omega) (by omega) (by omega) (by omega),ZhR,ZbV,ZhU,Zc2,Zj5 h.g.cfg,
   Zb8,Zks,ZvX u.th.width h.tape h.draws,Zko,Zxh h.g.cfg,Zlx,ZcN,Zck,ZmM,Zia,Zfw,ZbY,ZfN,ZbD,
   ZdQ,Zll,shr1]
 unfold ZbR
 by_cases p17:u.th.phase=17
 . rw [Zbg p17,cond_true,if_pos p17,ZoX (by omega) (by omega) (by omega) (by omega)]
   rfl
 rw [ZaR p17,cond_false,if_neg p17]
 by_cases p18:u.th.phase=18
 . rw [Zbg p18,cond_true,if_pos p18,ZdW m0 m1 (by omega)]
   rfl
 rw [ZaR p18,cond_false,if_neg p18]
 by_cases p19:u.th.phase=19
 . rw [Zbg p19,cond_true,if_pos p19]
   unfold swapT
   by_cases hn:Zb4 u=-1
   . rw [ZsH (.inl (by simp only [Zb4] at hn;omega)),if_pos hn]
     rfl
   . obtain ⟨n0,n1⟩:=h.slot hn
     rw [Zt2 n0 n1 (by omega),if_neg hn,Zat (n:=u.t+1) (by omega) (by omega)]
     simp only [bne_self_eq_false,cond_false,Zaw]
     by_cases a1:Za3 u (Zb4 u)<1
     . rw [if_pos a1,if_neg (by omega)]
     by_cases a2:Za3 u (Zb4 u)>u.c.threads
     . rw [if_neg a1,if_pos a2,if_neg (by omega)]
     by_cases a3:Za3 u (Zb4 u)=u.t+1
     . rw [if_neg a1,if_neg a2,Zbg a3,cond_true,if_neg (by omega)]
     . rw [if_neg a1,if_neg a2,ZaR a3,cond_false,if_pos (by omega),Zat (n:=Za3 u (Zb4 u)-1) (by omega) (by omega)]
 rw [ZaR p19,cond_false,if_neg p19]
 by_cases p20:u.th.phase=20
 . rw [Zbg p20,cond_true,if_pos p20,ZeP m0 m1 (by omega),ZaR (show u.th.phase≠26 by omega)]
   unfold ZbO
   rw [if_neg mn]
   simp only [bne_self_eq_false,cond_false]
   by_cases e:Za3 u (ZeL u)=Zi5 u
   . rw [decide_eq_true e,if_pos e,if_pos e];rfl
   . rw [decide_eq_false e,if_neg e,if_neg e];rfl
 rw [ZaR p20,cond_false,if_neg p20]
 by_cases p21:u.th.phase=21
 . rw [Zbg p21,cond_true,if_pos p21,ZaR (show u.th.phase≠26 by omega)]
   unfold ZbO
   by_cases hn:ZaZ u.c u.th.who=-1
   . rw [ZhX (.inl (by omega)),if_pos hn]
     rfl
   . obtain ⟨n0,n1⟩:=h.line hn
     rw [ZeP n0 n1 (by omega),if_neg hn]
     simp only [bne_self_eq_false,cond_false]
     by_cases e:Za3 u (ZaZ u.c u.th.who)=Zi5 u
     . rw [decide_eq_true e,if_pos e,if_pos e];rfl
     . rw [decide_eq_false e,if_neg e,if_neg e];rfl
 rw [ZaR p21,cond_false,if_neg p21]
 by_cases p22:u.th.phase=22
 . rw [Zbg p22,cond_true,if_pos p22]
   unfold ZfH
   by_cases hn:u.th.who<0\/u.th.who>=(u.m.boxes.length:Int)
   . rw [ZnT hn,if_pos hn]
     rfl
   . have hbl:=h.g.boxLen u.th.who.toNat
     rw [ZoW (by omega) (by omega) (by omega),if_neg hn]
     simp only [beq_self_eq_true,cond_true]
     rw [Zpf (by omega) (by omega)]
 rw [ZaR p22,cond_false,if_neg p22]
 by_cases p23:u.th.phase=23
 . rw [Zbg p23,cond_true,if_pos p23,Zfo m0 m1]
   unfold ZiY
   simp only [bne_self_eq_false,cond_false,Zaw]
   by_cases e:Za3 u (ZeL u)=Zi5 u
   . rw [ZgB e,cond_false,if_neg (show ¬(Za3 u (ZeL u)≠Zi5 u) from fun h=>h e)]
     by_cases a:u.th.left>0
     . rw [if_pos a]
       by_cases b:Late u
       . rw [decide_eq_true b,if_neg (fun h=>h.2 b)];rfl
       . rw [decide_eq_false b,if_pos ⟨a,b⟩];rfl
     . rw [if_neg a,if_neg (fun h=>a h.1)]
   . rw [Zha e,cond_true,if_pos e]
 rw [ZaR p23,cond_false,if_neg p23]
 by_cases p24:u.th.phase=24
 . rw [Zbg p24,cond_true,if_pos p24,ZdW m0 m1 (by omega)]
   rfl
 rw [ZaR p24,cond_false,if_neg p24]
 by_cases p26:u.th.phase=26
 . rw [Zbg p26,cond_true,if_pos p26,ZeP m0 m1 (by omega)]
   unfold ZgT
   simp only [bne_self_eq_false,cond_false,cond_true]
   by_cases e:Za3 u (ZeL u)=Zi5 u
   . rw [decide_eq_true e,if_pos e,if_pos e];rfl
   . rw [decide_eq_false e,if_neg e,if_neg e];rfl
 rw [ZaR p26,cond_false,if_neg p26]
end Go.Proofs.Mill
/- Ops, and what logs and histories come to. -/
namespace Go.Proofs.Mill
theorem ZpI (n:Int):Num (Zad .i64 n):=by
 rw [Zb9]
 simp only [Num,IntKind.wrap,IntKind.signed,IntKind.bits]
 constructor <;> simp <;> omega
theorem ZzC (n:Int):∃ k:Int,Zad .i64 n=n+k*18446744073709551616:=by
 rw [Zb9]
 simp only [IntKind.wrap,IntKind.signed,IntKind.bits]
 refine ⟨-((n+9223372036854775808) / 18446744073709551616),?_⟩
 simp
 omega
theorem wrap_u64 {n:Int} (h0:0<=n) (h1:n<18446744073709551616):Zad .u64 n=n:=by
 rw [Zb9]
 simp [IntKind.wrap,IntKind.signed,IntKind.bits]
 omega
theorem Zoz (n:Int):∃ k:Int,IntKind.u64.wrap n=n+k*18446744073709551616/\0<=IntKind.u64.wrap n/\IntKind.u64.wrap n<18446744073709551616:=by
 refine ⟨-(n / 18446744073709551616),?_⟩
 simp [IntKind.wrap,IntKind.signed,IntKind.bits]
 omega
theorem Zy2 (n:Int):∃ k:Int,Zad .u64 n=n+k*18446744073709551616/\0<=Zad .u64 n/\Zad .u64 n<18446744073709551616:=by
 rw [Zb9]
 exact Zoz n
theorem Zzo {α:Type} {c:Bool} {a b:Option α} (ha:a.isSome=true) (hb:b.isSome=true):(bif c then a else b).isSome=true:=by cases c <;> assumption
theorem ZBP {α:Type} {P:α->Prop} {c:Bool} {a b:Option α} (ha:∀ r,a=some r->P r) (hb:∀ r,b=some r->P r):∀ r,(bif c then a else b)=some r->P r:=by cases c <;> assumption
theorem Zwt (o:Op) (x lo hi:Int):∃ r,ZcP o x lo hi=some r:=by
 refine Option.isSome_iff_exists.1 ?_
 simp only [ZcP,ZgV,ZgX]
 repeat' first | rfl | refine Zzo ?_ ?_
def App (o:Op) (x lo hi:Int):Int×Bool:=(ZcP o x lo hi).getD (0,false)
theorem Zlr (o:Op) (x lo hi:Int):ZcP o x lo hi=some (App o x lo hi):=by
 obtain ⟨r,h⟩:=Zwt o x lo hi
 rw [App,h]
 rfl
theorem Zrt {o:Op} {x lo hi:Int} (hx:Num x) (hv:Num o.v) (hlo:Num lo):Num (App o x lo hi).1:=by
 have h:=Zlr o x lo hi
 revert h
 generalize App o x lo hi=r
 revert r
 simp only [ZcP,ZgV,ZgX]
 repeat' refine ZBP (P:=fun r:Int×Bool=>Num r.1) ?_ ?_
 all_goals (intro r h;obtain rfl:=Option.some.inj h)
 all_goals first | exact ZpI _ | exact hx | exact hv | exact hlo | (simp only;split <;> assumption)
theorem ZtK {x lo:Int} (hx:Num x) (hlo:Num lo) (h:lo<=x):Zad .u64 (IntKind.u64.wrap x-IntKind.u64.wrap lo)=x-lo:=by
 unfold Num at hx hlo
 obtain ⟨k2,e2,l2,u2⟩:=Zoz x
 obtain ⟨k3,e3,l3,u3⟩:=Zoz lo
 obtain ⟨k4,e4,l4,u4⟩:=Zy2 (IntKind.u64.wrap x-IntKind.u64.wrap lo)
 generalize Zad .u64 (IntKind.u64.wrap x-IntKind.u64.wrap lo)=z at *
 generalize IntKind.u64.wrap x=a at *
 generalize IntKind.u64.wrap lo=b at *
 omega
theorem Zy3 {x v:Int}:Zad .i64 (x+Zad .i64 (0-v))=Zad .i64 (x-v):=by
 rw [Zb9,Zb9,Zb9]
 simp [IntKind.wrap,IntKind.signed,IntKind.bits]
 omega
theorem ZBf {x v s lo k:Int} (hx:Num x) (hv:Num v) (hlo:Num lo) (e:s=x-v+k*18446744073709551616) (hs:Num s) (a1:¬v<0) (a2:¬x<lo) :
   (if s<=x then if s>=lo then some (s,true) else some (lo,true) else some (lo,true))=if v>=x-lo then some (lo,true) else some (s,true):=by
 unfold Num at *
 by_cases a3:v>=x-lo
 . rw [if_pos a3]
   by_cases a4:s<=x
   . rw [if_pos a4]
     by_cases a5:s>=lo
     . rw [if_pos a5,show s=lo by omega]
     . rw [if_neg a5]
   . rw [if_neg a4]
 . rw [if_neg a3,if_pos (by omega),if_pos (by omega)]
theorem ZBw {x v s lo hi:Int}:(match (bif decide (v>=0) then bif decide (s>=x) then bif decide (s<lo) then some true else some (decide (s>hi))
      else bif decide (v<0) then bif decide (s<x) then bif decide (s<lo) then some true else some (decide (s>hi)) else some true else some true
    else bif decide (v<0) then bif decide (s<x) then bif decide (s<lo) then some true else some (decide (s>hi)) else some true else some true:Option Bool) with
    | some y1=>bif !y1 then some (s,true) else some (x,false)
    | none=>none) =
    bif !(decide (v>=0) == decide (s>=x)) then some (x,false) else bif decide (s<lo) then some (x,false) else bif decide (s>hi) then some (x,false) else some (s,true):=by
  by_cases a1:v>=0
  . have d1:decide (v>=0)=true:=decide_eq_true a1
    have d0:decide (v<0)=false:=decide_eq_false (by omega)
    by_cases a2:s>=x
    . have d2:decide (s>=x)=true:=decide_eq_true a2
      simp only [d1,d2,cond_true,beq_self_eq_true,Bool.not_true,cond_false]
      cases decide (s<lo) <;> cases decide (s>hi) <;> rfl
    . have d2:decide (s>=x)=false:=decide_eq_false a2
      simp only [d1,d2,d0,cond_true,cond_false]
      rfl
  . have d1:decide (v>=0)=false:=decide_eq_false a1
    have d0:decide (v<0)=true:=decide_eq_true (by omega)
    by_cases a2:s<x
    . have d2:decide (s>=x)=false:=decide_eq_false (by omega)
      have d3:decide (s<x)=true:=decide_eq_true a2
      simp only [d1,d2,d0,d3,cond_true,beq_self_eq_true,Bool.not_true,cond_false]
      cases decide (s<lo) <;> cases decide (s>hi) <;> rfl
    . have d2:decide (s>=x)=true:=decide_eq_true (by omega)
      have d3:decide (s<x)=false:=decide_eq_false a2
      simp only [d1,d2,d0,d3,cond_true,cond_false]
      rfl
theorem ZzD {o:Op} {x lo hi:Int} (hx:Num x) (hv:Num o.v) (hlo:Num lo) (hhi:Num hi):Zid o x lo hi=ZcP o x lo hi:=by
 obtain ⟨t,v⟩:=o
 simp only at hv
 unfold Zid ZcP
 simp only
 have n:∀ j:Int,t≠j->(t == j)=false:=fun j h=>by simpa using h
 have y:∀ j:Int,t=j->(t == j)=true:=fun j h=>by simpa using h
 by_cases t1:t=1
 . rw [n 2 (by omega),y 1 t1];rfl
 by_cases t2:t=2
 . rw [n 1 (by omega),y 2 t2]
   simp only [cond_true,cond_false]
   rw [Zy3]
 by_cases t3:t=3
 . rw [n 1 (by omega),n 2 (by omega),y 3 t3];rfl
 by_cases t4:t=4
 . rw [n 1 (by omega),n 2 (by omega),n 3 (by omega),y 4 t4];rfl
 by_cases t5:t=5
 . rw [n 1 (by omega),n 2 (by omega),n 3 (by omega),n 4 (by omega),y 5 t5]
   have:(if x>v then x else v)=if v>x then v else x:=by split <;> split <;> omega
   simp only [cond_true,cond_false,this]
 by_cases t6:t=6
 . rw [n 1 (by omega),n 2 (by omega),n 3 (by omega),n 4 (by omega),n 5 (by omega),y 6 t6]
   have:(if x<v then x else v)=if v<x then v else x:=by split <;> split <;> omega
   simp only [cond_true,cond_false,this]
 by_cases t7:t=7
 . rw [n 1 (by omega),n 2 (by omega),n 3 (by omega),n 4 (by omega),n 5 (by omega),n 6 (by omega),y 7 t7]
   simp only [cond_true,cond_false]
 by_cases t8:t=8
 . rw [n 1 (by omega),n 2 (by omega),n 3 (by omega),n 4 (by omega),n 5 (by omega),n 6 (by omega),n 7 (by omega),n 9 (by omega),y 8 t8]
   simp only [cond_true,cond_false,Zjs,ZmS,ZgV,ZgX]
   exact ZBw
 by_cases t9:t=9
 . rw [n 1 (by omega),n 2 (by omega),n 3 (by omega),n 4 (by omega),n 5 (by omega),n 6 (by omega),n 7 (by omega),n 8 (by omega),y 9 t9]
   simp only [cond_true,cond_false,Zaw]
   by_cases a1:v<0
   . rw [if_pos a1,if_pos a1]
   rw [if_neg a1,if_neg a1]
   by_cases a2:x<lo
   . rw [if_pos a2,if_pos a2]
   rw [if_neg a2,if_neg a2]
   obtain ⟨k,e⟩:=ZzC (x-v)
   have f1:IntKind.u64.wrap v=v:=by
     obtain ⟨k1,e1,l1,u1⟩:=Zoz v
     generalize IntKind.u64.wrap v=z at *
     unfold Num at hv
     omega
   rw [f1,ZtK hx hlo (by omega)]
   exact ZBf hx hv hlo e (ZpI _) a1 a2
 rw [n 1 t1,n 2 t2,n 3 t3,n 4 t4,n 5 t5,n 6 t6,n 7 t7,n 8 t8,n 9 t9]
 rfl
theorem ZqA {o:Op} {x lo hi:Int} (hx:Num x) (hv:Num o.v) (hlo:Num lo) (hhi:Num hi):Zid o x lo hi=some (App o x lo hi):=by
 rw [ZzD hx hv hlo hhi,Zlr]
end Go.Proofs.Mill
/- A machine's step, as a plain function of a turn. -/
namespace Go.Proofs.Mill
def allT (lo hi:Int):List Entry->Int->Int
 | [],x=>x
 | e::r,x=>allT lo hi r (App e.op x lo hi).1
def Zeg (lo hi:Int):List Entry->Int->List Int
 | [],_=>[]
 | e::r,x=>x::Zeg lo hi r (App e.op x lo hi).1
theorem ZlI (lo hi:Int):∀ (b:List Entry) (x:Int),(Zeg lo hi b x).length=b.length
 | [],_=>rfl
 | e::r,x=>by simp [Zeg,ZlI lo hi r]
theorem Znu {lo hi:Int} (hlo:Num lo) (hhi:Num hi):∀ (b:List Entry) (x:Int),Num x->(∀ e∈b,Num e.op.v) ->
   ∃ l,cellsOf (apC lo hi) b x=some l/\l.map (·.1)=Zeg lo hi b x/\l.foldl (fun _ p=>p.2) x=allT lo hi b x/\Num (allT lo hi b x)
 | [],x,hx,_=>⟨[],rfl,rfl,rfl,hx⟩
 | e :: r, x, hx, hb => by
   have hv:=hb e (by simp)
   obtain ⟨l,h1,h2,h3,h4⟩:=Znu hlo hhi r (App e.op x lo hi).1 (Zrt hx hv hlo) (fun e he=>hb e (by simp [he]))
   refine ⟨(x,(App e.op x lo hi).1)::l,?_,by simp [h2,Zeg],h3,h4⟩
   unfold cellsOf
   have:apC lo hi e x=some (App e.op x lo hi).1:=by
     unfold apC
     rw [show ZcE (e.op,x,lo,hi)=some (App e.op x lo hi) from ZqA hx hv hlo hhi]
   rw [this]
   simp only [h1]
theorem Zr1 {lo hi x:Int} {b:List Entry} (hlo:Num lo) (hhi:Num hi) (hx:Num x) (hb:∀ e∈b,Num e.op.v) (hl:b.length<=4294967296):Zg5 b x lo hi=some (allT lo hi b x):=by
 obtain ⟨l,h1,_,h3,_⟩:=Znu hlo hhi b x hx hb
 simp only [Zg5,Zbv hl,cond_true,h1,h3]
theorem Zts {lo hi x:Int} {b:List Entry} (hlo:Num lo) (hhi:Num hi) (hx:Num x) (hb:∀ e∈b,Num e.op.v) (hl:b.length<=4294967296):Ze0 b x lo hi=some (Zeg lo hi b x):=by
 obtain ⟨l,h1,h2,_,_⟩:=Znu hlo hhi b x hx hb
 simp only [Ze0,Zbv hl,cond_true,h1,h2]
theorem Zwc {b:List Entry} {n:Int} (hl:b.length<=4294967296):ZkF b n=some (b.take n.toNat):=by
 unfold ZkF
 simp only [Zaw]
 have key:∀ m:Int,0<=m->m<=(b.length:Int)->Zbk (List.drop (Int.toNat (0:Int)) (List.take m.toNat b))=some (b.take m.toNat):=by
   intro m h0 h1
   show ZcO _=_
   rw [show Int.toNat (0:Int)=0 from rfl,List.drop_zero,ZiZ (by simp;omega)]
 by_cases h:(b.length:Int)<n
 . simp only [if_pos h]
   by_cases h2:(b.length:Int)>0
   . simp only [if_pos h2]
     rw [if_pos (by omega),if_pos (by omega),key _ (by omega) (by omega)]
     rw [List.take_of_length_le (by omega),List.take_of_length_le (by omega)]
   . simp only [if_neg h2]
     rw [if_pos (by omega),if_pos (by omega),key _ (by omega) (by omega)]
     have:b=[]:=List.length_eq_zero_iff.1 (by omega)
     subst this
     simp
 . simp only [if_neg h]
   by_cases h2:n>0
   . simp only [if_pos h2]
     rw [if_pos (by omega),if_pos (by omega),key _ (by omega) (by omega)]
   . simp only [if_neg h2]
     rw [if_pos (by omega),if_pos (by omega),key _ (by omega) (by omega)]
     have:n.toNat=0:=by omega
     simp [this]
theorem Zse:Zpa=some 5:=by kernel_rfl
def cellAt (c:Config) (item:Int):Int:=if item<0\/item>=c.items then -1 else item*Zay c
def Zcy (c:Config) (t:Int):Int:=if t<0\/t>=c.threads then -1 else Za1 c+2*t+1
theorem Zl6 {c:Config} (h:CfgOK c) (i:Int):Zie c i=some (cellAt c i):=by
 unfold Zie cellAt
 simp only [Zaw]
 by_cases h1:i<0
 . rw [if_pos h1,if_pos (.inl h1)]
 . rw [if_neg h1]
   by_cases h2:i>=c.items
   . rw [if_pos h2,if_pos (.inr h2)]
   . rw [if_neg h2,if_neg (fun h=>h.elim h1 h2)]
     simp only [Zcm,ZiO h]
     have:=Zda h (i:=i) (by omega) (by omega)
     have:=Za9 h
     rw [Zat (by omega) (by omega)]
theorem Zn3 {c:Config} (h:CfgOK c) (t:Int):ZiU c t=some (Zcy c t):=by
 unfold ZiU Zcy
 simp only [Zaw]
 by_cases h1:t<0
 . rw [if_pos h1,if_pos (.inl h1)]
 . rw [if_neg h1]
   by_cases h2:t>=c.threads
   . rw [if_pos h2,if_pos (.inr h2)]
   . rw [if_neg h2,if_neg (fun h=>h.elim h1 h2)]
     simp only [Zcm,ZiO h]
     have:=Za9 h
     have:=h.threads
     rw [Zat (n:=(2:Int)*t) (by omega) (by omega),Zat (n:=Za1 c+2*t) (by omega) (by omega),Zat (by omega) (by omega)]
def Zch (u:Turn):Turn:=if u.th.at_<0\/u.th.at_>=(u.th.kids.length:Int) then { u with th:={ u.th with phase:=0 },done:=true } else { u with th:={ u.th with phase:=15 } }
theorem Zka (u:Turn):Zit u=some (Zch u):=by
 unfold Zit Zch
 simp only [Zaw]
 by_cases h1:u.th.at_<0
 . rw [if_pos h1,if_pos (.inl h1)]
 . rw [if_neg h1]
   by_cases h2:u.th.at_>=(u.th.kids.length:Int)
   . rw [if_pos h2,if_pos (.inr h2)]
   . rw [if_neg h2,if_neg (show ¬(u.th.at_<0\/u.th.at_>=(u.th.kids.length:Int)) from fun h=>h.elim h1 h2),if_pos (by omega),if_pos (by omega)]
structure FitM (u:Turn):Prop where
  g:FitG u
  held:u.th.held.length<=4294967295
  item:0<=u.th.item/\u.th.item<u.c.items
  layer:17<=u.th.phase->1<=u.th.layer/\u.th.layer<=3
  tape:Num u.tape.at_
  draws:u.tape.l.length<=4294967296
  width:Num u.th.width
  lo:Num u.c.lo
  hi:Num u.c.hi
  x:Num u.th.x
  ops:∀ e∈u.th.batch,Num e.op.v
theorem FitM.cell {u:Turn} (h:FitM u):cellAt u.c u.th.item=u.th.item*Zay u.c/\0<=u.th.item*Zay u.c/\u.th.item*Zay u.c<(u.m.words.length:Int):=by
 have h1:=Zda h.g.cfg (i:=u.th.item) h.item.1 (by have:=h.item.2;omega)
 have h2:=h.g.words
 have h3:=h.g.cfg.threads
 unfold sizeOf at h2
 refine ⟨?_,h1.1,by omega⟩
 unfold cellAt
 rw [if_neg (by have:=h.item;omega)]
theorem Zxn {u:Turn} (h:FitG u) {t:Int} (h0:0<=t) (h1:t<u.c.threads):Zcy u.c t=Za1 u.c+2*t+1/\0<=Zcy u.c t/\Zcy u.c t<(u.m.words.length:Int):=by
 have h2:=h.words
 have h3:=Za9 h.cfg
 have e:Zcy u.c t=Za1 u.c+2*t+1:=by unfold Zcy;rw [if_neg (by omega)]
 unfold sizeOf at h2
 rw [e]
 omega
theorem Zq6 {u:Turn} (h:FitG u) {t:Int} (h0:0<=t) (h1:t<u.c.threads):0<=ZaZ u.c t/\ZaZ u.c t<(u.m.words.length:Int)/\ZaZ u.c t≠-1:=by
 have h2:=Zdy h.cfg h0 h1
 have h3:=h.words
 have h4:=Za9 h.cfg
 omega
def ZfT (u:Turn):Kid:=u.th.kids.getD u.th.at_.toNat ⟨0,0⟩
abbrev Zgr (u:Turn):Prop:=u.th.at_<0\/u.th.at_>=(u.th.kids.length:Int)
def Zb5 (u:Turn):Turn×Bool := if u.th.phase=13 then (if Za3 u (ZaZ u.c u.t)=5 then { u with th:={ u.th with phase:=14 } } else u,true) else if u.th.phase=14 then (Zch { u with th:={ u.th with at_:=0,x:=Za3 u (Zcy u.c u.t) } },true) else if u.th.phase=15 then (if Zgr u then u else if Zcy u.c (ZfT u).t=-1 then u else { setW u (Zcy u.c (ZfT u).t) (allT u.c.lo u.c.hi (u.th.batch.take (ZfT u).ahead.toNat) u.th.x) with th:={ u.th with phase:=16 } },true) else if u.th.phase=16 then (if Zgr u then u else if ZaZ u.c (ZfT u).t=-1 then u else Zch { setW u (ZaZ u.c (ZfT u).t) 5 with th:={ u.th with at_:=Zad .i64 (u.th.at_+1) } },true) else (u,false)
theorem Zkn {m:Memo} {a:Int} (h0:0<=a) (h1:a<(m.words.length:Int)):ZfN m a=some (m.words.getD a.toNat 0,0):=by
 simp only [ZfN,ZbD,Zfo h0 h1]
theorem FitG.wl {u:Turn} (h:FitG u):u.m.words.length<=4294967296:=by have:=h.len;omega
theorem Zwh {u:Turn} (h:FitM u):ZeY u=some (Zb5 u):=by
 have hc:=h.g.cfg
 have hl:=Zq6 h.g h.g.t.1 h.g.t.2
 have hr:=Zxn h.g h.g.t.1 h.g.t.2
 unfold ZeY Zb5
 by_cases p13:u.th.phase=13
 . rw [Zbg p13,if_pos p13]
   simp only [cond_true,Zmd,Zc2,Zj5 hc,ZbY,Zkn hl.1 hl.2.1,ZgQ,Zse]
   by_cases e:u.m.words.getD (ZaZ u.c u.t).toNat 0=5
   . rw [show ((0:Int) == 0)=true from rfl,Zbg e,if_pos e];rfl
   . rw [show ((0:Int) == 0)=true from rfl,ZaR e,if_neg e];rfl
 rw [ZaR p13,if_neg p13]
 simp only [cond_false]
 by_cases p14:u.th.phase=14
 . rw [Zbg p14,if_pos p14]
   simp only [cond_true,Zl9,Zfc,Zn3 hc,ZbY,Zkn hr.2.1 hr.2.2,bne_self_eq_false,cond_false,Zdj,Zka]
 rw [ZaR p14,if_neg p14]
 simp only [cond_false]
 by_cases p15:u.th.phase=15
 . rw [Zbg p15,if_pos p15]
   simp only [cond_true,Zms,Zaw]
   by_cases k1:u.th.at_<0
   . rw [if_pos k1,if_pos (show Zgr u from .inl k1)]
   rw [if_neg k1]
   by_cases k2:u.th.at_>=(u.th.kids.length:Int)
   . rw [if_pos k2,if_pos (show Zgr u from .inr k2)]
   rw [if_neg k2,if_neg (show ¬Zgr u from fun h=>h.elim k1 k2),if_pos (by omega),if_pos (by omega)]
   have hb:u.th.batch.length<=4294967296:=by have:=h.g.batch;omega
   have hall:ZeR (u.th.batch.take (ZfT u).ahead.toNat,u.th.x,u.c.lo,u.c.hi)=some (allT u.c.lo u.c.hi (u.th.batch.take (ZfT u).ahead.toNat) u.th.x) :=
     Zr1 h.lo h.hi h.x (fun e he=>h.ops e (List.mem_of_mem_take he)) (by simp;omega)
   have hup:ZkC (u.th.batch,(u.th.kids.getD u.th.at_.toNat dKid).ahead)=some (u.th.batch.take (ZfT u).ahead.toNat):=Zwc hb
   have hres:Zfc (u.c,(u.th.kids.getD u.th.at_.toNat dKid).t)=some (Zcy u.c (ZfT u).t):=Zn3 hc _
   simp only [hup,hall,hres,Zb8]
   by_cases e:Zcy u.c (ZfT u).t=-1
   . rw [Zgu (.inl (by omega)),if_pos e];rfl
   . have hk:0<=(ZfT u).t/\(ZfT u).t<u.c.threads:=by unfold Zcy at e;split at e <;> omega
     have hk2:=Zxn h.g hk.1 hk.2
     rw [ZdW hk2.2.1 hk2.2.2 h.g.wl,if_neg e];rfl
 rw [ZaR p15,if_neg p15]
 simp only [cond_false]
 by_cases p16:u.th.phase=16
 . rw [Zbg p16,if_pos p16]
   simp only [cond_true,Zmk,Zaw]
   by_cases k1:u.th.at_<0
   . rw [if_pos k1,if_pos (show Zgr u from .inl k1)]
   rw [if_neg k1]
   by_cases k2:u.th.at_>=(u.th.kids.length:Int)
   . rw [if_pos k2,if_pos (show Zgr u from .inr k2)]
   rw [if_neg k2,if_neg (show ¬Zgr u from fun h=>h.elim k1 k2),if_pos (by omega),if_pos (by omega)]
   have hline:Zc2 (u.c,(u.th.kids.getD u.th.at_.toNat dKid).t)=some (ZaZ u.c (ZfT u).t):=Zj5 hc _
   simp only [hline,ZgQ,Zse,Zb8]
   by_cases e:ZaZ u.c (ZfT u).t=-1
   . rw [Zgu (.inl (by omega)),if_pos e];rfl
   . have hk:=ZjW hc e
     have hk2:=Zq6 h.g hk.2.2.1 hk.2.2.2.1
     rw [ZdW hk2.1 hk2.2.1 h.g.wl,if_neg e]
     simp only [bne_self_eq_false,cond_false,Zdj,Zka]
 rw [ZaR p16,if_neg p16]
 rfl
def ZqM (u:Turn) (x:Int):List Mark:=List.zipWith (fun (e:Entry) p=>(⟨e.t,u.th.item,e.op,p,0⟩:Mark)) u.th.batch (Zeg u.c.lo u.c.hi u.th.batch x)
def Ze5 (u:Turn) (x:Int):Turn:=Zch { u with th:={ u.th with at_:=0,x:=x },log:=u.log++ZqM u x }
theorem Zvb {u z:Turn} {x:Int} {ps:List Int} (hp:ps.length=u.th.batch.length) (hl:u.log.length+u.th.batch.length<=4294967296) :
   ZgJ (x,u,z,(),u.log,ps,(ps.length:Int),0)=some (x,u,z,(),u.log++List.zipWith (fun (e:Entry) p=>(⟨e.t,u.th.item,e.op,p,0⟩:Mark)) u.th.batch ps):=by
 obtain ⟨ms,hms⟩:∃ ms,ms=List.zipWith (fun (e:Entry) p=>(⟨e.t,u.th.item,e.op,p,0⟩:Mark)) u.th.batch ps:=⟨_,rfl⟩
 have hlen:ms.length=ps.length:=by rw [hms];simp [hp]
 rw [<- hms]
 unfold ZgJ
 have h0:ZaC ZdZ (x,u,z,(),u.log++ms.take 0,ps,(ps.length:Int),((0:Nat):Int))=some (x,u,z,(),u.log++ms):=Zd4 (step:=ZdZ) (fun i=>(x,u,z,(),u.log++ms.take i,ps,(ps.length:Int),(i:Int))) ps.length (y:=(x,u,z,(),u.log++ms)) (fun i hi=>?_) ?_
 . rw [List.take_zero,List.append_nil] at h0
   exact h0
 . show Zd1 _ _ _ _ _ _ _ _=_
   unfold Zd1
   have hw:Zad .i64 ((i:Int)+1)=((i+1:Nat):Int):=by rw [Zat (by omega) (by omega)];rfl
   have hg:(ms.getD i ⟨0,0,⟨0,0⟩,0,0⟩)=⟨(u.th.batch.getD i Zjm).t,u.th.item,(u.th.batch.getD i Zjm).op,ps.getD i 0,0⟩:=by
     have h1:i<u.th.batch.length:=by omega
     rw [hms]
     simp only [List.getD_eq_getElem?_getD,List.getElem?_zipWith,List.getElem?_eq_getElem h1,List.getElem?_eq_getElem hi,Option.getD_some]
   have hfew:fewB ((u.log++ms.take i).length+([(⟨(u.th.batch.getD i Zjm).t,u.th.item,(u.th.batch.getD i Zjm).op,ps.getD i 0,0⟩:Mark)]).length)=true:=Zbv (by simp;omega)
   simp only [Zaw,Int.toNat_natCast]
   rw [if_pos (by omega),if_pos (by omega),if_pos (by omega),if_pos (by omega),if_pos (by omega),hfew,hw]
   simp only [cond_true]
   rw [<- ZnY ms ⟨0,0,⟨0,0⟩,0,0⟩ i (by omega),hg,List.append_assoc]
 . show Zd1 _ _ _ _ _ _ _ _=some (.inr _)
   unfold Zd1
   simp only [Zaw]
   rw [if_neg (by omega),List.take_of_length_le (by omega)]
theorem Zsz {u:Turn} {x:Int} (hlo:Num u.c.lo) (hhi:Num u.c.hi) (hx:Num x) (hb:∀ e∈u.th.batch,Num e.op.v) (hl:u.log.length+u.th.batch.length<=4294967296):ZhI u x=some (Ze5 u x):=by
 unfold ZhI
 rw [Zbv (by omega)]
 simp only [cond_true,ZiE,Zts hlo hhi hx hb (by omega)]
 rw [Zvb (ZlI _ _ _ _) hl]
 simp only [Zdj,Zka]
 rfl
def Zec (u:Turn):Turn := if Za3 u (cellAt u.c u.th.item)=u.th.x then Ze5 (setW u (cellAt u.c u.th.item) u.th.y) u.th.x else { u with th:={ u.th with phase:=2,width:=if u.th.width<u.c.width then (if u.c.width<Zad .i64 (u.th.width*2) then u.c.width else Zad .i64 (u.th.width*2)) else (if u.c.width<u.th.width then u.c.width else u.th.width) } }
def ZbP (u:Turn):Turn×Bool := if u.th.phase=3 then (Zec u,true) else if u.th.phase=2\/u.th.phase=25 then (if allT u.c.lo u.c.hi u.th.batch (Za3 u (cellAt u.c u.th.item))=Za3 u (cellAt u.c u.th.item) then Ze5 u (Za3 u (cellAt u.c u.th.item)) else if u.th.phase=25 then Zdl u else { u with th:={ u.th with phase:=3,x:=Za3 u (cellAt u.c u.th.item),y:=allT u.c.lo u.c.hi u.th.batch (Za3 u (cellAt u.c u.th.item)) } },true) else (u,false)
theorem Zu3 {u:Turn} (h:FitM u) (hlog:u.log=[]):Zjx u=some (ZbP u):=by
 have hc:=h.g.cfg
 obtain ⟨hcell,c0,c1⟩:=h.cell
 rw [<- hcell] at c0 c1
 have hb:u.th.batch.length<=4294967296:=by have:=h.g.batch;omega
 have hw:Num (Za3 u (cellAt u.c u.th.item)):=h.g.word c0 c1
 have hcom:∀ {v:Turn} {x:Int},v.c=u.c->v.th.batch=u.th.batch->v.log=u.log->Num x->ZdO (v,x)=some (Ze5 v x):=by
   intro v x h1 h2 h3 hx
   refine Zsz (by rw [h1];exact h.lo) (by rw [h1];exact h.hi) hx (by rw [h2];exact h.ops) ?_
   rw [h2,h3,hlog]
   have:=h.g.batch
   simp only [List.length_nil]
   omega
 have hall:ZeR (u.th.batch,Za3 u (cellAt u.c u.th.item),u.c.lo,u.c.hi)=some (allT u.c.lo u.c.hi u.th.batch (Za3 u (cellAt u.c u.th.item))):=Zr1 h.lo h.hi hw h.ops hb
 unfold Zjx ZbP
 by_cases p3:u.th.phase=3
 . rw [Zbg p3,if_pos p3]
   simp only [cond_true,ZgK,ZjX,Zc3,Zl6 hc,ZcN,ZeP c0 c1 h.g.wl,bne_self_eq_false,cond_false]
   unfold Zec
   by_cases e:u.m.words.getD (cellAt u.c u.th.item).toNat 0=u.th.x
   . rw [decide_eq_true e,if_pos e,if_pos e]
     simp only [cond_true]
     rw [hcom (v:=setW u (cellAt u.c u.th.item) u.th.y) (x:=u.th.x) rfl rfl rfl h.x]
   . rw [decide_eq_false e,if_neg e,if_neg (show ¬Za3 u (cellAt u.c u.th.item)=u.th.x from e)]
     simp only [cond_false,Zaw]
     by_cases e2:u.th.width<u.c.width
     . rw [if_pos e2,if_pos e2]
     . rw [if_neg e2,if_neg e2]
 rw [ZaR p3,if_neg p3]
 simp only [cond_false,Zc3,Zl6 hc,ZbY,Zkn c0 c1]
 have hrest:∀ q:Bool,(q=(u.th.phase == (25:Int)))->(match ZeR (u.th.batch,u.m.words.getD (cellAt u.c u.th.item).toNat 0,u.c.lo,u.c.hi) with
     | some y3 =>
       bif (0:Int) != (0:Int) then some (u,true)
       else
         bif u.m.words.getD (cellAt u.c u.th.item).toNat 0 == u.m.words.getD (cellAt u.c u.th.item).toNat 0 && (y3 == u.m.words.getD (cellAt u.c u.th.item).toNat 0 && true) then
           match ZdO (u,u.m.words.getD (cellAt u.c u.th.item).toNat 0) with
           | some y4=>some (y4,true)
           | none=>none
         else
           bif u.th.phase == (25:Int) then
             match Zck u with
             | some y4=>some (y4,true)
             | none=>none
           else some ({ u with th:={ u.th with phase:=(3:Int),x:=u.m.words.getD (cellAt u.c u.th.item).toNat 0,y:=y3 } },true)
     | none=>none)=some (if allT u.c.lo u.c.hi u.th.batch (Za3 u (cellAt u.c u.th.item))=Za3 u (cellAt u.c u.th.item) then Ze5 u (Za3 u (cellAt u.c u.th.item))
    else if u.th.phase=25 then Zdl u
    else { u with th:={ u.th with phase:=3,x:=Za3 u (cellAt u.c u.th.item),y:=allT u.c.lo u.c.hi u.th.batch (Za3 u (cellAt u.c u.th.item)) } },true):=by
   intro q hq
   rw [hall]
   simp only [bne_self_eq_false,cond_false,beq_self_eq_true,Bool.true_and,Bool.and_true]
   by_cases e:allT u.c.lo u.c.hi u.th.batch (Za3 u (cellAt u.c u.th.item))=Za3 u (cellAt u.c u.th.item)
   . rw [Zbg e,if_pos e]
     simp only [cond_true]
     rw [hcom rfl rfl rfl hw]
   . rw [ZaR e,if_neg e]
     simp only [cond_false]
     by_cases p:u.th.phase=25
     . rw [Zbg p,if_pos p]
       simp only [cond_true,Zck,ZmM]
     . rw [ZaR p,if_neg p]
       rfl
 by_cases p2:u.th.phase=2
 . rw [ZgB p2,if_pos (.inl p2)]
   simp only [cond_false]
   exact hrest _ rfl
 . rw [Zha p2]
   simp only [cond_true]
   by_cases p25:u.th.phase=25
   . rw [ZgB p25,if_pos (.inr p25)]
     simp only [cond_false]
     exact hrest _ rfl
   . rw [Zha p25,if_neg (fun h=>h.elim p2 p25)]
     rfl
def Zfv (u:Turn):Turn := if u.c.backend=2/\u.c.depth>0 then { u with th:={ u.th with phase:=4 } } else if u.c.backend=3/\u.c.layers>0 then { u with th:={ u.th with phase:=17,layer:=1 } } else { u with th:={ u.th with phase:=2 } }
theorem ZsE (u:Turn):Zik u=some (Zfv u):=by
 unfold Zik Zfv
 simp only [Zaw]
 by_cases b2:u.c.backend=2
 . have b3:¬u.c.backend=3:=by omega
   rw [Zbg b2,ZaR b3,if_neg (show ¬(u.c.backend=3/\u.c.layers>0) from fun h=>b3 h.1)]
   simp only [cond_true,cond_false]
   by_cases d:u.c.depth>0
   . rw [if_pos d,if_pos (show u.c.backend=2/\u.c.depth>0 from ⟨b2,d⟩)]
   . rw [if_neg d,if_neg (show ¬(u.c.backend=2/\u.c.depth>0) from fun h=>d h.2)]
 . rw [ZaR b2,if_neg (show ¬(u.c.backend=2/\u.c.depth>0) from fun h=>b2 h.1)]
   simp only [cond_false]
   by_cases b3:u.c.backend=3
   . rw [Zbg b3]
     simp only [cond_true]
     by_cases d:u.c.layers>0
     . rw [if_pos d,if_pos (show u.c.backend=3/\u.c.layers>0 from ⟨b3,d⟩)]
     . rw [if_neg d,if_neg (show ¬(u.c.backend=3/\u.c.layers>0) from fun h=>d h.2)]
   . rw [ZaR b3,if_neg (show ¬(u.c.backend=3/\u.c.layers>0) from fun h=>b3 h.1)]
     rfl
def Zcb (u:Turn):Turn×Bool:=if u.th.phase=1 then (Zfv (setW u (ZaZ u.c u.t) 0),true) else (u,false)
theorem ZsT {u:Turn} (h:FitG u):ZhT u=some (Zcb u):=by
 have hl:=Zq6 h h.t.1 h.t.2
 unfold ZhT Zcb
 by_cases p:u.th.phase=1
 . rw [ZgB p,if_pos p]
   simp only [cond_false,Zc2,Zj5 h.cfg,Zb8,ZdW hl.1 hl.2.1 h.wl,bne_self_eq_false,ZhK,ZsE]
 . rw [Zha p,if_neg p]
   rfl
theorem ZtR {u:Turn} (hp:u.th.phase≠17/\u.th.phase≠18/\u.th.phase≠19/\u.th.phase≠20/\u.th.phase≠21/\u.th.phase≠22/\u.th.phase≠23/\u.th.phase≠24/\u.th.phase≠26):Zee u=some (u,false)/\ZbR u=(u,false):=by
 obtain ⟨p1,p2,p3,p4,p5,p6,p7,p8,p9⟩:=hp
 constructor
 . simp only [Zee,Zi6,ZiX,ZbM,Zdi,ZaR p1,ZaR p2,ZaR p3,ZaR p4,ZaR p5,ZaR p6,ZaR p7,ZaR p8,ZaR p9,cond_false]
 . simp only [ZbR,if_neg p1,if_neg p2,if_neg p3,if_neg p4,if_neg p5,if_neg p6,if_neg p7,if_neg p8,if_neg p9]
theorem FitM.fit {u:Turn} (h:FitM u):Fit u:=⟨h.g.cfg,h.g.t,h.g.words,h.g.nums,h.held⟩
theorem Zu2 {u:Turn} (h:FitM u):Zee u=some (ZbR u):=by
 by_cases p:17<=u.th.phase
 . exact Zs4 ⟨h.g,h.item,h.layer p,h.tape,h.draws,h.width⟩
 . obtain ⟨h1,h2⟩:=ZtR (u:=u) (by omega)
   rw [h1,h2]
def begT (u:Turn):Turn:={ u with log:=[],done:=false }
theorem FitM.beg {u:Turn} (h:FitM u):FitM (begT u):=⟨⟨h.g.cfg,h.g.t,h.g.words,h.g.boxes,h.g.nums,h.g.batch,h.g.kids,h.g.box⟩,h.held,h.item,h.layer,h.tape,h.draws,h.width,h.lo,h.hi,h.x,h.ops⟩
def ZaM (u:Turn):Turn := if u.th.phase=0 then u else if (Zcb (begT u)).2=true then (Zcb (begT u)).1 else if (Zb5 (begT u)).2=true then (Zb5 (begT u)).1 else if (ZbP (begT u)).2=true then (ZbP (begT u)).1 else if (Zcs (begT u)).2=true then (Zcs (begT u)).1 else if (Zcg (begT u)).2=true then (Zcg (begT u)).1 else if (ZbR (begT u)).2=true then (ZbR (begT u)).1 else begT u
theorem Zuf {u:Turn} (h:FitM u):Ziw u=some (ZaM u):=by
 have hb:=h.beg
 unfold Ziw ZaM
 simp only [Zbt,ZdP]
 by_cases p:u.th.phase=0
 . rw [ZgB p,if_pos p];rfl
 rw [Zha p,if_neg p]
 have e1:ZhM { u with log:=([]:List Mark),done:=false }=some (Zcb (begT u)):=ZsT hb.g
 have e2:ZkI { u with log:=([]:List Mark),done:=false }=some (Zb5 (begT u)):=Zwh hb
 have e3:ZjU { u with log:=([]:List Mark),done:=false }=some (ZbP (begT u)):=Zu3 hb rfl
 have e4:ZkO { u with log:=([]:List Mark),done:=false }=some (Zcs (begT u)):=Zv8 hb.fit
 have e5:Zjz { u with log:=([]:List Mark),done:=false }=some (Zcg (begT u)):=ZuU hb.g
 have e6:ZiK { u with log:=([]:List Mark),done:=false }=some (ZbR (begT u)):=Zu2 hb
 simp only [Bool.not_true,cond_false,e1,e2,e3,e4,e5,e6]
 cases h1:(Zcb (begT u)).2 with
 | true=>rfl
 | false =>
 cases h2:(Zb5 (begT u)).2 with
 | true=>rfl
 | false =>
 cases h3:(ZbP (begT u)).2 with
 | true=>rfl
 | false =>
 cases h4:(Zcs (begT u)).2 with
 | true=>rfl
 | false =>
 cases h5:(Zcg (begT u)).2 with
 | true=>rfl
 | false =>
 cases h6:(ZbR (begT u)).2 with
 | true=>rfl
 | false=>rfl
end Go.Proofs.Mill
/- Who has whose batch: what is kept of that from step to step. -/
namespace Go.Proofs.Mill
def seta {α:Type} (f:Int->α) (j:Int) (a:α):Int->α:=fun k=>if k=j then a else f k
theorem Zag {α:Type} {f:Int->α} {j:Int} {a:α}:seta f j a j=a:=if_pos rfl
theorem Zaf {α:Type} {f:Int->α} {j k:Int} {a:α} (h:k≠j):seta f j a k=f k:=if_neg h
theorem seta_same {α:Type} {f:Int->α} {j:Int}:seta f j (f j)=f:=by
 funext k
 unfold seta
 split
 . rename_i h;rw [h]
 . rfl
def InT (c:Config) (j:Int):Prop:=0<=j/\j<c.threads
def idxOf (b:List Entry) (j:Int):Nat:=(b.map (·.t)).findIdx (fun t=>t == j)
def Seg (a b:List Entry) (off:Nat):Prop:=a=(b.drop off).take a.length
theorem Seg.refl (a:List Entry):Seg a a 0:=by unfold Seg;simp
theorem Seg.left {a b d:List Entry} {off:Nat} (h:Seg a b off):Seg a (b++d) off:=by
 unfold Seg at h ⊢
 by_cases ho:off<=b.length
 . rw [List.drop_append_of_le_length ho,List.take_append_of_le_length]
   . exact h
   . have:=congrArg List.length h
     rw [List.length_take] at this
     omega
 . rw [List.drop_of_length_le (by omega),List.take_nil] at h
   subst h
   simp
theorem Seg.right {a b d:List Entry} {off:Nat} (h:Seg a b off):Seg a (d++b) (d.length+off):=by
 unfold Seg at h ⊢
 rw [List.drop_append,List.drop_of_length_le (by omega),List.nil_append,show d.length+off-d.length=off by omega]
 exact h
theorem Seg.trans {a b d:List Entry} {o1 o2:Nat} (h1:Seg a b o1) (h2:Seg b d o2):Seg a d (o2+o1):=by
 unfold Seg at h1 h2 ⊢
 have e:(b.drop o1).take a.length=(((d.drop o2).take b.length).drop o1).take a.length:=congrArg (fun x=>(List.drop o1 x).take a.length) h2
 rw [e,List.drop_take,List.drop_drop,List.take_take] at h1
 have hl:a.length=((d.drop (o2+o1)).take (min a.length (b.length-o1))).length:=congrArg List.length h1
 rw [List.length_take] at hl
 have hm:min a.length (b.length-o1)=a.length:=by omega
 rw [hm] at h1
 exact h1
theorem Seg.mem {a b:List Entry} {off:Nat} (h:Seg a b off) {e:Entry} (he:e∈a):e∈b:=by
 unfold Seg at h
 rw [h] at he
 exact List.mem_of_mem_drop (List.mem_of_mem_take he)
theorem ZtZ {e:Entry} {r:List Entry}:idxOf (e::r) e.t=0:=by simp [idxOf,List.findIdx_cons]
theorem ZB5 {b:List Entry} {e:Entry} (h:e∈b):idxOf b e.t<b.length:=by
 have:idxOf b e.t<(b.map (·.t)).length:=List.findIdx_lt_length_of_exists ⟨e.t,List.mem_map_of_mem h,by simp⟩
 rwa [List.length_map] at this
theorem ZBU {b:List Entry} (hn:(b.map (·.t)).Nodup) {i:Nat} (hi:i<b.length):idxOf b (b[i]).t=i:=by
 unfold idxOf
 have hi':i<(b.map (·.t)).length:=by rwa [List.length_map]
 have hex:(b.map (·.t)).findIdx (fun t=>t == (b[i]).t)<(b.map (·.t)).length:=List.findIdx_lt_length_of_exists ⟨(b[i]).t,List.mem_map_of_mem (List.getElem_mem hi),by simp⟩
 have h1:=List.findIdx_getElem (w:=hex)
 have h2:(b.map (·.t))[(b.map (·.t)).findIdx (fun t=>t == (b[i]).t)]=(b.map (·.t))[i]:=by
   rw [eq_of_beq h1,List.getElem_map]
 rcases Nat.lt_trichotomy ((b.map (·.t)).findIdx (fun t=>t == (b[i]).t)) i with hlt | heq | hgt
 . exact (List.pairwise_iff_getElem.1 hn _ _ hex hi' hlt h2).elim
 . exact heq
 . exact (List.pairwise_iff_getElem.1 hn _ _ hi' hex hgt h2.symm).elim
theorem ZvL {a b:List Entry} {off:Nat} (h:Seg a b off) (hn:(b.map (·.t)).Nodup) {e:Entry} {r:List Entry} (ha:a=e::r):idxOf b e.t=off:=by
 unfold Seg at h
 have hl:0<((b.drop off).take a.length).length:=by rw [<- h,ha];simp
 have ho:off<b.length:=by
   rw [List.length_take,List.length_drop] at hl
   omega
 have:b[off]=e:=by
   have h1:((b.drop off).take a.length)[0]'hl=e:=by
     have:a[0]'(by rw [ha];simp)=e:=by simp [ha]
     rw [<- this]
     congr 1
     exact h.symm
   rw [List.getElem_take,List.getElem_drop] at h1
   simpa using h1
 rw [<- this]
 exact ZBU hn ho
theorem Zpe (lo hi:Int):∀ (a b:List Entry) (x:Int),allT lo hi (a++b) x=allT lo hi b (allT lo hi a x)
 | [],_,_=>rfl
 | e :: a, b, x => by
   show allT lo hi (a++b) _=allT lo hi b (allT lo hi a _)
   exact Zpe lo hi a b _
structure Core (c:Config) (ba:Int->List Entry) (ks:Int->List Kid) (op:Int->Op) (it ro pa rt:Int->Int) (co:Int->Option Int):Prop where
  out:∀ j,ro j≠0->InT c j
  k0:∀ j,ro j=0->co j=none/\ks j=[]
  k1:∀ j,1<=ro j/\ro j<=4->co j=none/\rt j=j
  k2:∀ j,ro j=6\/ro j=7->co j≠none
  rng:∀ j,0<=ro j/\ro j<=7
  k3:∀ j,ro j≠0->∃ r,ba j=⟨j,op j⟩::r
  nod:∀ j,ro j≠0->((ba j).map (·.t)).Nodup
  ent:∀ j,ro j≠0->∀ e∈ba j,InT c e.t
  k4:∀ j,ro j≠0->co j=none->∀ e∈ba j,ro e.t≠0/\op e.t=e.op/\it e.t=it j/\co e.t=none/\rt e.t=rt j
  k5:∀ j,ro j≠0->co j=none->1<=ro (rt j)/\ro (rt j)<=4/\∃ off,Seg (ba j) (ba (rt j)) off
  k6:∀ j,ro j=5->∃ a,(⟨j,a⟩:Kid)∈ks (pa j)
  k7:∀ p,∀ k∈ks p,ro k.t=5/\pa k.t=p/\Seg (ba k.t) (ba p) k.ahead.toNat/\(co p=none->co k.t=none/\rt k.t=rt p)/\(∀ x,co p=some x->co k.t=some (allT c.lo c.hi ((ba p).take k.ahead.toNat) x))
  k8:∀ p,((ks p).map (·.t)).Nodup
section
variable {c:Config} {ba:Int->List Entry} {ks:Int->List Kid} {op:Int->Op} {it ro pa rt:Int->Int} {co:Int->Option Int}
theorem Core.kids_busy (h:Core c ba ks op it ro pa rt co) {p:Int} {k:Kid} (hk:k∈ks p):ro p≠0:=by
 intro h0
 rw [(h.k0 p h0).2] at hk
 cases hk
theorem Core.roles (h:Core c ba ks op it ro pa rt co) {ro' pa':Int->Int} (hr:∀ j,ro' j=ro j\/((1<=ro j/\ro j<=4)/\1<=ro' j/\ro' j<=4)) (hp:∀ j,ro j=5->pa' j=pa j):Core c ba ks op it ro' pa' rt co:=by
 have hz:∀ j,ro' j≠0↔ro j≠0:=fun j=>by have:=hr j;omega
 have h5:∀ j,ro' j=5↔ro j=5:=fun j=>by have:=hr j;omega
 have h14:∀ j,(1<=ro' j/\ro' j<=4)↔(1<=ro j/\ro j<=4):=fun j=>by have:=hr j;omega
 refine ⟨fun j hj=>h.out j ((hz j).1 hj),fun j hj=>h.k0 j (by have:=hz j;omega),fun j hj=>h.k1 j ((h14 j).1 hj),fun j hj=>h.k2 j (by have:=hr j;omega),fun j=>by have:=hr j;have:=h.rng j;omega,
   fun j hj=>h.k3 j ((hz j).1 hj),fun j hj=>h.nod j ((hz j).1 hj),fun j hj=>h.ent j ((hz j).1 hj),fun j hj hc e he=>?_,fun j hj hc=>?_,fun j hj=>?_,fun p k hk=>?_,h.k8⟩
 . obtain ⟨a,b⟩:=h.k4 j ((hz j).1 hj) hc e he
   exact ⟨(hz _).2 a,b⟩
 . obtain ⟨a,b,d⟩:=h.k5 j ((hz j).1 hj) hc
   have:=(h14 (rt j)).2 ⟨a,b⟩
   exact ⟨this.1,this.2,d⟩
 . obtain ⟨a,ha⟩:=h.k6 j ((h5 j).1 hj)
   rw [hp j ((h5 j).1 hj)]
   exact ⟨a,ha⟩
 . obtain ⟨a,b,d⟩:=h.k7 p k hk
   exact ⟨(h5 _).2 a,by rw [hp _ a];exact b,d⟩
theorem Core.take (h:Core c ba ks op it ro pa rt co) {p q:Int} (hp:ro p=1) (hq:ro q=2\/ro q=4) (hi:it p=it q) :
   Core c (seta ba p (ba p++ba q)) (seta ks p (ks p++[⟨q,(ba p).length⟩])) op it (seta ro q 5) (seta pa q p) (fun j=>if ro j≠0/\co j=none/\rt j=q then p else rt j) co:=by
 have hpq:p≠q:=by intro e;subst e;omega
 obtain ⟨cp,rp⟩:=h.k1 p (by omega)
 obtain ⟨cq,rq⟩:=h.k1 q (by omega)
 have hz:∀ j,seta ro q 5 j≠0↔ro j≠0:=fun j=>by
   by_cases e:j=q
   . subst e;rw [Zag];omega
   . rw [Zaf e]
 have hbne:∀ j,j≠p->seta ba p (ba p++ba q) j=ba j:=fun j hj=>Zaf hj
 have hseg:∀ {a:List Entry} {r:Int} {o:Nat},Seg a (ba r) o->Seg a (seta ba p (ba p++ba q) r) o:=by
   intro a r o hs
   by_cases e:r=p
   . subst e;rw [Zag];exact hs.left
   . rw [Zaf e];exact hs
 have hsp:∀ {j:Int},j≠p->seta ba p (ba p++ba q) j=ba j:=fun e=>Zaf e
 refine ⟨fun j hj=>h.out j ((hz j).1 hj),fun j hj=>?_,fun j hj=>?_,fun j hj=>?_,fun j=>?_,fun j hj=>?_,fun j hj=>?_,fun j hj e he=>?_,fun j hj hc e he=>?_,fun j hj hc=>?_,fun j hj=>?_,fun s k hk=>?_,fun s=>?_⟩
 . have h0:ro j=0:=by have:=hz j;omega
   have hj2:j≠p:=by intro e;subst e;omega
   rw [Zaf hj2]
   exact h.k0 j h0
 . have e:j≠q:=by intro e;subst e;rw [Zag] at hj;omega
   rw [Zaf e] at hj
   obtain ⟨a,b⟩:=h.k1 j hj
   refine ⟨a,?_⟩
   rw [if_neg (fun x=>e (by rw [b] at x;exact x.2.2))]
   exact b
 . have e:j≠q:=by intro e;subst e;rw [Zag] at hj;omega
   rw [Zaf e] at hj
   exact h.k2 j hj
 . by_cases e:j=q
   . subst e;rw [Zag];omega
   . rw [Zaf e];exact h.rng j
 . obtain ⟨r,hr⟩:=h.k3 j ((hz j).1 hj)
   by_cases e:j=p
   . subst e;rw [Zag,hr];exact ⟨r++ba q,rfl⟩
   . rw [Zaf e];exact ⟨r,hr⟩
 . by_cases e:j=p
   . subst e
     rw [Zag,List.map_append,List.nodup_append]
     refine ⟨h.nod j (by omega),h.nod q (by omega),?_⟩
     intro x hx y hy hxy
     subst hxy
     obtain ⟨e1,he1,rfl⟩:=List.mem_map.1 hx
     obtain ⟨e2,he2,he3⟩:=List.mem_map.1 hy
     have k1:=(h.k4 j (by omega) cp e1 he1).2.2.2.2
     have k2:=(h.k4 q (by omega) cq e2 he2).2.2.2.2
     rw [he3] at k2
     rw [k1,rp,rq] at k2
     exact hpq k2
   . rw [Zaf e];exact h.nod j ((hz j).1 hj)
 . by_cases e1:j=p
   . subst e1
     rw [Zag] at he
     rcases List.mem_append.1 he with he | he
     . exact h.ent j (by omega) e he
     . exact h.ent q (by omega) e he
   . rw [Zaf e1] at he
     exact h.ent j ((hz j).1 hj) e he
 . by_cases e1:j=p
   . subst e1
     rw [Zag] at he
     have hj1:(if ro j≠0/\co j=none/\rt j=q then j else rt j)=j:=by
       split
       . rfl
       . exact rp
     rw [hj1]
     rcases List.mem_append.1 he with he | he
     . obtain ⟨a,b,d,f,g⟩:=h.k4 j (by omega) cp e he
       refine ⟨(hz _).2 a,b,d,f,?_⟩
       rw [if_neg (fun x=>hpq (by rw [<- rp,<- g];exact x.2.2)),g,rp]
     . obtain ⟨a,b,d,f,g⟩:=h.k4 q (by omega) cq e he
       refine ⟨(hz _).2 a,b,by rw [d,hi],f,?_⟩
       rw [if_pos ⟨a,f,by rw [g,rq]⟩]
   . rw [Zaf e1] at he
     obtain ⟨a,b,d,f,g⟩:=h.k4 j ((hz j).1 hj) hc e he
     refine ⟨(hz _).2 a,b,d,f,?_⟩
     rw [g]
     by_cases x:rt j=q
     . rw [if_pos ⟨a,f,x⟩,if_pos ⟨(hz j).1 hj,hc,x⟩]
     . rw [if_neg (fun y=>x y.2.2),if_neg (fun y=>x y.2.2)]
 . have hj':=(hz j).1 hj
   obtain ⟨a,b,o,hs⟩:=h.k5 j hj' hc
   by_cases x:rt j=q
   . rw [if_pos ⟨hj',hc,x⟩]
     rw [Zaf hpq,hp]
     refine ⟨by omega,by omega,(ba p).length+o,?_⟩
     rw [Zag]
     have e1:j≠p:=by intro e1;subst e1;rw [rp] at x;exact hpq x
     rw [Zaf e1]
     rw [x] at hs
     exact hs.right
   . rw [if_neg (fun y=>x y.2.2),Zaf x]
     refine ⟨a,b,?_⟩
     by_cases e1:j=p
     . subst e1;rw [rp];exact ⟨0,Seg.refl _⟩
     . rw [Zaf e1];exact ⟨o,hseg hs⟩
 . by_cases e:j=q
   . subst e
     rw [Zag,Zag]
     exact ⟨_,List.mem_append_right _ (List.mem_singleton.2 rfl)⟩
   . rw [Zaf e] at hj ⊢
     obtain ⟨a,ha⟩:=h.k6 j hj
     refine ⟨a,?_⟩
     by_cases e2:pa j=p
     . rw [e2,Zag,<- e2];exact List.mem_append_left _ ha
     . rw [Zaf e2];exact ha
 . have old:k∈ks s->_:=fun hk=>h.k7 s k hk
   have hkq:∀ {s:Int} {k:Kid},k∈ks s->k.t≠q:=by
     intro s k hk e
     have:=(h.k7 s k hk).1
     rw [e] at this
     omega
   have hkp:∀ {s:Int} {k:Kid},k∈ks s->k.t≠p:=by
     intro s k hk e
     have:=(h.k7 s k hk).1
     rw [e] at this
     omega
   by_cases e:s=p
   . subst e
     rw [Zag] at hk
     rcases List.mem_append.1 hk with hk | hk
     . obtain ⟨a,b,d,f,g⟩:=h.k7 s k hk
       rw [Zaf (hkq hk),Zaf (hkq hk),Zaf (hkp hk),Zag]
       refine ⟨a,b,d.left,fun hc=>?_,fun x hx=>by rw [cp] at hx;cases hx⟩
       obtain ⟨f1,f2⟩:=f hc
       refine ⟨f1,?_⟩
       rw [f2,rp]
       rw [if_neg (fun y=>hpq y.2.2),if_neg (fun y=>hpq y.2.2)]
     . rw [List.mem_singleton] at hk
       subst hk
       show seta ro q 5 q=5/\seta pa q s q=s/\Seg (seta ba s (ba s++ba q) q) (seta ba s (ba s++ba q) s) ((ba s).length:Int).toNat/\_/\_
       rw [Zag,Zag,Zag,Zaf (fun x=>hpq x.symm),Int.toNat_natCast]
       refine ⟨rfl,rfl,by simpa using (Seg.refl (ba q)).right (d:=ba s),fun _=>⟨cq,?_⟩,fun x hx=>by rw [cp] at hx;cases hx⟩
       rw [if_pos (show ro q≠0/\co q=none/\rt q=q from ⟨by omega,cq,rq⟩),if_neg (fun y=>hpq (by rw [rp] at y;exact y.2.2)),rp]
   . rw [Zaf e] at hk
     obtain ⟨a,b,d,f,g⟩:=h.k7 s k hk
     rw [Zaf (hkq hk),Zaf (hkq hk),Zaf (hkp hk),Zaf e]
     refine ⟨a,b,d,fun hc=>?_,g⟩
     obtain ⟨f1,f2⟩:=f hc
     refine ⟨f1,?_⟩
     have hs0:=h.kids_busy hk
     rw [f2]
     by_cases x:rt s=q
     . rw [if_pos ⟨by omega,f1,x⟩,if_pos ⟨hs0,hc,x⟩]
     . rw [if_neg (fun y=>x y.2.2),if_neg (fun y=>x y.2.2)]
 . by_cases e:s=p
   . subst e
     rw [Zag,List.map_append,List.nodup_append]
     refine ⟨h.k8 s,by simp,?_⟩
     intro x hx y hy hxy
     subst hxy
     simp only [List.map_cons,List.map_nil,List.mem_singleton] at hy
     obtain ⟨k,hk,rfl⟩:=List.mem_map.1 hx
     have:=(h.k7 s k hk).1
     rw [hy] at this
     omega
   . rw [Zaf e];exact h.k8 s
def ZkT (c:Config) (ba:Int->List Entry) (ro rt:Int->Int) (co:Int->Option Int) (r x:Int):Int->Option Int :=
 fun j=>if ro j≠0/\co j=none/\rt j=r then some (allT c.lo c.hi ((ba r).take (idxOf (ba r) j)) x) else co j
theorem Core.commit (h:Core c ba ks op it ro pa rt co) {r x:Int} (hr:ro r=1) :
   Core c ba ks op it (seta ro r 7) pa rt (ZkT c ba ro rt co r x):=by
 obtain ⟨cr,rr⟩:=h.k1 r (by omega)
 have hz:∀ j,seta ro r 7 j≠0↔ro j≠0:=fun j=>by
   by_cases e:j=r
   . subst e;rw [Zag];omega
   . rw [Zaf e]
 have hin:∀ {j},ro j≠0->co j=none->rt j=r->ZkT c ba ro rt co r x j=some (allT c.lo c.hi ((ba r).take (idxOf (ba r) j)) x):=fun a b d=>if_pos ⟨a,b,d⟩
 have hout:∀ {j},¬(ro j≠0/\co j=none/\rt j=r)->ZkT c ba ro rt co r x j=co j:=fun a=>if_neg a
 have hnone:∀ {j},ZkT c ba ro rt co r x j=none->co j=none/\(ro j≠0->rt j≠r):=by
   intro j hj
   by_cases y:ro j≠0/\co j=none/\rt j=r
   . rw [hin y.1 y.2.1 y.2.2] at hj;cases hj
   . rw [hout y] at hj
     exact ⟨hj,fun a b=>y ⟨a,hj,b⟩⟩
 refine ⟨fun j hj=>h.out j ((hz j).1 hj),fun j hj=>?_,fun j hj=>?_,fun j hj=>?_,fun j=>?_,fun j hj=>h.k3 j ((hz j).1 hj),fun j hj=>h.nod j ((hz j).1 hj),fun j hj=>h.ent j ((hz j).1 hj),fun j hj hc e he=>?_,fun j hj hc=>?_,fun j hj=>?_,fun p k hk=>?_,h.k8⟩
 . have h0:ro j=0:=by have:=hz j;omega
   rw [hout (fun y=>y.1 h0)]
   exact h.k0 j h0
 . have e:j≠r:=by intro e;subst e;rw [Zag] at hj;omega
   rw [Zaf e] at hj
   obtain ⟨a,b⟩:=h.k1 j hj
   rw [hout (fun y=>e (by rw [b] at y;exact y.2.2))]
   exact ⟨a,b⟩
 . by_cases e:j=r
   . subst e
     rw [hin (by omega) cr rr]
     simp
   . rw [Zaf e] at hj
     intro hn
     exact h.k2 j hj (hnone hn).1
 . by_cases e:j=r
   . subst e;rw [Zag];omega
   . rw [Zaf e];exact h.rng j
 . obtain ⟨hc1,hc2⟩:=hnone hc
   have hj':=(hz j).1 hj
   obtain ⟨a,b,d,f,g⟩:=h.k4 j hj' hc1 e he
   refine ⟨(hz _).2 a,b,d,?_,g⟩
   rw [hout (fun y=>hc2 hj' (by rw [<- g];exact y.2.2))]
   exact f
 . obtain ⟨hc1,hc2⟩:=hnone hc
   have hj':=(hz j).1 hj
   obtain ⟨a,b,o⟩:=h.k5 j hj' hc1
   rw [Zaf (hc2 hj')]
   exact ⟨a,b,o⟩
 . have e:j≠r:=by intro e;subst e;rw [Zag] at hj;omega
   rw [Zaf e] at hj
   exact h.k6 j hj
 . obtain ⟨a,b,d,f,g⟩:=h.k7 p k hk
   have ekr:k.t≠r:=by intro e;rw [e] at a;omega
   rw [Zaf ekr]
   have hp0:=h.kids_busy hk
   refine ⟨a,b,d,fun hc=>?_,fun y hy=>?_⟩
   . obtain ⟨hc1,hc2⟩:=hnone hc
     obtain ⟨f1,f2⟩:=f hc1
     refine ⟨?_,f2⟩
     rw [hout (fun y=>hc2 hp0 (by rw [<- f2];exact y.2.2))]
     exact f1
   . by_cases z:ro p≠0/\co p=none/\rt p=r
     . rw [hin z.1 z.2.1 z.2.2] at hy
       obtain ⟨f1,f2⟩:=f z.2.1
       rw [hin (by omega) f1 (by rw [f2];exact z.2.2)]
       have hy:=Option.some.inj hy
       obtain ⟨_,_,o,hs⟩:=h.k5 p z.1 z.2.1
       rw [z.2.2] at hs
       obtain ⟨r1,hr1⟩:=h.k3 p z.1
       obtain ⟨r2,hr2⟩:=h.k3 k.t (by omega)
       have hn:=h.nod r (by omega)
       have i1:idxOf (ba r) p=o:=ZvL hs hn hr1
       have i2:idxOf (ba r) k.t=o+k.ahead.toNat:=ZvL (d.trans hs) hn hr2
       rw [i2,List.take_add,Zpe,<- i1,hy]
       congr 1
       congr 1
       have hlen:k.ahead.toNat<=(ba p).length:=by
         unfold Seg at d
         have:=congrArg List.length d
         rw [hr2,List.length_take,List.length_drop] at this
         simp at this
         omega
       have hs':=hs
       unfold Seg at hs'
       rw [hs',List.take_take,Nat.min_eq_left hlen,i1]
     . rw [hout z] at hy
       have:=g y hy
       rw [hout (fun w=>by rw [this] at w;cases w.2.1)]
       exact this
theorem Core.done (h:Core c ba ks op it ro pa rt co) {t:Int} (ht:ro t=7) (hk:ks t=[]):Core c ba ks op it (seta ro t 0) pa rt (seta co t none):=by
 have hct:co t≠none:=h.k2 t (.inr ht)
 have hz:∀ j,j≠t->(seta ro t 0 j=ro j/\seta co t none j=co j):=fun j hj=>⟨Zaf hj,Zaf hj⟩
 have hne:∀ {j},seta ro t 0 j≠0->j≠t/\ro j≠0:=fun {j} hj=>by
   have e:j≠t:=by intro e;subst e;rw [Zag] at hj;exact hj rfl
   rw [Zaf e] at hj
   exact ⟨e,hj⟩
 refine ⟨fun j hj=>h.out j (hne hj).2,fun j hj=>?_,fun j hj=>?_,fun j hj=>?_,fun j=>?_,fun j hj=>h.k3 j (hne hj).2,fun j hj=>h.nod j (hne hj).2,fun j hj=>h.ent j (hne hj).2,fun j hj hc e he=>?_,fun j hj hc=>?_,fun j hj=>?_,fun p k hkp=>?_,h.k8⟩
 . by_cases e:j=t
   . subst e;exact ⟨Zag,hk⟩
   . rw [Zaf e] at hj ⊢
     exact h.k0 j hj
 . obtain ⟨e,_⟩:=hne (j:=j) (by omega)
   rw [Zaf e] at hj ⊢
   exact h.k1 j hj
 . obtain ⟨e,_⟩:=hne (j:=j) (by omega)
   rw [Zaf e] at hj ⊢
   exact h.k2 j hj
 . by_cases e:j=t
   . subst e;rw [Zag];omega
   . rw [Zaf e];exact h.rng j
 . obtain ⟨e1,h1⟩:=hne hj
   rw [Zaf e1] at hc
   obtain ⟨a,b,d,f,g⟩:=h.k4 j h1 hc e he
   have e2:e.t≠t:=by intro e2;rw [e2] at f;exact hct f
   rw [Zaf e2,Zaf e2]
   exact ⟨a,b,d,f,g⟩
 . obtain ⟨e1,h1⟩:=hne hj
   rw [Zaf e1] at hc
   obtain ⟨a,b,o⟩:=h.k5 j h1 hc
   have e2:rt j≠t:=by intro e2;rw [e2] at a b;omega
   rw [Zaf e2]
   exact ⟨a,b,o⟩
 . obtain ⟨e,_⟩:=hne (j:=j) (by omega)
   rw [Zaf e] at hj
   exact h.k6 j hj
 . obtain ⟨a,b,d,f,g⟩:=h.k7 p k hkp
   have e2:k.t≠t:=by intro e2;rw [e2] at a;omega
   have e3:p≠t:=by intro e3;rw [e3,hk] at hkp;cases hkp
   rw [Zaf e2,Zaf e2,Zaf e3]
   exact ⟨a,b,d,f,g⟩
theorem Core.tell (h:Core c ba ks op it ro pa rt co) {p:Int} {k:Kid} {rest:List Kid} (hp:ro p=7) (hk:ks p=k::rest):Core c ba (seta ks p rest) op it (seta ro k.t 6) pa rt co:=by
 have hkm:k∈ks p:=by rw [hk];exact List.mem_cons_self ..
 obtain ⟨k5,kpa,kseg,kc1,kc2⟩:=h.k7 p k hkm
 have hcp:co p≠none:=h.k2 p (.inr hp)
 have hck:co k.t≠none:=by
   cases hc:co p with
   | none=>exact (hcp hc).elim
   | some x=>rw [kc2 x hc];simp
 have hnod:=h.k8 p
 rw [hk,List.map_cons,List.nodup_cons] at hnod
 have hz:∀ j,seta ro k.t 6 j≠0↔ro j≠0:=fun j=>by
   by_cases e:j=k.t
   . subst e;rw [Zag];omega
   . rw [Zaf e]
 have hsub:∀ {s:Int} {k':Kid},k'∈seta ks p rest s->k'∈ks s/\k'.t≠k.t:=by
   intro s k' hk'
   by_cases e:s=p
   . subst e
     rw [Zag] at hk'
     refine ⟨by rw [hk];exact List.mem_cons_of_mem _ hk',?_⟩
     intro e2
     exact hnod.1 (by rw [<- e2];exact List.mem_map_of_mem hk')
   . rw [Zaf e] at hk'
     refine ⟨hk',?_⟩
     intro e2
     have:=(h.k7 s k' hk').2.1
     rw [e2,kpa] at this
     exact e this.symm
 refine ⟨fun j hj=>h.out j ((hz j).1 hj),fun j hj=>?_,fun j hj=>?_,fun j hj=>?_,fun j=>?_,fun j hj=>h.k3 j ((hz j).1 hj),fun j hj=>h.nod j ((hz j).1 hj),fun j hj=>h.ent j ((hz j).1 hj),fun j hj hc e he=>?_,fun j hj hc=>?_,fun j hj=>?_,fun s k' hks=>?_,fun s=>?_⟩
 . have h0:ro j=0:=by have:=hz j;omega
   have e:j≠p:=by intro e;subst e;omega
   rw [Zaf e]
   exact h.k0 j h0
 . have e:j≠k.t:=by intro e;subst e;rw [Zag] at hj;omega
   rw [Zaf e] at hj
   exact h.k1 j hj
 . by_cases e:j=k.t
   . subst e;exact hck
   . rw [Zaf e] at hj;exact h.k2 j hj
 . by_cases e:j=k.t
   . subst e;rw [Zag];omega
   . rw [Zaf e];exact h.rng j
 . obtain ⟨a,b⟩:=h.k4 j ((hz j).1 hj) hc e he
   exact ⟨(hz _).2 a,b⟩
 . obtain ⟨a,b,o⟩:=h.k5 j ((hz j).1 hj) hc
   have e:rt j≠k.t:=by intro e;rw [e] at a b;omega
   rw [Zaf e]
   exact ⟨a,b,o⟩
 . have e:j≠k.t:=by intro e;subst e;rw [Zag] at hj;omega
   rw [Zaf e] at hj
   obtain ⟨a,ha⟩:=h.k6 j hj
   refine ⟨a,?_⟩
   by_cases e2:pa j=p
   . rw [e2,Zag]
     rw [e2,hk] at ha
     rcases List.mem_cons.1 ha with h1 | h1
     . exact (e (by rw [<- h1])).elim
     . exact h1
   . rw [Zaf e2];exact ha
 . obtain ⟨h1,h2⟩:=hsub hks
   rw [Zaf h2]
   exact h.k7 s k' h1
 . by_cases e:s=p
   . subst e;rw [Zag];exact hnod.2
   . rw [Zaf e];exact h.k8 s
theorem Core.told (h:Core c ba ks op it ro pa rt co) {t:Int} (ht:ro t=6):Core c ba ks op it (seta ro t 7) pa rt co:=by
 have hct:co t≠none:=h.k2 t (.inl ht)
 have hz:∀ j,seta ro t 7 j≠0↔ro j≠0:=fun j=>by
   by_cases e:j=t
   . subst e;rw [Zag];omega
   . rw [Zaf e]
 refine ⟨fun j hj=>h.out j ((hz j).1 hj),fun j hj=>?_,fun j hj=>?_,fun j hj=>?_,fun j=>?_,fun j hj=>h.k3 j ((hz j).1 hj),fun j hj=>h.nod j ((hz j).1 hj),fun j hj=>h.ent j ((hz j).1 hj),fun j hj hc e he=>?_,fun j hj hc=>?_,fun j hj=>?_,fun s k' hks=>?_,h.k8⟩
 . exact h.k0 j (by have:=hz j;omega)
 . have e:j≠t:=by intro e;subst e;rw [Zag] at hj;omega
   rw [Zaf e] at hj
   exact h.k1 j hj
 . by_cases e:j=t
   . subst e;exact hct
   . rw [Zaf e] at hj;exact h.k2 j hj
 . by_cases e:j=t
   . subst e;rw [Zag];omega
   . rw [Zaf e];exact h.rng j
 . obtain ⟨a,b⟩:=h.k4 j ((hz j).1 hj) hc e he
   exact ⟨(hz _).2 a,b⟩
 . obtain ⟨a,b,o⟩:=h.k5 j ((hz j).1 hj) hc
   have e:rt j≠t:=by intro e;rw [e] at a b;omega
   rw [Zaf e]
   exact ⟨a,b,o⟩
 . have e:j≠t:=by intro e;subst e;rw [Zag] at hj;omega
   rw [Zaf e] at hj
   exact h.k6 j hj
 . obtain ⟨a,b⟩:=h.k7 s k' hks
   have e:k'.t≠t:=by intro e;rw [e] at a;omega
   rw [Zaf e]
   exact ⟨a,b⟩
theorem Core.invoke (h:Core c ba ks op it ro pa rt co) {t i:Int} {o:Op} (ht:ro t=0) (hin:InT c t) :
   Core c (seta ba t [⟨t,o⟩]) ks (seta op t o) (seta it t i) (seta ro t 1) pa (seta rt t t) co:=by
 obtain ⟨ct,kt⟩:=h.k0 t ht
 have hb:∀ {j},seta ro t 1 j≠0->j≠t->ro j≠0:=fun {j} hj e=>by rwa [Zaf e] at hj
 have ntr:∀ {j},ro j≠0->co j=none->rt j≠t:=fun {j} hj hc e=>by
   have:=(h.k5 j hj hc).1
   rw [e] at this
   omega
 refine ⟨fun j hj=>?_,fun j hj=>?_,fun j hj=>?_,fun j hj=>?_,fun j=>?_,fun j hj=>?_,fun j hj=>?_,fun j hj e he=>?_,fun j hj hc e he=>?_,fun j hj hc=>?_,fun j hj=>?_,fun s k hk=>?_,h.k8⟩
 . by_cases e:j=t
   . subst e;exact hin
   . exact h.out j (hb hj e)
 . have e:j≠t:=by intro e;subst e;rw [Zag] at hj;omega
   rw [Zaf e] at hj
   exact h.k0 j hj
 . by_cases e:j=t
   . subst e;rw [Zag];exact ⟨ct,rfl⟩
   . rw [Zaf e] at hj ⊢;exact h.k1 j hj
 . have e:j≠t:=by intro e;subst e;rw [Zag] at hj;omega
   rw [Zaf e] at hj
   exact h.k2 j hj
 . by_cases e:j=t
   . subst e;rw [Zag];omega
   . rw [Zaf e];exact h.rng j
 . by_cases e:j=t
   . subst e;rw [Zag,Zag];exact ⟨[],rfl⟩
   . rw [Zaf e,Zaf e];exact h.k3 j (hb hj e)
 . by_cases e:j=t
   . subst e;rw [Zag];simp
   . rw [Zaf e];exact h.nod j (hb hj e)
 . by_cases e1:j=t
   . subst e1
     rw [Zag,List.mem_singleton] at he
     subst he
     exact hin
   . rw [Zaf e1] at he;exact h.ent j (hb hj e1) e he
 . by_cases e1:j=t
   . subst e1
     rw [Zag,List.mem_singleton] at he
     subst he
     show seta ro j 1 j≠0/\seta op j o j=o/\seta it j i j=seta it j i j/\co j=none/\seta rt j j j=seta rt j j j
     rw [Zag,Zag]
     exact ⟨by omega,rfl,rfl,ct,rfl⟩
   . rw [Zaf e1] at he
     obtain ⟨a,b,d,f,g⟩:=h.k4 j (hb hj e1) hc e he
     have e2:e.t≠t:=by intro e2;rw [e2] at a;exact a ht
     rw [Zaf e2,Zaf e2,Zaf e2,Zaf e2,Zaf e1,Zaf e1]
     exact ⟨a,b,d,f,g⟩
 . by_cases e1:j=t
   . subst e1
     rw [Zag,Zag]
     exact ⟨by omega,by omega,0,Seg.refl _⟩
   . obtain ⟨a,b,s,hs⟩:=h.k5 j (hb hj e1) hc
     have e2:=ntr (hb hj e1) hc
     rw [Zaf e1,Zaf e2,Zaf e2,Zaf e1]
     exact ⟨a,b,s,hs⟩
 . have e:j≠t:=by intro e;subst e;rw [Zag] at hj;omega
   rw [Zaf e] at hj
   exact h.k6 j hj
 . obtain ⟨a,b,d,f,g⟩:=h.k7 s k hk
   have e1:k.t≠t:=by intro e;rw [e] at a;omega
   have e2:s≠t:=by intro e;exact h.kids_busy hk (by rw [e];exact ht)
   rw [Zaf e1,Zaf e1,Zaf e1,Zaf e2,Zaf e2]
   exact ⟨a,b,d,f,g⟩
end
end Go.Proofs.Mill
/- The plain law of MachineOne. -/
namespace Go.Proofs.Mill
def One (m n:Memo):Prop:=(∃ a w,n={ m with words:=m.words.set a w })\/(∃ i b,n={ m with boxes:=m.boxes.set i b })\/n=m
theorem One.refl (m:Memo):One m m:=.inr (.inr rfl)
theorem One.word (m:Memo) (a:Nat) (w:Int):One m { m with words:=m.words.set a w }:=.inl ⟨a,w,rfl⟩
theorem One.box (m:Memo) (i:Nat) (b:List Entry):One m { m with boxes:=m.boxes.set i b }:=.inr (.inl ⟨i,b,rfl⟩)
theorem One.same {m n k:Memo} (h:One m n) (e:k=n):One m k:=e ▸ h
theorem Zlf (u:Turn):(Zch u).m=u.m:=by unfold Zch;split <;> rfl
theorem Zza (u:Turn):(Zfv u).m=u.m:=by
                                                      unfold Zfv;repeat' split
                                                      all_goals rfl
theorem ZBm (u:Turn) (w:Int):(ZhN u w).m=u.m:=by
                                                                unfold ZhN;repeat' split
                                                                all_goals rfl
theorem Zy6 (u:Turn):(Zeq u).m=u.m:=by unfold Zeq;split <;> rfl
theorem ZrP (u:Turn):(Zdl u).m=u.m:=by unfold Zdl;split <;> rfl
theorem ZwW (u:Turn):One u.m (Zcb u).1.m:=by
 unfold Zcb
 split
 . exact (One.word u.m _ 0).same (Zza _)
 . exact One.refl _
theorem Zwm (u:Turn):One u.m (Zb5 u).1.m:=by
 unfold Zb5
 split
 . show One u.m (if _ then _ else _:Turn).m
   split <;> exact One.refl _
 split
 . exact (One.refl u.m).same (Zlf _)
 split
 . show One u.m (if _ then _ else _:Turn).m
   split
   . exact One.refl _
   . split
     . exact One.refl _
     . exact One.word u.m _ _
 split
 . show One u.m (if _ then _ else _:Turn).m
   split
   . exact One.refl _
   . split
     . exact One.refl _
     . exact (One.word u.m _ _).same (Zlf _)
 exact One.refl _
theorem ZuP (u:Turn):One u.m (ZbP u).1.m:=by
 unfold ZbP
 split
 . show One u.m (Zec u).m
   unfold Zec
   split
   . exact (One.word u.m _ _).same (Zlf _)
   . exact One.refl _
 split
 . show One u.m (if _ then _ else _:Turn).m
   split
   . exact (One.refl u.m).same (Zlf _)
   . split
     . exact (One.refl u.m).same (ZrP _)
     . exact One.refl _
 exact One.refl _
theorem Zw1 (u:Turn):One u.m (Zcs u).1.m:=by
 unfold Zcs
 split
 . show One u.m (if _ then _ else _:Turn).m
   split
   . exact One.refl _
   . exact (One.refl u.m).same (ZBm _ _)
 split
 . show One u.m (if _ then _ else _:Turn).m
   split
   . exact One.refl _
   . split
     . exact (One.word u.m _ _).same (Zy6 _)
     . exact One.refl _
 split
 . show One u.m (if _ then _ else _:Turn).m
   split
   . exact One.refl _
   . split
     . exact One.word u.m _ _
     . exact One.refl _
 exact One.refl _
theorem Zuz (u:Turn):One u.m (Zcg u).1.m:=by
 unfold Zcg
 repeat' split
 all_goals first
   | exact One.refl _
   | exact One.word u.m _ _
   | exact One.box u.m _ _
theorem ZtE (u:Turn):One u.m (ZbR u).1.m:=by
 unfold ZbR
 split
 . exact One.box u.m _ _
 split
 . exact One.word u.m _ _
 split
 . show One u.m (swapT u).m
   unfold swapT
   repeat' split
   all_goals first | exact One.refl _ | exact One.word u.m _ _
 split
 . show One u.m (ZbO u u.t 21 13).m
   unfold ZbO
   repeat' split
   all_goals first | exact One.refl _ | exact One.word u.m _ _
 split
 . show One u.m (ZbO u u.th.who 22 24).m
   unfold ZbO
   repeat' split
   all_goals first | exact One.refl _ | exact One.word u.m _ _
 split
 . show One u.m (ZfH u).m
   unfold ZfH
   split <;> exact One.refl _
 split
 . show One u.m (ZiY u).m
   unfold ZiY
   repeat' split
   all_goals exact One.refl _
 split
 . exact One.word u.m _ _
 split
 . show One u.m (ZgT u).m
   unfold ZgT
   split
   . exact (One.word u.m _ _).same (ZrP _)
   . exact One.refl _
 exact One.refl _
theorem ZtL (u:Turn):One u.m (ZaM u).m:=by
 unfold ZaM
 split
 . exact One.refl _
 split
 . exact ZwW (begT u)
 split
 . exact Zwm (begT u)
 split
 . exact ZuP (begT u)
 split
 . exact Zw1 (begT u)
 split
 . exact Zuz (begT u)
 split
 . exact ZtE (begT u)
 exact One.refl _
def Box1 (u:Turn) (m:Memo):Prop:=m.boxes=u.m.boxes\/m.boxes=u.m.boxes.set u.t.toNat u.th.batch
theorem Box1.same {u:Turn} {m k:Memo} (h:Box1 u m) (e:k=m):Box1 u k:=e ▸ h
end Go.Proofs.Mill
/- The plain law of MachineLogs. -/
namespace Go.Proofs.Mill
def Quiet (u v:Turn):Prop:=v.log=u.log/\(v.done=u.done\/v.th.phase=0)
theorem Quiet.refl (u:Turn):Quiet u u:=⟨rfl,.inl rfl⟩
end Go.Proofs.Mill
/- A memory that was just built, a thread that begins, a machine alone. -/
namespace Go.Proofs.Mill
def ZeE (c:Config):Nat->List Int
 | 0=>List.replicate (sizeOf c).toNat 0
 | k+1=>(ZeE c k).set ((k:Int)*Zay c).toNat c.init
theorem Zf6 (c:Config):∀ k,(ZeE c k).length=(sizeOf c).toNat
 | 0=>by simp [ZeE]
 | k+1=>by simp [ZeE,Zf6 c k]
theorem Zmy {c:Config} (h:Num c.init):∀ k,∀ n∈ZeE c k,Num n
 | 0 => by
   intro n hn
   have:=List.eq_of_mem_replicate hn
   subst this
   exact ⟨by omega,by omega⟩
 | k + 1 => by
   intro n hn
   rcases List.mem_or_eq_of_mem_set hn with h1 | rfl
   . exact Zmy h k n h1
   . exact h
theorem Zi4 {c:Config} (h:CfgOK c):1<=sizeOf c/\sizeOf c<=192:=by
 have:=Za9 h
 have:=h.threads
 unfold sizeOf
 omega
theorem Zoi {c:Config} (h:CfgOK c) {i:Int} (h0:0<=i) (h1:i<c.items):0<=i*Zay c/\i*Zay c<Za1 c/\i*Zay c<sizeOf c:=by
 have a:=Zda h (i:=i+1) (by omega) (by omega)
 have b:=ZdB h
 have c1:=Zda h (i:=i) h0 (by omega)
 have e:(i+1)*Zay c=i*Zay c+Zay c:=by rw [Int.add_mul,Int.one_mul]
 have:=h.threads
 unfold sizeOf
 omega
theorem Zp6 {c:Config} (h:CfgOK c):∀ (k:Nat),(k:Int)<=c.items->∀ j:Nat,j<k->(ZeE c k).getD ((j:Int)*Zay c).toNat 0=c.init
 | 0,_,j,hj=>by omega
 | k + 1, hk, j, hj => by
   have hk':=Zoi h (i:=(k:Int)) (by omega) (by omega)
   unfold ZeE
   rw [List.getD_eq_getElem?_getD]
   by_cases e:j=k
   . subst e
     rw [List.getElem?_set_self (by rw [Zf6];omega),Option.getD_some]
   . have hb:=ZdB h
     have hne:((k:Int)*Zay c).toNat≠((j:Int)*Zay c).toNat:=by
       intro e2
       have hj':=Zoi h (i:=(j:Int)) (by omega) (by omega)
       have e3:(k:Int)*Zay c=(j:Int)*Zay c:=by omega
       have:=Int.eq_of_mul_eq_mul_right (by omega) e3
       omega
     rw [List.getElem?_set_ne hne,<- List.getD_eq_getElem?_getD]
     exact Zp6 h k (by omega) j (by omega)
def Zc1 (c:Config):Memo:=⟨ZeE c c.items.toNat,List.replicate c.threads.toNat []⟩
theorem ZuA {c:Config} (h:CfgOK c):Zjt c=some (Zc1 c):=by
 have hs:=Zi4 h
 have ht:=h.threads
 have hi:=h.items
 have hl:=Za9 h
 unfold Zjt
 have e1:Zkf c=some (sizeOf c):=by
   show Zkb c=_
   unfold Zkb
   simp only [Zcm,ZiO h]
   rw [Zat (n:=(2:Int)*c.threads) (by omega) (by omega),Zat (by omega) (by omega)]
   rfl
 have e2:Zma (sizeOf c,c.threads)=some ⟨List.replicate (sizeOf c).toNat 0,List.replicate c.threads.toNat []⟩:=by
   show Zmw _ _=_
   simp only [Zmw,ZhL,Zk6,Zer,ZfZ,Zaw,beq_self_eq_true,cond_true]
   rw [if_neg (show ¬sizeOf c<1 by omega),if_neg (show ¬sizeOf c>10000 by omega),if_pos (show 0<=sizeOf c by omega),if_pos (show sizeOf c<=Zbz by unfold Zbz;omega),
     if_neg (show ¬c.threads<1 by omega),if_neg (show ¬c.threads>10000 by omega),if_pos (show 0<=c.threads by omega),if_pos (show c.threads<=Zbz by unfold Zbz;omega)]
 simp only [e1,e2]
 have hw:ZkY (c,⟨[],[]⟩,⟨List.replicate (sizeOf c).toNat 0,List.replicate c.threads.toNat []⟩,c.items,0)=some (⟨[],[]⟩,Zc1 c):=by
   have h0:=Zd4 (step:=ZfV) (fun k=>(c,⟨[],[]⟩,(⟨ZeE c k,List.replicate c.threads.toNat []⟩:Memo),c.items,(k:Int))) c.items.toNat (y:=(⟨[],[]⟩,Zc1 c)) (fun k hk=>?_) ?_
   . exact h0
   . show ZeN _ _ _ _ _=_
     unfold ZeN
     have hkc:=Zoi h (i:=(k:Int)) (by omega) (by omega)
     have hcell:Zc3 (c,(k:Int))=some ((k:Int)*Zay c):=by
       show Zie _ _=_
       rw [Zl6 h]
       unfold cellAt
       rw [if_neg (by omega)]
     simp only [Zaw,hcell]
     rw [if_pos (by omega),if_pos hkc.1,if_pos (by rw [Zf6];omega),Zat (by omega) (by omega)]
     rfl
   . show ZeN _ _ _ _ _=_
     unfold ZeN
     simp only [Zaw]
     rw [if_neg (by omega)]
     rfl
 rw [hw]
theorem Zxc (d t:Int) (h0:0<=d) (h1:d<=4):∃ y,Ze6 d t=some y:=by
 unfold Ze6
 simp only [Zaw]
 by_cases h:d<1
 . exact ⟨0,by rw [if_pos h]⟩
 . rw [if_neg h,Zat (n:=d-1) (by omega) (by omega),if_neg (by omega)]
   exact ⟨_,rfl⟩
def ZlD (c:Config) (t:Int):Int:=(Ze6 c.depth t).getD 0
theorem Zvr {c:Config} (h:CfgOK c) (t:Int):Ze6 c.depth t=some (ZlD c t):=by
 obtain ⟨y,hy⟩:=Zxc c.depth t h.depth.1 h.depth.2
 rw [ZlD,hy];rfl
def Zfz (c:Config) (t item:Int) (op:Op) (now w:Int):Thread :=
 ⟨1,item,op,[⟨t,op⟩],[],[],0,ZlD c t,0,0,0,w,0,0,0,if c.wait>0 then Zad .i64 (now+c.wait) else 0⟩
theorem ZnL {c:Config} (h:CfgOK c) (t:Int) (th:Thread) (item:Int) (op:Op) (now:Int):Ziq c t th item op now=some (Zfz c t item op now th.width):=by
 unfold Ziq Zfz
 simp only [ZkQ,Zvr h,Zaw]
 by_cases e:c.wait>0
 . rw [if_pos e,if_pos e]
 . rw [if_neg e,if_neg e]
end Go.Proofs.Mill
