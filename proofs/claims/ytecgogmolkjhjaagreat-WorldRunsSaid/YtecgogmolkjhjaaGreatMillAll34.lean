/- Parts of the proof: MillRCfg, MillRTurn, MillRBase, MillRClimb, MillRMachine, MillRGather, MillRGather2, MillRCollide, MillRApply, MillRStep, MillRCore, MillRMOne, MillRMLogs, MillRStart. -/
import Derived.Test.YtecgogmolkjhjaaGreatMillP0
import Derived.Test.YtecgogmolkjhjaaGreatMillFCa
import Derived.Test.YtecgogmolkjhjaaGreatMillAll4
import Derived.KernelRfl
set_option linter.all false
noncomputable section
namespace Go.Proofs.Mill
structure CfgOK (c:Config):Prop where
  threads:1<=c.threads/\c.threads<=16
  items:1<=c.items/\c.items<=4
  backend:1<=c.backend/\c.backend<=3
  depth:0<=c.depth/\c.depth<=4
  layers:0<=c.layers/\c.layers<=3
  width:1<=c.width/\c.width<=8
  spin:0<=c.spin/\c.spin<=20
  wait:0<=c.wait/\c.wait<=1000
  bounds:c.bounded=true->c.lo<=c.init/\c.init<=c.hi
theorem Zg3 (c:Config):∃ e,ZdT c=some e/\(e=0↔CfgOK c):=by
 unfold ZdT
 simp only [Zap]
 by_cases h0:c.threads<1
 . exact ⟨50,by rw [if_pos h0],by simp,fun h=>by have:=h.threads;omega⟩
 rw [if_neg h0]
 by_cases h1:c.threads>16
 . exact ⟨50,by rw [if_pos h1],by simp,fun h=>by have:=h.threads;omega⟩
 rw [if_neg h1]
 by_cases h2:c.items<1
 . exact ⟨51,by rw [if_pos h2],by simp,fun h=>by have:=h.items;omega⟩
 rw [if_neg h2]
 by_cases h3:c.items>4
 . exact ⟨51,by rw [if_pos h3],by simp,fun h=>by have:=h.items;omega⟩
 rw [if_neg h3]
 by_cases h4:c.backend<1
 . exact ⟨52,by rw [if_pos h4],by simp,fun h=>by have:=h.backend;omega⟩
 rw [if_neg h4]
 by_cases h5:c.backend>3
 . exact ⟨52,by rw [if_pos h5],by simp,fun h=>by have:=h.backend;omega⟩
 rw [if_neg h5]
 by_cases h6:c.depth<0
 . exact ⟨53,by rw [if_pos h6],by simp,fun h=>by have:=h.depth;omega⟩
 rw [if_neg h6]
 by_cases h7:c.depth>4
 . exact ⟨53,by rw [if_pos h7],by simp,fun h=>by have:=h.depth;omega⟩
 rw [if_neg h7]
 by_cases h8:c.layers<0
 . exact ⟨54,by rw [if_pos h8],by simp,fun h=>by have:=h.layers;omega⟩
 rw [if_neg h8]
 by_cases h9:c.layers>3
 . exact ⟨54,by rw [if_pos h9],by simp,fun h=>by have:=h.layers;omega⟩
 rw [if_neg h9]
 by_cases h10:c.width<1
 . exact ⟨55,by rw [if_pos h10],by simp,fun h=>by have:=h.width;omega⟩
 rw [if_neg h10]
 by_cases h11:c.width>8
 . exact ⟨55,by rw [if_pos h11],by simp,fun h=>by have:=h.width;omega⟩
 rw [if_neg h11]
 by_cases h12:c.spin<0
 . exact ⟨56,by rw [if_pos h12],by simp,fun h=>by have:=h.spin;omega⟩
 rw [if_neg h12]
 by_cases h13:c.spin>20
 . exact ⟨56,by rw [if_pos h13],by simp,fun h=>by have:=h.spin;omega⟩
 rw [if_neg h13]
 by_cases h14:c.wait<0
 . exact ⟨57,by rw [if_pos h14],by simp,fun h=>by have:=h.wait;omega⟩
 rw [if_neg h14]
 by_cases h15:c.wait>1000
 . exact ⟨57,by rw [if_pos h15],by simp,fun h=>by have:=h.wait;omega⟩
 rw [if_neg h15]
 cases hb:c.bounded with
 | false=>exact ⟨0,rfl,fun _=>⟨by omega,by omega,by omega,by omega,by omega,by omega,by omega,by omega,fun h=>by rw [hb] at h;cases h⟩,fun _=>rfl⟩
 | true =>
   simp only [cond_true]
   by_cases k1:c.lo>c.init
   . exact ⟨58,by rw [if_pos k1],by simp,fun h=>by have:=h.bounds hb;omega⟩
   rw [if_neg k1]
   by_cases k2:c.init>c.hi
   . exact ⟨58,by rw [if_pos k2],by simp,fun h=>by have:=h.bounds hb;omega⟩
   rw [if_neg k2]
   exact ⟨0,rfl,fun _=>⟨by omega,by omega,by omega,by omega,by omega,by omega,by omega,by omega,fun _=>by omega⟩,fun _=>rfl⟩
end Go.Proofs.Mill
namespace Go.Proofs.Mill
structure Sm (n:Nat) (u:Turn):Prop where
  words:u.m.words.length<=n
  boxes:u.m.boxes.length<=n
  box:∀ b∈u.m.boxes,b.length<=n
  batch:u.th.batch.length<=n
  kids:u.th.kids.length<=n
  held:u.th.held.length<=n
  tape:u.tape.l.length<=n
  log:u.log.length<=n
end Go.Proofs.Mill
namespace Go.Proofs.Mill
def ZaJ (c:Config):Int:=if c.depth=0 then 0 else if c.depth=1 then 1 else if c.depth=2 then 3 else if c.depth=3 then 7 else 15
def ZaA (c:Config):Int:=1+ZaJ c+c.layers*c.width
def Za0 (c:Config):Int:=c.items*ZaA c
def sizeOf (c:Config):Int:=Za0 c+2*c.threads
theorem ZA1 {c:Config} (h:CfgOK c):c.depth=0\/c.depth=1\/c.depth=2\/c.depth=3\/c.depth=4:=by have:=h.depth;omega
theorem Zbr (c:Config):0<=ZaJ c/\ZaJ c<=15:=by
 unfold ZaJ
 repeat' split
 all_goals omega
theorem Zey {c:Config} (h:CfgOK c):0<=c.layers*c.width/\c.layers*c.width<=24:=by
 have h1:=h.layers
 have h2:=h.width
 have:c.layers=0\/c.layers=1\/c.layers=2\/c.layers=3:=by omega
 rcases this with e | e | e | e <;> rw [e] <;> omega
theorem ZcQ {c:Config} (h:CfgOK c):1<=ZaA c/\ZaA c<=40:=by
 have h1:=Zey h
 have h2:=Zbr c
 unfold ZaA
 omega
theorem ZcN {c:Config} (h:CfgOK c) {i:Int} (h0:0<=i) (h1:i<=c.items):0<=i*ZaA c/\i*ZaA c<=Za0 c:=by
 have hb:=ZcQ h
 refine ⟨Int.mul_nonneg h0 (by omega),Int.mul_le_mul_of_nonneg_right h1 (by omega)⟩
theorem Za3 {c:Config} (h:CfgOK c):1<=Za0 c/\Za0 c<=160:=by
 have hb:=ZcQ h
 have h1:=h.items
 unfold Za0
 have:c.items=1\/c.items=2\/c.items=3\/c.items=4:=by omega
 rcases this with e | e | e | e <;> rw [e] <;> omega
theorem Zop {c:Config} (h:CfgOK c):Zlu c=some (ZaJ c):=by
 have hd:=h.depth
 have hw:ZnK (c,1,0)=some (ZaJ c+1):=by
   have hn:ZaJ c+1=2 ^ c.depth.toNat:=by
     unfold ZaJ
     rcases ZA1 h with e | e | e | e | e <;> rw [e] <;> decide
   refine Zbi (fun i=>(c,(2:Int) ^ i,(i:Int))) c.depth.toNat (fun i hi=>?_) ?_
   . have h1:(i:Int)<c.depth:=by omega
     have h2:i=0\/i=1\/i=2\/i=3:=by omega
     simp only [Ze7,Zi0,Zap,if_pos h1]
     rcases h2 with rfl | rfl | rfl | rfl <;> rfl
   . have h1:¬((c.depth.toNat:Int)<c.depth):=by omega
     simp only [Ze7,Zi0,Zap,if_neg h1,hn]
 have hb:=Zbr c
 simp only [Zlu,hw]
 rw [Zat (by omega) (by omega),Int.add_sub_cancel]
theorem Zf7 {c:Config} (h:CfgOK c):ZkZ c=some (ZaA c):=by
 have h1:=Zey h
 have h2:=Zbr c
 simp only [ZkZ,Zdf,Zop h]
 rw [Zat (n:=1+ZaJ c) (by omega) (by omega),Zat (n:=c.layers*c.width) (by omega) (by omega),Zat (by omega) (by omega)]
 rfl
theorem Zzq {c:Config} (h:CfgOK c):Zm2 c=some (sizeOf c):=by
 have h1:=Za3 h
 have h2:=h.threads
 simp only [Zm2,Zb9,Zf7 h]
 rw [show c.items*ZaA c=Za0 c from rfl,Zat (n:=Za0 c) (by omega) (by omega),Zat (n:=2*c.threads) (by omega) (by omega),Zat (by omega) (by omega)]
 rfl
theorem ZrV {c:Config} (h:CfgOK c):Zlq c=some (ZaJ c):=by
 unfold Zlq ZaJ
 rcases ZA1 h with e | e | e | e | e <;> rw [e] <;> rfl
theorem Zj4 {c:Config} (h:CfgOK c):ZpD c=some ⟨1,1+ZaJ c,ZaA c,Za0 c⟩:=by
 have h1:=Zey h
 have h2:=Zbr c
 have h3:=ZcQ h
 have h4:=Za3 h
 simp only [ZpD,ZfP,ZrV h]
 rw [Zat (n:=1+ZaJ c) (by omega) (by omega),Zat (n:=c.layers*c.width) (by omega) (by omega),Zat (n:=1+ZaJ c+c.layers*c.width) (by omega) (by omega),
   show c.items*(1+ZaJ c+c.layers*c.width)=Za0 c from rfl,Zat (n:=Za0 c) (by omega) (by omega)]
 rfl
def nodeAt (c:Config) (item n:Int):Int:=if item<0\/item>=c.items\/n<1\/n>ZaJ c then -1 else item*ZaA c+n
theorem ZkU {c:Config} (h:CfgOK c) (item n:Int) (h0:nodeAt c item n≠-1):0<=nodeAt c item n/\nodeAt c item n<Za0 c/\0<=item/\item<c.items/\1<=n/\n<=ZaJ c/\nodeAt c item n=item*ZaA c+n:=by
 unfold nodeAt at h0 ⊢
 split at h0
 . exact (h0 rfl).elim
 rename_i hc
 rw [if_neg hc]
 have h1:=ZcN h (i:=item) (by omega) (by omega)
 have h2:=ZcN h (i:=item+1) (by omega) (by omega)
 have h3:(item+1)*ZaA c=item*ZaA c+ZaA c:=by rw [Int.add_mul,Int.one_mul]
 have h4:=Zbr c
 have h5:=Zey h
 have h6:ZaA c=1+ZaJ c+c.layers*c.width:=rfl
 omega
theorem Zpu {c:Config} (h:CfgOK c) (item n:Int):Zma c item n=some (nodeAt c item n):=by
 simp only [Zma,Zap,Zdf,Zop h,Zb9,Zf7 h]
 unfold nodeAt
 by_cases h1:item<0
 . simp [h1]
 by_cases h2:item>=c.items
 . simp [h1,h2]
 by_cases h3:n<1
 . simp [h1,h2,h3]
 by_cases h4:n>ZaJ c
 . simp [h1,h2,h3,h4]
 simp only [if_neg h1,if_neg h2,if_neg h3,if_neg h4,h1,h2,h3,h4,or_self]
 have h5:=ZcN h (i:=item) (by omega) (by omega)
 have h6:=Zbr c
 have h7:=Za3 h
 rw [Zat (n:=item*ZaA c) (by omega) (by omega),Zat (by omega) (by omega)]
 rfl
theorem Zpd {c:Config} (h:CfgOK c) (item n:Int):ZmZ c item n=some (nodeAt c item n):=by
 have h6:=Zbr c
 simp only [ZmZ,Zap,ZfP,ZrV h,ZcB,Zj4 h]
 rw [Zat (n:=1+ZaJ c) (by omega) (by omega)]
 unfold nodeAt
 by_cases h1:item<0
 . simp [h1]
 by_cases h2:item>=c.items
 . simp [h1,h2]
 by_cases h3:n<1
 . simp [h1,h2,h3]
 by_cases h4:n>ZaJ c
 . have h4':n>=1+ZaJ c:=by omega
   simp [h1,h2,h3,h4,h4']
 have h4':¬n>=1+ZaJ c:=by omega
 simp only [if_neg h1,if_neg h2,if_neg h3,if_neg h4',h1,h2,h3,h4,or_self]
 have h5:=ZcN h (i:=item) (by omega) (by omega)
 have h7:=Za3 h
 rw [Zat (n:=item*ZaA c) (by omega) (by omega),Zat (by omega) (by omega)]
 rfl
theorem Zs3 {t:Int} (h0 : -1<=t) (h1:t<=1000):ZmP t=some (8*(t+1)+1):=by
 simp only [ZmP,Zb0,Zdo]
 rw [Zat (n:=t+1) (by omega) (by omega),Zat (n:=8*(t+1)) (by omega) (by omega),Zat (by omega) (by omega)]
theorem ZxG {t:Int} (h0 : -1<=t) (h1:t<=1000):Zlc t=some (8*(t+1)+2):=by
 simp only [Zlc,Zb0,Zdo]
 rw [Zat (n:=t+1) (by omega) (by omega),Zat (n:=8*(t+1)) (by omega) (by omega),Zat (by omega) (by omega)]
def Zcd (w:Int):Int := if w=0 then 0 else if w=5 then 5 else if 1<=w % 8/\w % 8<=3/\0<=w / 8-1/\w / 8-1<16 then w % 8 else if w % 8=4/\0<=(w / 8-1) / 16/\(w / 8-1) / 16<4/\1<=(w / 8-1) % 16/\(w / 8-1) % 16<=3 then 4 else -1
theorem Zya (w:Int) (k:Nat) (hk:k<=64):((BitVec.ofInt 64 w &&& BitVec.ofInt 64 (2 ^ k-1)).toNat:Int)=w % (2 ^ k):=by
 have h1:(BitVec.ofInt 64 ((2:Int) ^ k-1)).toNat=2 ^ k-1:=by
   rw [BitVec.toNat_ofInt]
   have hp:(1:Nat)<=2 ^ k:=Nat.one_le_two_pow
   have hq:2 ^ k<=2 ^ 64:=Nat.pow_le_pow_right (by omega) hk
   have e:((2:Int) ^ k-1)=((2 ^ k-1:Nat):Int):=by
     rw [Int.natCast_sub hp]
     simp
   rw [e]
   have:((2 ^ k-1:Nat):Int) % ((2 ^ 64:Nat):Int)=((2 ^ k-1:Nat):Int):=by
     rw [<- Int.natCast_emod,Nat.mod_eq_of_lt (by omega)]
   rw [this]
   rfl
 rw [BitVec.toNat_and,h1,Nat.and_two_pow_sub_one_eq_mod,BitVec.toNat_ofInt,Int.natCast_emod]
 have h2:0<=w % ((2 ^ 64:Nat):Int):=Int.emod_nonneg _ (by decide)
 rw [Int.toNat_of_nonneg h2]
 have h3:((2 ^ k:Nat):Int)∣((2 ^ 64:Nat):Int):=by
   exact Int.natCast_dvd_natCast.2 (Nat.pow_dvd_pow 2 hk)
 rw [Int.emod_emod_of_dvd _ h3]
 simp
theorem and7 (w:Int):((BitVec.ofInt IntKind.i64.bits w &&& BitVec.ofInt IntKind.i64.bits (7:Int)).toNat:Int)=w % 8:=by
 have:=Zya w 3 (by omega)
 exact this
theorem ZFU (w:Int):((BitVec.ofInt IntKind.i64.bits w &&& BitVec.ofInt IntKind.i64.bits (15:Int)).toNat:Int)=w % 16:=by
 have:=Zya w 4 (by omega)
 exact this
theorem shr3 (w:Int):w.fdiv ((2:Int) ^ min (Int.toNat (3:Int)) IntKind.i64.bits)=w / 8:=by
 rw [show ((2:Int) ^ min (Int.toNat (3:Int)) IntKind.i64.bits)=8 from rfl,Int.fdiv_eq_ediv_of_nonneg _ (by omega)]
theorem shr4 (w:Int):w.fdiv ((2:Int) ^ min (Int.toNat (4:Int)) IntKind.i64.bits)=w / 16:=by
 rw [show ((2:Int) ^ min (Int.toNat (4:Int)) IntKind.i64.bits)=16 from rfl,Int.fdiv_eq_ediv_of_nonneg _ (by omega)]
theorem shr1 (w:Int):w.fdiv ((2:Int) ^ min (Int.toNat (1:Int)) IntKind.i64.bits)=w / 2:=by
 rw [show ((2:Int) ^ min (Int.toNat (1:Int)) IntKind.i64.bits)=2 from rfl,Int.fdiv_eq_ediv_of_nonneg _ (by omega)]
def ZqY (w:Int):Said := if w % 8=5/\w / 8-1=-1 then ⟨5,-1⟩ else if 1<=w % 8/\w % 8<=3/\0<=w / 8-1/\w / 8-1<16 then ⟨w % 8,w / 8-1⟩ else if w % 8=4/\0<=(w / 8-1) / 16/\(w / 8-1) / 16<4/\1<=(w / 8-1) % 16/\(w / 8-1) % 16<=3 then ⟨w % 8,w / 8-1⟩ else ⟨0,0⟩
theorem Zx1 {w:Int} (h0 : -9223372036854775808<=w) (h1:w<=9223372036854775807):Zqx w=some (ZqY w):=by
 simp only [Zqx,and7,shr3]
 rw [Zat (n:=w % 8) (by omega) (by omega),Zat (n:=w / 8-1) (by omega) (by omega)]
 simp only [ZFU,shr4]
 rw [Zat (n:=(w / 8-1) % 16) (by omega) (by omega)]
 unfold ZqY
 by_cases e5:w % 8=5/\w / 8-1=-1
 . simp [e5]
 rw [if_neg e5]
 have e5':(w % 8 == 5 && (w / 8-1 == -1 && true))=false:=by
   simp only [Bool.and_true,Bool.and_eq_false_imp,beq_iff_eq,beq_eq_false_iff_ne]
   intro a b
   exact e5 ⟨a,b⟩
 rw [e5',cond_false]
 simp only [Zap,ge_iff_le]
 have hb:∀ (α:Type) (x y:α),(bif w % 8 == 4 then x else y)=if w % 8=4 then x else y:=by
   intro α x y
   by_cases h:w % 8=4
   . simp [h]
   . rw [if_neg h,show (w % 8 == 4)=false by simpa using h]
     rfl
 simp only [hb]
 repeat' split
 all_goals first | rfl | (exfalso;omega)
theorem Zul {w:Int} (h0 : -9223372036854775808<=w) (h1:w<=9223372036854775807):Zn6 w=some (Zcd w):=by
 simp only [Zn6,ZkA,Zx1 h0 h1]
 unfold Zcd ZqY
 by_cases e0:w=0
 . subst e0;rfl
 have e0':(w == 0)=false:=by simpa using e0
 rw [e0',cond_false,if_neg e0]
 by_cases e5:w=5
 . subst e5;rfl
 rw [if_neg e5,if_neg (by omega)]
 by_cases e1:1<=w % 8/\w % 8<=3/\0<=w / 8-1/\w / 8-1<16
 . rw [if_pos e1,if_pos e1]
   have:(w % 8 == 0)=false:=by simp;omega
   simp only [this,Bool.false_and,Bool.not_false,cond_true]
 rw [if_neg e1,if_neg e1]
 by_cases e4:w % 8=4/\0<=(w / 8-1) / 16/\(w / 8-1) / 16<4/\1<=(w / 8-1) % 16/\(w / 8-1) % 16<=3
 . rw [if_pos e4,if_pos e4,e4.1]
   rfl
 . rw [if_neg e4,if_neg e4]
   rfl
end Go.Proofs.Mill
namespace Go.Proofs.Mill
structure Big (u:Turn):Prop where
  words:u.m.words.length<=400
  boxes:u.m.boxes.length<=16
  box:∀ b∈u.m.boxes,b.length<=20
  batch:u.th.batch.length<=20
  kids:u.th.kids.length<=20
  held:u.th.held.length<=20
  tape:u.tape.l.length<=100
  log:u.log.length<=50
theorem Big.sm {u:Turn} (h:Big u) {n:Nat} (hn:400<=n):Sm n u :=
 ⟨Nat.le_trans h.words hn,Nat.le_trans h.boxes (by omega),fun b hb=>Nat.le_trans (h.box b hb) (by omega),Nat.le_trans h.batch (by omega),Nat.le_trans h.kids (by omega),Nat.le_trans h.held (by omega),
  Nat.le_trans h.tape (by omega),Nat.le_trans h.log (by omega)⟩
structure May (u:Turn):Prop where
  cfg:CfgOK u.c
  t:0<=u.t/\u.t<u.c.threads
  words:(u.m.words.length:Int)=sizeOf u.c
  boxes:(u.m.boxes.length:Int)=u.c.threads
  item:0<=u.th.item/\u.th.item<u.c.items
def Num (n:Int):Prop:=-9223372036854775808<=n/\n<=9223372036854775807
theorem ZaC {a b:Int} (h:a≠b):(a == b)=false:=by simpa using h
theorem ZaT {a b:Int} (h:a=b):(a == b)=true:=by simpa using h
theorem ZdP {a b:Int} (h:a=b):(a != b)=false:=by simp [h]
theorem Zdj {a b:Int} (h:a≠b):(a != b)=true:=by simpa using h
def Zrp (u:Turn):Turn:={ u with th:={ u.th with phase:=if 0<=u.th.at_/\u.th.at_<(u.th.held.length:Int) then 7 else if u.th.stop>0 then 11 else 2 } }
theorem ZsK (u:Turn):Zm9 u=some (Zrp u):=by
 simp only [Zm9,Zap,Zrp,ge_iff_le]
 repeat' split
 all_goals first | rfl | (exfalso;omega)
def Zo4 (u:Turn):Turn:=Zrp { u with th:={ u.th with at_:=0 } }
theorem Zpb (u:Turn):Znp u=some (Zo4 u):=by simp only [Znp,Zgw,ZsK,Zo4]
def Late (u:Turn):Prop:=0<u.th.until_/\u.th.until_<=u.now
instance (u:Turn):Decidable (Late u):=inferInstanceAs (Decidable (_/\_))
theorem Zn9 (u:Turn):ZkN u=some (decide (Late u)):=by
 simp only [ZkN,Zap]
 by_cases h:0<u.th.until_
 . rw [if_pos h];simp [Late,h]
 . rw [if_neg h];simp [Late,h]
abbrev ZaR (u:Turn) (a:Int):Int:=u.m.words.getD a.toNat 0
def ZhR (u:Turn) (w:Int):Turn := if Zcd w=1 then { u with th:={ u.th with phase:=6,x:=w } } else if Zcd w=0 then { u with th:={ u.th with phase:=5 } } else if Late u then Zo4 u else u
def Zd3 (u:Turn):Turn := if u.th.node / 2>0 then { u with th:={ u.th with held:=u.th.held++[u.th.node],node:=u.th.node / 2 } } else Zo4 { u with th:={ u.th with held:=u.th.held++[u.th.node],node:=u.th.node / 2 } }
def Zq7 (u:Turn):Turn:=Zo4 { u with th:={ u.th with stop:=u.th.node } }
abbrev ZbV (u:Turn):Int:=nodeAt u.c u.th.item u.th.node
abbrev ZkH (u:Turn) (a w:Int):Turn:={ u with m:={ u.m with words:=u.m.words.set a.toNat w },th:={ u.th with phase:=4 } }
def Zcp (u:Turn):Turn×Bool := if u.th.phase=4 then (if ZbV u=-1 then u else ZhR u (ZaR u (ZbV u)),true) else if u.th.phase=5 then (if ZbV u=-1 then u else if ZaR u (ZbV u)=0 then Zd3 (ZkH u (ZbV u) (8*(u.t+1)+1)) else { u with th:={ u.th with phase:=4 } },true) else if u.th.phase=6 then (if ZbV u=-1 then u else if ZaR u (ZbV u)=u.th.x then Zq7 (ZkH u (ZbV u) (8*(u.t+1)+2)) else { u with th:={ u.th with phase:=4 } },true) else (u,false)
structure Fit (u:Turn):Prop where
  cfg:CfgOK u.c
  t:0<=u.t/\u.t<u.c.threads
  words:(u.m.words.length:Int)=sizeOf u.c
  nums:∀ n∈u.m.words,Num n
  held:u.th.held.length<=4294967295
theorem Fit.node {u:Turn} (h:Fit u) (h0:ZbV u≠-1):0<=ZbV u/\ZbV u<(u.m.words.length:Int)/\1<=u.th.node/\u.th.node<=15:=by
 obtain ⟨h1,h2,_,_,h5,h6,_⟩:=ZkU h.cfg _ _ h0
 have h3:=h.words
 have h4:=h.cfg.threads
 have h7:=Zbr u.c
 unfold sizeOf at h3
 exact ⟨h1,by show nodeAt _ _ _<_;omega,h5,by omega⟩
theorem Fit.len {u:Turn} (h:Fit u):u.m.words.length<=192:=by
 have h1:=Za3 h.cfg
 have h2:=h.cfg.threads
 have h3:=h.words
 unfold sizeOf at h3
 omega
theorem Fit.word {u:Turn} (h:Fit u) (h0:ZbV u≠-1):Num (ZaR u (ZbV u)):=by
 obtain ⟨h1,h2,_⟩:=h.node h0
 have hlt:(ZbV u).toNat<u.m.words.length:=by omega
 show Num (u.m.words.getD _ _)
 rw [List.getD_eq_getElem?_getD,List.getElem?_eq_getElem hlt,Option.getD_some]
 exact h.nums _ (List.getElem_mem hlt)
theorem ZfK {l:List Int} {a:Int} (h0:0<=a) (h1:a<(l.length:Int)):ZfU l a=some (l.getD a.toNat 0,0):=by
 simp only [ZfU,Zap]
 rw [if_neg (by omega),if_neg (by omega),if_pos h0,if_pos h1]
theorem Zhx {l:List Int} {a:Int} (h:a<0\/a>=(l.length:Int)):ZfU l a=some (0,30):=by
 simp only [ZfU,Zap]
 rcases h with h | h
 . rw [if_pos h]
 . by_cases h1:a<0
   . rw [if_pos h1]
   . rw [if_neg h1,if_pos h]
theorem ZnZ {l:List Int} (h:l.length<=4294967296):Zdw l=some l:=by
 simp only [Zdw,Nat.zero_add,ZaX h,cond_true]
theorem Zfd {m:Memo} {a o v:Int} (h0:0<=a) (h1:a<(m.words.length:Int)) (hl:m.words.length<=4294967296) :
   Ziz m a o v=some (if m.words.getD a.toNat 0=o then { m with words:=m.words.set a.toNat v } else m,decide (m.words.getD a.toNat 0=o),0):=by
 simp only [Ziz,ZbP,ZfK h0 h1,bne_self_eq_false,cond_false,ZbI,ZnZ hl,Zap,if_pos h0,if_pos h1]
 by_cases e:m.words.getD a.toNat 0=o
 . rw [ZaT e,cond_true,if_pos e,decide_eq_true e]
 . rw [ZaC e,cond_false,if_neg e,decide_eq_false e]
theorem Ziu {m:Memo} {a o v:Int} (h:a<0\/a>=(m.words.length:Int)):Ziz m a o v=some (m,false,30):=by
 simp only [Ziz,ZbP,Zhx h]
 rfl
theorem ZyH {u:Turn} {w:Int} (h:Num w):Zm8 u w=some (ZhR u w):=by
 simp only [Zm8,Zht,Zul h.1 h.2,ZdV,Zn9,Zex,Zpb]
 unfold ZhR
 by_cases h1:Zcd w=1
 . rw [ZaT h1,cond_true,if_pos h1]
 rw [ZaC h1,cond_false,if_neg h1]
 by_cases h2:Zcd w=0
 . rw [ZaT h2,cond_true,if_pos h2]
 rw [ZaC h2,cond_false,if_neg h2]
 by_cases h3:Late u
 . rw [if_pos h3,decide_eq_true h3];rfl
 . rw [if_neg h3,decide_eq_false h3];rfl
theorem ZxA {u:Turn} (h:u.th.held.length<=4294967295) (h1:1<=u.th.node):Zk6 u=some (Zd3 u):=by
 have e:(if (0:Int)>u.th.node then (0:Int) else u.th.node)=u.th.node:=if_neg (by omega)
 have hf:fewB (u.th.held.length+1)=true:=ZaX (by omega)
 simp only [Zk6,ZbI,ZnZ (show u.th.held.length<=4294967296 by omega),List.length_cons,List.length_nil,Nat.zero_add,hf,cond_true,Zka,ZoH,e,shr1,Zap,Zex,Zpb]
 unfold Zd3
 split <;> rfl
theorem Zwk (u:Turn):Zj5 u=some (Zq7 u):=by
 simp only [Zj5,Zex,Zpb,Zq7]
theorem Zyp {u:Turn} (h:Fit u):Zmf u=some (Zcp u):=by
 have ht:=h.cfg.threads
 have h1:=h.t
 have hl:=h.len
 simp only [Zmf,ZeM,Zpd h.cfg,Zfl,Zs3 (t:=u.t) (by omega) (by omega),Zlt,ZxG (t:=u.t) (by omega) (by omega),Zcs,Zgd,ZbP,ZcV]
 unfold Zcp
 by_cases p4:u.th.phase=4
 . rw [ZaT p4,cond_true,if_pos p4]
   by_cases hn:ZbV u=-1
   . rw [Zhx (.inl (by show ZbV u<0;omega)),if_pos hn]
     rfl
   . obtain ⟨n0,n1,_⟩:=h.node hn
     rw [ZfK n0 n1,if_neg hn]
     simp only [bne_self_eq_false,cond_false,ZmW]
     rw [ZyH (h.word hn)]
 rw [ZaC p4,cond_false,if_neg p4]
 by_cases p6:u.th.phase=6
 . rw [ZaT p6,cond_true,if_neg (by omega),if_pos p6]
   by_cases hn:ZbV u=-1
   . rw [Ziu (.inl (by show ZbV u<0;omega)),if_pos hn]
     rfl
   . obtain ⟨n0,n1,_⟩:=h.node hn
     rw [Zfd n0 n1 (by omega),if_neg hn]
     simp only [bne_self_eq_false,cond_false,ZjY,Zwk]
     by_cases e:ZaR u (ZbV u)=u.th.x
     . rw [decide_eq_true e,cond_true,if_pos e,if_pos e]
     . rw [decide_eq_false e,cond_false,if_neg e,if_neg e]
 rw [ZaC p6,cond_false]
 by_cases p5:u.th.phase=5
 . rw [ZaT p5,cond_true,if_pos p5]
   by_cases hn:ZbV u=-1
   . rw [Ziu (.inl (by show ZbV u<0;omega)),if_pos hn]
     rfl
   . obtain ⟨n0,n1,n2,n3⟩:=h.node hn
     rw [Zfd n0 n1 (by omega),if_neg hn]
     simp only [bne_self_eq_false,cond_false,Zk5]
     by_cases e:ZaR u (ZbV u)=0
     . rw [decide_eq_true e,cond_true,if_pos e,if_pos e,ZxA (by exact h.held) (by exact n2)]
     . rw [decide_eq_false e,cond_false,if_neg e,if_neg e]
 rw [ZaC p5,cond_false,if_neg p5,if_neg p6]
end Go.Proofs.Mill
namespace Go.Proofs.Mill
end Go.Proofs.Mill
namespace Go.Proofs.Mill
theorem Zyi {n:Int} (h:n<=4294967296):n<=ZbH:=by unfold ZbH;exact h
theorem ZCa {n:Int} (h0:0<=n) (h1:n<=4294967296):Zet () n=some []:=by
 have e:Zaf IntKind.i64 (n-Zaf IntKind.i64 (0-0))=n:=by
   rw [Zat (n:=0-0) (by omega) (by omega),Zat (by omega) (by omega)];omega
 simp only [Zet,Zap,e]
 rw [if_neg (by omega),if_pos h0,if_pos (Zyi h1)]
 split <;> rfl
theorem Zy3 {n:Int} (h0:0<=n) (h1:n<=4294967296):Zeb () n=some []:=by
 have e:Zaf IntKind.i64 (n-Zaf IntKind.i64 (0-0))=n:=by
   rw [Zat (n:=0-0) (by omega) (by omega),Zat (by omega) (by omega)];omega
 simp only [Zeb,Zap,e]
 rw [if_neg (by omega),if_pos h0,if_pos (Zyi h1)]
 split <;> rfl
theorem ZyJ {a b:List Kid} (h:a.length+b.length<=4294967296):ZdW (a::b::[])=some (a++b):=by
 have h3:Zdl (a::b::[],0,a::b::[],2,0)=some (a::b::[],(a.length:Int)+b.length):=by
   unfold Zdl
   rw [ZbJ]
   simp only [ZbW,ZcJ,Zap,List.length_cons,List.length_nil]
   rw [if_pos (by omega),if_pos (by omega),if_pos (by omega),show ((0:Int).toNat)=0 from rfl,List.getD_cons_zero,Zat (n:=0+(a.length:Int)) (by omega) (by omega),if_neg (by omega),Zat (n:=0+1) (by omega) (by omega)]
   simp only
   rw [ZbJ]
   simp only [ZbW,ZcJ,Zap,List.length_cons,List.length_nil]
   rw [if_pos (by omega),if_pos (by omega),if_pos (by omega),show ((0+1:Int).toNat)=1 from rfl,List.getD_cons_succ,List.getD_cons_zero,Zat (n:=0+(a.length:Int)+(b.length:Int)) (by omega) (by omega),if_neg (by omega),Zat (n:=0+1+1) (by omega) (by omega)]
   simp only
   rw [ZbJ]
   simp only [ZbW,ZcJ,Zap,List.length_cons,List.length_nil]
   rw [if_neg (by omega),Int.zero_add]
 have h11:Zdi ([],a::b::[],2,0)=some (a++b):=by
   unfold Zdi
   rw [ZbJ]
   simp only [ZbR,ZcF,Zap,List.length_cons,List.length_nil]
   rw [if_pos (by omega),if_pos (by omega),if_pos (by omega),show ((0:Int).toNat)=0 from rfl,List.getD_cons_zero,ZaX (by omega),Zat (n:=0+1) (by omega) (by omega)]
   simp only [cond_true,List.nil_append]
   rw [ZbJ]
   simp only [ZbR,ZcF,Zap,List.length_cons,List.length_nil]
   rw [if_pos (by omega),if_pos (by omega),if_pos (by omega),show ((0+1:Int).toNat)=1 from rfl,List.getD_cons_succ,List.getD_cons_zero,ZaX (by omega),Zat (n:=0+1+1) (by omega) (by omega)]
   simp only [cond_true]
   rw [ZbJ]
   simp only [ZbR,ZcF,Zap,List.length_cons,List.length_nil]
   rw [if_neg (by omega)]
 have e2:(((a::b::([]:List (List Kid))).length:Nat):Int)=2:=rfl
 simp only [ZdW,e2,h3,ZeI,ZCa (n:=(a.length:Int)+b.length) (by omega) (by omega),h11]
theorem Zwo {a b:List Entry} (h:a.length+b.length<=4294967296):ZdG (a::b::[])=some (a++b):=by
 have h3:Zdh (a::b::[],0,a::b::[],2,0)=some (a::b::[],(a.length:Int)+b.length):=by
   unfold Zdh
   rw [ZbJ]
   simp only [ZbU,ZcE,Zap,List.length_cons,List.length_nil]
   rw [if_pos (by omega),if_pos (by omega),if_pos (by omega),show ((0:Int).toNat)=0 from rfl,List.getD_cons_zero,Zat (n:=0+(a.length:Int)) (by omega) (by omega),if_neg (by omega),Zat (n:=0+1) (by omega) (by omega)]
   simp only
   rw [ZbJ]
   simp only [ZbU,ZcE,Zap,List.length_cons,List.length_nil]
   rw [if_pos (by omega),if_pos (by omega),if_pos (by omega),show ((0+1:Int).toNat)=1 from rfl,List.getD_cons_succ,List.getD_cons_zero,Zat (n:=0+(a.length:Int)+(b.length:Int)) (by omega) (by omega),if_neg (by omega),Zat (n:=0+1+1) (by omega) (by omega)]
   simp only
   rw [ZbJ]
   simp only [ZbU,ZcE,Zap,List.length_cons,List.length_nil]
   rw [if_neg (by omega),Int.zero_add]
 have h11:Zc8 ([],a::b::[],2,0)=some (a++b):=by
   unfold Zc8
   rw [ZbJ]
   simp only [ZbN,ZcA,Zap,List.length_cons,List.length_nil]
   rw [if_pos (by omega),if_pos (by omega),if_pos (by omega),show ((0:Int).toNat)=0 from rfl,List.getD_cons_zero,ZaX (by omega),Zat (n:=0+1) (by omega) (by omega)]
   simp only [cond_true,List.nil_append]
   rw [ZbJ]
   simp only [ZbN,ZcA,Zap,List.length_cons,List.length_nil]
   rw [if_pos (by omega),if_pos (by omega),if_pos (by omega),show ((0+1:Int).toNat)=1 from rfl,List.getD_cons_succ,List.getD_cons_zero,ZaX (by omega),Zat (n:=0+1+1) (by omega) (by omega)]
   simp only [cond_true]
   rw [ZbJ]
   simp only [ZbN,ZcA,Zap,List.length_cons,List.length_nil]
   rw [if_neg (by omega)]
 have e2:(((a::b::([]:List (List Entry))).length:Nat):Int)=2:=rfl
 simp only [ZdG,e2,h3,Zec,Zy3 (n:=(a.length:Int)+b.length) (by omega) (by omega),h11]
def Zrm (u:Turn) (who:Int) (b:List Entry):Turn:={ u with th:={ u.th with batch:=u.th.batch++b,kids:=u.th.kids++[⟨who,u.th.batch.length⟩] } }
theorem ZrY {u:Turn} {who:Int} {b:List Entry} (h1:u.th.batch.length+b.length<=4294967296) (h2:u.th.kids.length+1<=4294967296):Zla u who b=some (Zrm u who b):=by
 simp only [Zla,ZdU,ZyJ (a:=u.th.kids) (b:=[⟨who,u.th.batch.length⟩]) (by simpa using h2),Zmw,Zqs,Zdy,Zwo h1]
 rfl
theorem who3 {w:Int} (h:Num w) (hk:Zcd w=3):Zpg w=some (w / 8-1):=by
 have hb:1<=w % 8/\w % 8<=3/\0<=w / 8-1/\w / 8-1<16:=by
   unfold Zcd at hk
   split at hk
   . omega
   split at hk
   . omega
   split at hk
   . assumption
   . split at hk <;> omega
 have hs:ZqY w=⟨w % 8,w / 8-1⟩:=by
   unfold ZqY
   rw [if_neg (by omega),if_pos hb]
 simp only [Zpg,ZkA,Zx1 h.1 h.2,hs,Zap]
 rw [if_pos (by omega),if_pos (by omega)]
def Zbg (u:Turn):Int:=if u.th.at_<0\/u.th.at_>=(u.th.held.length:Int) then -1 else nodeAt u.c u.th.item (u.th.held.getD u.th.at_.toNat 0)
theorem ZxM {u:Turn} (h:CfgOK u.c):ZkK u=some (Zbg u):=by
 simp only [ZkK,Zap,ZeM,Zpd h,Zbg]
 by_cases h1:u.th.at_<0
 . rw [if_pos h1,if_pos (.inl h1)]
 by_cases h2:u.th.at_>=(u.th.held.length:Int)
 . rw [if_neg h1,if_pos h2,if_pos (.inr h2)]
 rw [if_neg h1,if_neg h2,if_pos (by omega),if_pos (by omega),if_neg (by omega)]
def ZnE (u:Turn):Turn:=Zrp { u with th:={ u.th with at_:=Zaf IntKind.i64 (u.th.at_+1) } }
theorem Zxm (u:Turn):Zlp u=some (ZnE u):=by simp only [Zlp,Zgw,ZsK,ZnE]
abbrev setW (u:Turn) (a w:Int):Turn:={ u with m:={ u.m with words:=u.m.words.set a.toNat w } }
def Zca (u:Turn):Turn×Bool := if u.th.phase=7 then (if Zbg u=-1 then u else if ZaR u (Zbg u)=8*(u.t+1)+1 then { u with th:={ u.th with phase:=8 } } else if Zcd (ZaR u (Zbg u))=3 then { u with th:={ u.th with phase:=9,who:=ZaR u (Zbg u) / 8-1 } } else u,true) else if u.th.phase=8 then (if Zbg u=-1 then u else if ZaR u (Zbg u)=8*(u.t+1)+1 then ZnE (setW u (Zbg u) 0) else { u with th:={ u.th with phase:=7 } },true) else if u.th.phase=9 then (if u.th.who<0\/u.th.who>=(u.m.boxes.length:Int) then u else { Zrm u u.th.who (u.m.boxes.getD u.th.who.toNat []) with th:={ (Zrm u u.th.who (u.m.boxes.getD u.th.who.toNat [])).th with phase:=10 } },true) else if u.th.phase=10 then (if Zbg u=-1 then u else ZnE (setW u (Zbg u) 0),true) else if u.th.phase=11 then ({ u with m:={ u.m with boxes:=u.m.boxes.set u.t.toNat u.th.batch },th:={ u.th with phase:=12 } },true) else if u.th.phase=12 then (if nodeAt u.c u.th.item u.th.stop=-1 then u else { setW u (nodeAt u.c u.th.item u.th.stop) (8*(u.t+1)+3) with th:={ u.th with phase:=13 } },true) else (u,false)
structure FitG (u:Turn):Prop where
  cfg:CfgOK u.c
  t:0<=u.t/\u.t<u.c.threads
  words:(u.m.words.length:Int)=sizeOf u.c
  boxes:(u.m.boxes.length:Int)=u.c.threads
  nums:∀ n∈u.m.words,Num n
  batch:u.th.batch.length<=1000000
  kids:u.th.kids.length<=1000000
  box:∀ b∈u.m.boxes,b.length<=1000000
theorem FitG.node {u:Turn} (h:FitG u) {i n:Int} (h0:nodeAt u.c i n≠-1):0<=nodeAt u.c i n/\nodeAt u.c i n<(u.m.words.length:Int):=by
 obtain ⟨h1,h2,_⟩:=ZkU h.cfg _ _ h0
 have h3:=h.words
 have h4:=h.cfg.threads
 unfold sizeOf at h3
 omega
theorem FitG.held {u:Turn} (h:FitG u) (h0:Zbg u≠-1):0<=Zbg u/\Zbg u<(u.m.words.length:Int):=by
 unfold Zbg at h0 ⊢
 split at h0
 . exact (h0 rfl).elim
 . rename_i hc
   rw [if_neg hc]
   exact h.node h0
theorem FitG.len {u:Turn} (h:FitG u):u.m.words.length<=192:=by
 have h1:=Za3 h.cfg
 have h2:=h.cfg.threads
 have h3:=h.words
 unfold sizeOf at h3
 omega
theorem FitG.word {u:Turn} (h:FitG u) {a:Int} (h1:0<=a) (h2:a<(u.m.words.length:Int)):Num (ZaR u a):=by
 have hlt:a.toNat<u.m.words.length:=by omega
 show Num (u.m.words.getD _ _)
 rw [List.getD_eq_getElem?_getD,List.getElem?_eq_getElem hlt,Option.getD_some]
 exact h.nums _ (List.getElem_mem hlt)
theorem FitG.boxLen {u:Turn} (h:FitG u) (i:Nat):(u.m.boxes.getD i ([]:List Entry)).length<=1000000:=by
 rw [List.getD_eq_getElem?_getD]
 cases hb:u.m.boxes[i]? with
 | none=>simp
 | some b=>exact h.box b (List.mem_of_getElem? hb)
theorem Zkq {l:List Entry} (h:l.length<=4294967296):ZcX l=some l:=by
 simp only [ZcX,Nat.zero_add,ZaX h,cond_true]
theorem Zxj {l:List (List Entry)} (h:l.length<=4294967296):ZdB l=some l:=by
 simp only [ZdB,Nat.zero_add,ZaX h,cond_true]
theorem ZdX {m:Memo} {a v:Int} (h0:0<=a) (h1:a<(m.words.length:Int)) (hl:m.words.length<=4294967296) :
   ZgR m a v=some ({ m with words:=m.words.set a.toNat v },0):=by
 simp only [ZgR,ZbP,ZfK h0 h1,bne_self_eq_false,cond_false,ZbI,ZnZ hl,Zap,if_pos h0,if_pos h1]
theorem Zha {m:Memo} {a v:Int} (h:a<0\/a>=(m.words.length:Int)):ZgR m a v=some (m,30):=by
 simp only [ZgR,ZbP,Zhx h]
 rfl
theorem Zr0 {m:Memo} {a:Int} (h0:0<=a) (h1:a<(m.boxes.length:Int)) (hl:(m.boxes.getD a.toNat ([]:List Entry)).length<=4294967296) :
   Zi7 m a=some (m.boxes.getD a.toNat [],0):=by
 simp only [Zi7,Zcz,Zcx,Zap]
 rw [if_neg (by omega),if_neg (by omega),if_pos h0,if_pos h1]
 simp only [Zbx,Zkq hl]
theorem ZqV {m:Memo} {a:Int} (h:a<0\/a>=(m.boxes.length:Int)):Zi7 m a=some ([],30):=by
 have e:Zcx m.boxes a=some ([],30):=by
   simp only [Zcx,Zap]
   rcases h with h | h
   . rw [if_pos h]
   . by_cases h1:a<0
     . rw [if_pos h1]
     . rw [if_neg h1,if_pos h]
 simp only [Zi7,Zcz,e,Zbx,Zkq (l:=[]) (by simp)]
theorem ZrN {m:Memo} {a:Int} {b:List Entry} (h0:0<=a) (h1:a<(m.boxes.length:Int)) (hl:m.boxes.length<=4294967296) (hb:b.length<=4294967296) :
   Zpx m a b=some ({ m with boxes:=m.boxes.set a.toNat b },0):=by
 have e:Zcx m.boxes a=some (m.boxes.getD a.toNat [],0):=by
   simp only [Zcx,Zap]
   rw [if_neg (by omega),if_neg (by omega),if_pos h0,if_pos h1]
 simp only [Zpx,Zcz,e,bne_self_eq_false,cond_false,ZdI,Zxj hl,Zbx,Zkq hb,Zap,if_pos h0,if_pos h1]
theorem ZtO {t:Int} (h0 : -1<=t) (h1:t<=1000):Zh9 t=some (8*(t+1)+3):=by
 simp only [Zh9,Zb0,Zdo]
 rw [Zat (n:=t+1) (by omega) (by omega),Zat (n:=8*(t+1)) (by omega) (by omega),Zat (by omega) (by omega)]
theorem Zxp {u:Turn} (h:FitG u):ZkP u=some (Zca u):=by
 have ht:=h.cfg.threads
 have h1:=h.t
 have hl:=h.len
 have hb:=h.boxes
 have hbt:=h.batch
 have hkd:=h.kids
 simp only [ZkP,Zlx,Zp9,Zlh,Zp4,Zh6,Znq,Zlm,ZpY,Zh5,ZmM,Zii,Zm7,
   ZfY,ZxM h.cfg,Zfl,Zs3 (t:=u.t) (by omega) (by omega),Zif,ZtO (t:=u.t) (by omega) (by omega),ZeM,Zpd h.cfg,Zcs,Zgd,ZbP,ZcV,Zck,ZiR,Zjj,ZhM,Zxm]
 unfold Zca
 by_cases p7:u.th.phase=7
 . rw [ZaT p7,cond_true,if_pos p7]
   by_cases hn:Zbg u=-1
   . rw [Zhx (.inl (by omega)),if_pos hn]
     rfl
   . obtain ⟨n0,n1⟩:=h.held hn
     rw [ZfK n0 n1,if_neg hn]
     simp only [bne_self_eq_false,cond_false]
     by_cases e:ZaR u (Zbg u)=8*(u.t+1)+1
     . rw [ZaT e,if_pos e];rfl
     . rw [ZaC e,if_neg e]
       simp only [cond_false,Zht,Zul (h.word n0 n1).1 (h.word n0 n1).2]
       by_cases k:Zcd (ZaR u (Zbg u))=3
       . rw [ZaT k,if_pos k]
         simp only [cond_true,ZpG,who3 (h.word n0 n1) k]
       . rw [ZaC k,if_neg k];rfl
 rw [ZaC p7,cond_false,if_neg p7]
 by_cases p8:u.th.phase=8
 . rw [ZaT p8,cond_true,if_pos p8]
   by_cases hn:Zbg u=-1
   . rw [Ziu (.inl (by omega)),if_pos hn]
     rfl
   . obtain ⟨n0,n1⟩:=h.held hn
     rw [Zfd n0 n1 (by omega),if_neg hn]
     simp only [bne_self_eq_false,cond_false]
     by_cases e:ZaR u (Zbg u)=8*(u.t+1)+1
     . rw [decide_eq_true e,if_pos e,if_pos e];rfl
     . rw [decide_eq_false e,if_neg e,if_neg e];rfl
 rw [ZaC p8,cond_false,if_neg p8]
 by_cases p9:u.th.phase=9
 . rw [ZaT p9,cond_true,if_pos p9]
   by_cases hn:u.th.who<0\/u.th.who>=(u.m.boxes.length:Int)
   . rw [ZqV hn,if_pos hn]
     rfl
   . have hbl:=h.boxLen u.th.who.toNat
     rw [Zr0 (by omega) (by omega) (by omega),if_neg hn]
     simp only [bne_self_eq_false,cond_false,Zf0]
     rw [ZrY (by omega) (by omega)]
 rw [ZaC p9,cond_false,if_neg p9]
 by_cases p10:u.th.phase=10
 . rw [ZaT p10,cond_true,if_pos p10]
   by_cases hn:Zbg u=-1
   . rw [Zha (.inl (by omega)),if_pos hn]
     rfl
   . obtain ⟨n0,n1⟩:=h.held hn
     rw [ZdX n0 n1 (by omega),if_neg hn]
     rfl
 rw [ZaC p10,cond_false,if_neg p10]
 by_cases p11:u.th.phase=11
 . rw [ZaT p11,cond_true,if_pos p11,ZrN (by omega) (by omega) (by omega) (by omega)]
   rfl
 rw [ZaC p11,cond_false,if_neg p11]
 by_cases p12:u.th.phase=12
 . rw [ZaT p12,cond_true,if_pos p12]
   by_cases hn:nodeAt u.c u.th.item u.th.stop=-1
   . rw [Zha (.inl (by omega)),if_pos hn]
     rfl
   . obtain ⟨n0,n1⟩:=h.node hn
     rw [ZdX n0 n1 (by omega),if_neg hn]
     rfl
 rw [ZaC p12,cond_false,if_neg p12]
end Go.Proofs.Mill
namespace Go.Proofs.Mill
theorem Sm.same {n:Nat} {u v:Turn} (h:Sm n u) (hw:v.m.words.length=u.m.words.length) (hb:v.m.boxes=u.m.boxes) (h1:v.th.batch=u.th.batch) (h2:v.th.kids=u.th.kids) (h3:v.th.held=u.th.held) (h4:v.tape=u.tape) (h5:v.log=u.log):Sm n v :=
 ⟨by rw [hw];exact h.words,by rw [hb];exact h.boxes,by rw [hb];exact h.box,by rw [h1];exact h.batch,by rw [h2];exact h.kids,by rw [h3];exact h.held,by rw [h4];exact h.tape,by rw [h5];exact h.log⟩
theorem FitG.of {u v:Turn} (h:FitG u) (hc:v.c=u.c) (ht:v.t=u.t) (hl:v.m.words.length=u.m.words.length) (hn:∀ n∈v.m.words,Num n) (hb:v.m.boxes=u.m.boxes) (h1:v.th.batch=u.th.batch) (h2:v.th.kids=u.th.kids):FitG v :=
 ⟨by rw [hc];exact h.cfg,by rw [hc,ht];exact h.t,by rw [hc,hl];exact h.words,by rw [hb,hc];exact h.boxes,hn,by rw [h1];exact h.batch,by rw [h2];exact h.kids,by rw [hb];exact h.box⟩
end Go.Proofs.Mill
namespace Go.Proofs.Mill
def ZaY (c:Config) (t:Int):Int:=if t<0\/t>=c.threads then -1 else Za0 c+2*t
def ZeW (c:Config) (item layer i:Int):Int :=
 if item<0\/item>=c.items\/layer<1\/layer>c.layers\/i<0\/i>=c.width then -1 else item*ZaA c+(1+ZaJ c)+(layer-1)*c.width+i
theorem Zh1 {c:Config} (h:CfgOK c) {t:Int} (h0:ZaY c t≠-1):Za0 c<=ZaY c t/\ZaY c t<sizeOf c/\0<=t/\t<c.threads/\ZaY c t=Za0 c+2*t:=by
 have h1:=Za3 h
 unfold ZaY at h0 ⊢
 unfold sizeOf
 split at h0
 . exact (h0 rfl).elim
 . rename_i hc
   rw [if_neg hc]
   omega
theorem Zdx {c:Config} (h:CfgOK c) {t:Int} (h0:0<=t) (h1:t<c.threads):ZaY c t=Za0 c+2*t/\Za0 c<=ZaY c t/\ZaY c t<sizeOf c:=by
 unfold ZaY sizeOf
 rw [if_neg (by omega)]
 omega
theorem Zgx {c:Config} (h:CfgOK c) {layer:Int} (h0:1<=layer) (h1:layer<=c.layers):0<=(layer-1)*c.width/\(layer-1)*c.width+c.width<=c.layers*c.width:=by
 have h2:=h.width
 refine ⟨Int.mul_nonneg (by omega) (by omega),?_⟩
 have h3:(layer-1)*c.width=layer*c.width-c.width:=by rw [Int.sub_mul,Int.one_mul]
 have h4:=Int.mul_le_mul_of_nonneg_right h1 (show 0<=c.width by omega)
 omega
theorem ZpT {c:Config} (h:CfgOK c) {item layer i:Int} (h0:ZeW c item layer i≠-1) :
   0<=ZeW c item layer i/\ZeW c item layer i<Za0 c/\(0<=item/\item<c.items)/\(1<=layer/\layer<=c.layers)/\(0<=i/\i<c.width) /\
   ZeW c item layer i=item*ZaA c+(1+ZaJ c)+(layer-1)*c.width+i:=by
 unfold ZeW at h0 ⊢
 split at h0
 . exact (h0 rfl).elim
 rename_i hc
 rw [if_neg hc]
 have h1:=ZcN h (i:=item) (by omega) (by omega)
 have h2:=ZcN h (i:=item+1) (by omega) (by omega)
 have h3:(item+1)*ZaA c=item*ZaA c+ZaA c:=by rw [Int.add_mul,Int.one_mul]
 have h4:=Zbr c
 have h6:ZaA c=1+ZaJ c+c.layers*c.width:=rfl
 have h7:=Zgx h (layer:=layer) (by omega) (by omega)
 omega
theorem ZiJ {c:Config} (h:CfgOK c) (t:Int):Zns c t=some (ZaY c t):=by
 have h1:=Za3 h
 have h2:=h.threads
 simp only [Zns,Zap,Zb9,Zf7 h]
 unfold ZaY
 by_cases a:t<0
 . rw [if_pos a,if_pos (.inl a)]
 by_cases b:t>=c.threads
 . rw [if_neg a,if_pos b,if_pos (.inr b)]
 rw [if_neg a,if_neg b,if_neg (by omega),show c.items*ZaA c=Za0 c from rfl,Zat (n:=Za0 c) (by omega) (by omega),Zat (n:=2*t) (by omega) (by omega),Zat (by omega) (by omega)]
theorem ZlL {c:Config} (h:CfgOK c) (t:Int):Zng c t=some (ZaY c t):=by
 have h1:=Za3 h
 have h2:=h.threads
 simp only [Zng,Zap,ZcB,Zj4 h]
 unfold ZaY
 by_cases a:t<0
 . rw [if_pos a,if_pos (.inl a)]
 by_cases b:t>=c.threads
 . rw [if_neg a,if_pos b,if_pos (.inr b)]
 rw [if_neg a,if_neg b,if_neg (by omega),Zat (n:=2*t) (by omega) (by omega),Zat (by omega) (by omega)]
theorem Zyn {c:Config} (h:CfgOK c) (item layer i:Int):Zme c item layer i=some (ZeW c item layer i):=by
 have h1:=Za3 h
 have h4:=Zbr c
 have h5:=h.layers
 have h6:=h.width
 have h8:=Zey h
 have h9:=ZcQ h
 simp only [Zme,Zap,ZcB,Zj4 h]
 rw [Zat (n:=1+c.layers) (by omega) (by omega)]
 unfold ZeW
 by_cases a1:item<0
 . simp [a1]
 by_cases a2:item>=c.items
 . simp [a1,a2]
 by_cases a3:layer<1
 . simp [a1,a2,a3]
 by_cases a4:layer>c.layers
 . have a4':layer>=1+c.layers:=by omega
   simp [a1,a2,a3,a4,a4']
 have a4':¬layer>=1+c.layers:=by omega
 by_cases a5:i<0
 . simp [a1,a2,a3,a4,a4',a5]
 by_cases a6:i>=c.width
 . simp [a1,a2,a3,a4,a4',a5,a6]
 rw [if_neg a1,if_neg a2,if_neg a3,if_neg a4',if_neg a5,if_neg a6,if_neg (by omega)]
 have h7:=Zgx h (layer:=layer) (by omega) (by omega)
 have h3:=ZcN h (i:=item) (by omega) (by omega)
 rw [Zat (n:=item*ZaA c) (by omega) (by omega),Zat (n:=item*ZaA c+(1+ZaJ c)) (by omega) (by omega),
   Zat (n:=layer-1) (by omega) (by omega),Zat (n:=(layer-1)*c.width) (by omega) (by omega),Zat (n:=item*ZaA c+(1+ZaJ c)+(layer-1)*c.width) (by omega) (by omega),Zat (by omega) (by omega)]
theorem ZA5 {i l:Int} (h0:0<=i) (h1:i<=1000) (h2:0<=l) (h3:l<=1000):Zko i l=some (8*(16*i+l+1)+4):=by
 simp only [Zko,Zb0,Zdo]
 rw [show i*(2:Int) ^ min (Int.toNat (4:Int)) IntKind.i64.bits=16*i from Int.mul_comm i 16,Zat (n:=16*i) (by omega) (by omega),Zat (n:=16*i+l) (by omega) (by omega),Zat (n:=16*i+l+1) (by omega) (by omega),Zat (n:=8*(16*i+l+1)) (by omega) (by omega),Zat (by omega) (by omega)]
def ZdM (t:Tape):Int×Tape:=if t.at_<0\/t.at_>=(t.l.length:Int) then (0,t) else (t.l.getD t.at_.toNat 0,{ t with at_:=Zaf .i64 (t.at_+1) })
def Ze0 (t:Tape) (n:Int):Int×Tape :=
 if n<1 then (0,t) else (if (ZdM t).1.tmod n<0 then Zaf .i64 ((ZdM t).1.tmod n+n) else (ZdM t).1.tmod n,(ZdM t).2)
theorem ZBd {t:Tape} (h:Num t.at_) (hl:t.l.length<=4294967296):ZhH t=some (ZdM t):=by
 have e:ZhJ t=some (if t.at_<0\/t.at_>=(t.l.length:Int) then 0 else (t.l.length:Int)-t.at_):=by
   simp only [ZhJ,Zap]
   have h1:=h.2
   by_cases a:t.at_<0
   . rw [if_pos a,if_pos (show t.at_<0\/t.at_>=(t.l.length:Int) from .inl a)]
   by_cases b:t.at_>=(t.l.length:Int)
   . rw [if_neg a,if_pos (show t.at_<0\/t.at_>=(t.l.length:Int) from .inr b),Zat (n:=(t.l.length:Int)-t.at_) (by omega) (by omega),if_neg (by omega)]
   . rw [if_neg a,Zat (n:=(t.l.length:Int)-t.at_) (by omega) (by omega),if_pos (show (t.l.length:Int)-t.at_>0 by omega),if_neg (show ¬(t.at_<0\/t.at_>=(t.l.length:Int)) by omega)]
 simp only [ZhH,Zf8,e,Zap]
 unfold ZdM
 by_cases c:t.at_<0\/t.at_>=(t.l.length:Int)
 . simp only [if_pos c]
   rfl
 . simp only [if_neg c]
   rw [if_pos (show (t.l.length:Int)-t.at_>0 by omega),if_pos (show (0:Int)<=t.at_ by omega),if_pos (show t.at_<(t.l.length:Int) by omega)]
theorem Zzz {t:Tape} (n:Int) (h:Num t.at_) (hl:t.l.length<=4294967296):Znl t n=some (Ze0 t n):=by
 simp only [Znl,Zap,Zn5,ZBd h hl]
 unfold Ze0
 by_cases a:n<1
 . rw [if_pos a,if_pos a]
 rw [if_neg a,if_neg (by omega),if_neg a]
 split <;> rfl
theorem Zvy {m:Memo} {a v:Int} (h0:0<=a) (h1:a<(m.words.length:Int)) (hl:m.words.length<=4294967296) :
   Zhr m a v=some ({ m with words:=m.words.set a.toNat v },m.words.getD a.toNat 0,0):=by
 simp only [Zhr,ZbP,ZfK h0 h1,bne_self_eq_false,cond_false,ZbI,ZnZ hl,Zap,if_pos h0,if_pos h1]
theorem Zva {m:Memo} {a v:Int} (h:a<0\/a>=(m.words.length:Int)):Zhr m a v=some (m,0,30):=by
 simp only [Zhr,ZbP,Zhx h]
 rfl
def Zc1 (u:Turn):Turn :=
 if u.th.layer<u.c.layers/\¬Late u then { u with th:={ u.th with phase:=17,layer:=Zaf .i64 (u.th.layer+1) } } else { u with th:={ u.th with phase:=2 } }
theorem Zp2 (u:Turn):Zi3 u=some (Zc1 u):=by
 simp only [Zi3,ZdV,Zn9,Zap]
 unfold Zc1
 have e:decide (Late { u with th:={ u.th with phase:=2 } })=decide (Late u):=rfl
 by_cases a:u.th.layer<u.c.layers
 . rw [if_pos a,e]
   by_cases b:Late u
   . rw [decide_eq_true b,if_neg (fun h=>h.2 b)];rfl
   . rw [decide_eq_false b,if_pos ⟨a,b⟩];rfl
 . rw [if_neg a,if_neg (fun h=>a h.1)]
abbrev Zge (u:Turn):Int:=8*(16*u.th.item+u.th.layer+1)+4
abbrev ZdF (u:Turn):Int:=ZaY u.c u.t
abbrev ZbM (u:Turn):Int:=ZeW u.c u.th.item u.th.layer (Ze0 u.tape u.th.width).1
def swapT (u:Turn):Turn := if ZbM u=-1 then u else if 1<=ZaR u (ZbM u)/\ZaR u (ZbM u)<=u.c.threads/\ZaR u (ZbM u)≠u.t+1 then { setW u (ZbM u) (u.t+1) with tape:=(Ze0 u.tape u.th.width).2,th:={ u.th with phase:=20,who:=ZaR u (ZbM u)-1 } } else { setW u (ZbM u) (u.t+1) with tape:=(Ze0 u.tape u.th.width).2,th:={ u.th with phase:=23,left:=u.c.spin } }
def ZbK (u:Turn) (t so no:Int):Turn :=
 if ZaY u.c t=-1 then u else if ZaR u (ZaY u.c t)=Zge u then { setW u (ZaY u.c t) 0 with th:={ u.th with phase:=so } } else { u with th:={ u.th with phase:=no } }
def Zfh (u:Turn):Turn := if u.th.who<0\/u.th.who>=(u.m.boxes.length:Int) then u else { Zrm u u.th.who (u.m.boxes.getD u.th.who.toNat []) with th:={ (Zrm u u.th.who (u.m.boxes.getD u.th.who.toNat [])).th with phase:=25 } }
def Zjf (u:Turn):Turn := if ZaR u (ZdF u)≠Zge u then { u with th:={ u.th with phase:=13 } } else if u.th.left>0/\¬Late u then { u with th:={ u.th with left:=Zaf .i64 (u.th.left-1) } } else { u with th:={ u.th with phase:=26 } }
def Zgu (u:Turn):Turn :=
 if ZaR u (ZdF u)=Zge u then Zc1 { setW u (ZdF u) 0 with th:={ u.th with phase:=26,width:=if u.th.width / 2>1 then u.th.width / 2 else 1 } } else { u with th:={ u.th with phase:=13 } }
def Zbs (u:Turn):Turn×Bool := if u.th.phase=17 then ({ u with m:={ u.m with boxes:=u.m.boxes.set u.t.toNat u.th.batch },th:={ u.th with phase:=18 } },true) else if u.th.phase=18 then ({ setW u (ZdF u) (Zge u) with th:={ u.th with phase:=19 } },true) else if u.th.phase=19 then (swapT u,true) else if u.th.phase=20 then (ZbK u u.t 21 13,true) else if u.th.phase=21 then (ZbK u u.th.who 22 24,true) else if u.th.phase=22 then (Zfh u,true) else if u.th.phase=23 then (Zjf u,true) else if u.th.phase=24 then ({ setW u (ZdF u) (Zge u) with th:={ u.th with phase:=23,left:=u.c.spin } },true) else if u.th.phase=26 then (Zgu u,true) else (u,false)
structure FitC (u:Turn):Prop where
  g:FitG u
  item:0<=u.th.item/\u.th.item<u.c.items
  layer:1<=u.th.layer/\u.th.layer<=3
  tape:Num u.tape.at_
  draws:u.tape.l.length<=4294967296
  width:Num u.th.width
theorem FitC.line {u:Turn} (h:FitC u) {t:Int} (h0:ZaY u.c t≠-1):0<=ZaY u.c t/\ZaY u.c t<(u.m.words.length:Int):=by
 have h1:=Zh1 h.g.cfg h0
 have h2:=h.g.words
 have h3:=Za3 h.g.cfg
 omega
theorem FitC.mine {u:Turn} (h:FitC u):ZdF u≠-1/\0<=ZdF u/\ZdF u<(u.m.words.length:Int):=by
 have h1:=Zdx h.g.cfg h.g.t.1 h.g.t.2
 have h2:=h.g.words
 have h3:=Za3 h.g.cfg
 simp only [ZdF] at *
 omega
theorem FitC.slot {u:Turn} (h:FitC u) (h0:ZbM u≠-1):0<=ZbM u/\ZbM u<(u.m.words.length:Int):=by
 have h1:=ZpT h.g.cfg h0
 have h2:=h.g.words
 have h3:=h.g.cfg.threads
 unfold sizeOf at h2
 simp only [ZbM] at *
 omega
theorem Zvx {u:Turn} (h:FitC u):Zei u=some (Zbs u):=by
 have ht:=h.g.cfg.threads
 have hi:=h.g.cfg.items
 have h1:=h.g.t
 have h2:=h.item
 have h3:=h.layer
 have hl:=h.g.len
 have hb:=h.g.boxes
 have hbt:=h.g.batch
 have hkd:=h.g.kids
 obtain ⟨mn,m0,m1⟩:=h.mine
 simp only [Zei,Zkn,ZA5 (i:=u.th.item) (l:=u.th.layer) (by omega) (by omega) (by omega) (by omega),Zjj,Zcb,Zjb,Zc9,ZlL h.g.cfg,
   Zck,ZmC,Zzz u.th.width h.tape h.draws,Zmm,Zyn h.g.cfg,Zon,ZcV,ZcC,Zp2,ZiR,Zf0,Zcs,Zgd,ZbP,
   ZdV,Zn9,shr1]
 unfold Zbs
 by_cases p17:u.th.phase=17
 . rw [ZaT p17,cond_true,if_pos p17,ZrN (by omega) (by omega) (by omega) (by omega)]
   rfl
 rw [ZaC p17,cond_false,if_neg p17]
 by_cases p18:u.th.phase=18
 . rw [ZaT p18,cond_true,if_pos p18,ZdX m0 m1 (by omega)]
   rfl
 rw [ZaC p18,cond_false,if_neg p18]
 by_cases p19:u.th.phase=19
 . rw [ZaT p19,cond_true,if_pos p19]
   unfold swapT
   by_cases hn:ZbM u=-1
   . rw [Zva (.inl (by simp only [ZbM] at hn;omega)),if_pos hn]
     rfl
   . obtain ⟨n0,n1⟩:=h.slot hn
     rw [Zvy n0 n1 (by omega),if_neg hn,Zat (n:=u.t+1) (by omega) (by omega)]
     simp only [bne_self_eq_false,cond_false,Zap]
     by_cases a1:ZaR u (ZbM u)<1
     . rw [if_pos a1,if_neg (by omega)]
     by_cases a2:ZaR u (ZbM u)>u.c.threads
     . rw [if_neg a1,if_pos a2,if_neg (by omega)]
     by_cases a3:ZaR u (ZbM u)=u.t+1
     . rw [if_neg a1,if_neg a2,ZaT a3,cond_true,if_neg (by omega)]
     . rw [if_neg a1,if_neg a2,ZaC a3,cond_false,if_pos (by omega),Zat (n:=ZaR u (ZbM u)-1) (by omega) (by omega)]
 rw [ZaC p19,cond_false,if_neg p19]
 by_cases p20:u.th.phase=20
 . rw [ZaT p20,cond_true,if_pos p20,Zfd m0 m1 (by omega),ZaC (show u.th.phase≠26 by omega)]
   unfold ZbK
   rw [if_neg mn]
   simp only [bne_self_eq_false,cond_false]
   by_cases e:ZaR u (ZdF u)=Zge u
   . rw [decide_eq_true e,if_pos e,if_pos e];rfl
   . rw [decide_eq_false e,if_neg e,if_neg e];rfl
 rw [ZaC p20,cond_false,if_neg p20]
 by_cases p21:u.th.phase=21
 . rw [ZaT p21,cond_true,if_pos p21,ZaC (show u.th.phase≠26 by omega)]
   unfold ZbK
   by_cases hn:ZaY u.c u.th.who=-1
   . rw [Ziu (.inl (by omega)),if_pos hn]
     rfl
   . obtain ⟨n0,n1⟩:=h.line hn
     rw [Zfd n0 n1 (by omega),if_neg hn]
     simp only [bne_self_eq_false,cond_false]
     by_cases e:ZaR u (ZaY u.c u.th.who)=Zge u
     . rw [decide_eq_true e,if_pos e,if_pos e];rfl
     . rw [decide_eq_false e,if_neg e,if_neg e];rfl
 rw [ZaC p21,cond_false,if_neg p21]
 by_cases p22:u.th.phase=22
 . rw [ZaT p22,cond_true,if_pos p22]
   unfold Zfh
   by_cases hn:u.th.who<0\/u.th.who>=(u.m.boxes.length:Int)
   . rw [ZqV hn,if_pos hn]
     rfl
   . have hbl:=h.g.boxLen u.th.who.toNat
     rw [Zr0 (by omega) (by omega) (by omega),if_neg hn]
     simp only [beq_self_eq_true,cond_true]
     rw [ZrY (by omega) (by omega)]
 rw [ZaC p22,cond_false,if_neg p22]
 by_cases p23:u.th.phase=23
 . rw [ZaT p23,cond_true,if_pos p23,ZfK m0 m1]
   unfold Zjf
   simp only [bne_self_eq_false,cond_false,Zap]
   by_cases e:ZaR u (ZdF u)=Zge u
   . rw [ZdP e,cond_false,if_neg (show ¬(ZaR u (ZdF u)≠Zge u) from fun h=>h e)]
     by_cases a:u.th.left>0
     . rw [if_pos a]
       by_cases b:Late u
       . rw [decide_eq_true b,if_neg (fun h=>h.2 b)];rfl
       . rw [decide_eq_false b,if_pos ⟨a,b⟩];rfl
     . rw [if_neg a,if_neg (fun h=>a h.1)]
   . rw [Zdj e,cond_true,if_pos e]
 rw [ZaC p23,cond_false,if_neg p23]
 by_cases p24:u.th.phase=24
 . rw [ZaT p24,cond_true,if_pos p24,ZdX m0 m1 (by omega)]
   rfl
 rw [ZaC p24,cond_false,if_neg p24]
 by_cases p26:u.th.phase=26
 . rw [ZaT p26,cond_true,if_pos p26,Zfd m0 m1 (by omega)]
   unfold Zgu
   simp only [bne_self_eq_false,cond_false,cond_true]
   by_cases e:ZaR u (ZdF u)=Zge u
   . rw [decide_eq_true e,if_pos e,if_pos e];rfl
   . rw [decide_eq_false e,if_neg e,if_neg e];rfl
 rw [ZaC p26,cond_false,if_neg p26]
end Go.Proofs.Mill
namespace Go.Proofs.Mill
theorem Zsd (n:Int):Num (Zaf .i64 n):=by
 rw [Zcl]
 simp only [Num,IntKind.wrap,IntKind.signed,IntKind.bits]
 constructor <;> simp <;> omega
theorem ZBH (n:Int):∃ k:Int,Zaf .i64 n=n+k*18446744073709551616:=by
 rw [Zcl]
 simp only [IntKind.wrap,IntKind.signed,IntKind.bits]
 refine ⟨-((n+9223372036854775808) / 18446744073709551616),?_⟩
 simp
 omega
theorem wrap_u64 {n:Int} (h0:0<=n) (h1:n<18446744073709551616):Zaf .u64 n=n:=by
 rw [Zcl]
 simp [IntKind.wrap,IntKind.signed,IntKind.bits]
 omega
theorem Zrd (n:Int):∃ k:Int,IntKind.u64.wrap n=n+k*18446744073709551616/\0<=IntKind.u64.wrap n/\IntKind.u64.wrap n<18446744073709551616:=by
 refine ⟨-(n / 18446744073709551616),?_⟩
 simp [IntKind.wrap,IntKind.signed,IntKind.bits]
 omega
theorem ZB7 (n:Int):∃ k:Int,Zaf .u64 n=n+k*18446744073709551616/\0<=Zaf .u64 n/\Zaf .u64 n<18446744073709551616:=by
 rw [Zcl]
 exact Zrd n
theorem ZCj {α:Type} {c:Bool} {a b:Option α} (ha:a.isSome=true) (hb:b.isSome=true):(bif c then a else b).isSome=true:=by cases c <;> assumption
theorem ZEG {α:Type} {P:α->Prop} {c:Bool} {a b:Option α} (ha:∀ r,a=some r->P r) (hb:∀ r,b=some r->P r):∀ r,(bif c then a else b)=some r->P r:=by cases c <;> assumption
theorem ZyO (o:Op) (x lo hi:Int):∃ r,ZcW o x lo hi=some r:=by
 refine Option.isSome_iff_exists.1 ?_
 simp only [ZcW,Zf6,ZhD]
 repeat' first | rfl | refine ZCj ?_ ?_
def App (o:Op) (x lo hi:Int):Int×Bool:=(ZcW o x lo hi).getD (0,false)
theorem Zhs (o:Op) (x lo hi:Int):ZcW o x lo hi=some (App o x lo hi):=by
 obtain ⟨r,h⟩:=ZyO o x lo hi
 rw [App,h]
 rfl
theorem ZtP {o:Op} {x lo hi:Int} (hx:Num x) (hv:Num o.v) (hlo:Num lo):Num (App o x lo hi).1:=by
 have h:=Zhs o x lo hi
 revert h
 generalize App o x lo hi=r
 revert r
 simp only [ZcW,Zf6,ZhD]
 repeat' refine ZEG (P:=fun r:Int×Bool=>Num r.1) ?_ ?_
 all_goals (intro r h;obtain rfl:=Option.some.inj h)
 all_goals first | exact Zsd _ | exact hx | exact hv | exact hlo | (simp only;split <;> assumption)
theorem ZvT {x lo:Int} (hx:Num x) (hlo:Num lo) (h:lo<=x):Zaf .u64 (IntKind.u64.wrap x-IntKind.u64.wrap lo)=x-lo:=by
 unfold Num at hx hlo
 obtain ⟨k2,e2,l2,u2⟩:=Zrd x
 obtain ⟨k3,e3,l3,u3⟩:=Zrd lo
 obtain ⟨k4,e4,l4,u4⟩:=ZB7 (IntKind.u64.wrap x-IntKind.u64.wrap lo)
 generalize Zaf .u64 (IntKind.u64.wrap x-IntKind.u64.wrap lo)=z at *
 generalize IntKind.u64.wrap x=a at *
 generalize IntKind.u64.wrap lo=b at *
 omega
theorem ZCI {x v:Int}:Zaf .i64 (x+Zaf .i64 (0-v))=Zaf .i64 (x-v):=by
 rw [Zcl,Zcl,Zcl]
 simp [IntKind.wrap,IntKind.signed,IntKind.bits]
 omega
theorem ZEU {x v s lo k:Int} (hx:Num x) (hv:Num v) (hlo:Num lo) (e:s=x-v+k*18446744073709551616) (hs:Num s) (a1:¬v<0) (a2:¬x<lo) :
   (if s<=x then if s>=lo then some (s,true) else some (lo,true) else some (lo,true))=if v>=x-lo then some (lo,true) else some (s,true):=by
 unfold Num at *
 by_cases a3:v>=x-lo
 . rw [if_pos a3]
   by_cases a4:s<=x
   . rw [if_pos a4]
     by_cases a5:s>=lo
     . rw [if_pos a5,show s=lo by omega]
     . rw [if_neg a5]
   . rw [if_neg a4]
 . rw [if_neg a3,if_pos (by omega),if_pos (by omega)]
theorem ZD8 {x v s lo hi:Int}:(match (bif decide (v>=0) then bif decide (s>=x) then bif decide (s<lo) then some true else some (decide (s>hi))
      else bif decide (v<0) then bif decide (s<x) then bif decide (s<lo) then some true else some (decide (s>hi)) else some true else some true
    else bif decide (v<0) then bif decide (s<x) then bif decide (s<lo) then some true else some (decide (s>hi)) else some true else some true:Option Bool) with
    | some y1=>bif !y1 then some (s,true) else some (x,false)
    | none=>none) =
    bif !(decide (v>=0) == decide (s>=x)) then some (x,false) else bif decide (s<lo) then some (x,false) else bif decide (s>hi) then some (x,false) else some (s,true):=by
  by_cases a1:v>=0
  . have d1:decide (v>=0)=true:=decide_eq_true a1
    have d0:decide (v<0)=false:=decide_eq_false (by omega)
    by_cases a2:s>=x
    . have d2:decide (s>=x)=true:=decide_eq_true a2
      simp only [d1,d2,cond_true,beq_self_eq_true,Bool.not_true,cond_false]
      cases decide (s<lo) <;> cases decide (s>hi) <;> rfl
    . have d2:decide (s>=x)=false:=decide_eq_false a2
      simp only [d1,d2,d0,cond_true,cond_false]
      rfl
  . have d1:decide (v>=0)=false:=decide_eq_false a1
    have d0:decide (v<0)=true:=decide_eq_true (by omega)
    by_cases a2:s<x
    . have d2:decide (s>=x)=false:=decide_eq_false (by omega)
      have d3:decide (s<x)=true:=decide_eq_true a2
      simp only [d1,d2,d0,d3,cond_true,beq_self_eq_true,Bool.not_true,cond_false]
      cases decide (s<lo) <;> cases decide (s>hi) <;> rfl
    . have d2:decide (s>=x)=true:=decide_eq_true (by omega)
      have d3:decide (s<x)=false:=decide_eq_false a2
      simp only [d1,d2,d0,d3,cond_true,cond_false]
      rfl
theorem ZCg {o:Op} {x lo hi:Int} (hx:Num x) (hv:Num o.v) (hlo:Num lo) (hhi:Num hi):Zjo o x lo hi=ZcW o x lo hi:=by
 obtain ⟨t,v⟩:=o
 simp only at hv
 unfold Zjo ZcW
 simp only
 have n:∀ j:Int,t≠j->(t == j)=false:=fun j h=>by simpa using h
 have y:∀ j:Int,t=j->(t == j)=true:=fun j h=>by simpa using h
 by_cases t1:t=1
 . rw [n 2 (by omega),y 1 t1];rfl
 by_cases t2:t=2
 . rw [n 1 (by omega),y 2 t2]
   simp only [cond_true,cond_false]
   rw [ZCI]
 by_cases t3:t=3
 . rw [n 1 (by omega),n 2 (by omega),y 3 t3];rfl
 by_cases t4:t=4
 . rw [n 1 (by omega),n 2 (by omega),n 3 (by omega),y 4 t4];rfl
 by_cases t5:t=5
 . rw [n 1 (by omega),n 2 (by omega),n 3 (by omega),n 4 (by omega),y 5 t5]
   have:(if x>v then x else v)=if v>x then v else x:=by split <;> split <;> omega
   simp only [cond_true,cond_false,this]
 by_cases t6:t=6
 . rw [n 1 (by omega),n 2 (by omega),n 3 (by omega),n 4 (by omega),n 5 (by omega),y 6 t6]
   have:(if x<v then x else v)=if v<x then v else x:=by split <;> split <;> omega
   simp only [cond_true,cond_false,this]
 by_cases t7:t=7
 . rw [n 1 (by omega),n 2 (by omega),n 3 (by omega),n 4 (by omega),n 5 (by omega),n 6 (by omega),y 7 t7]
   simp only [cond_true,cond_false]
 by_cases t8:t=8
 . rw [n 1 (by omega),n 2 (by omega),n 3 (by omega),n 4 (by omega),n 5 (by omega),n 6 (by omega),n 7 (by omega),n 9 (by omega),y 8 t8]
   simp only [cond_true,cond_false,Zk7,ZpQ,Zf6,ZhD]
   exact ZD8
 by_cases t9:t=9
 . rw [n 1 (by omega),n 2 (by omega),n 3 (by omega),n 4 (by omega),n 5 (by omega),n 6 (by omega),n 7 (by omega),n 8 (by omega),y 9 t9]
   simp only [cond_true,cond_false,Zap]
   by_cases a1:v<0
   . rw [if_pos a1,if_pos a1]
   rw [if_neg a1,if_neg a1]
   by_cases a2:x<lo
   . rw [if_pos a2,if_pos a2]
   rw [if_neg a2,if_neg a2]
   obtain ⟨k,e⟩:=ZBH (x-v)
   have f1:IntKind.u64.wrap v=v:=by
     obtain ⟨k1,e1,l1,u1⟩:=Zrd v
     generalize IntKind.u64.wrap v=z at *
     unfold Num at hv
     omega
   rw [f1,ZvT hx hlo (by omega)]
   exact ZEU hx hv hlo e (Zsd _) a1 a2
 rw [n 1 t1,n 2 t2,n 3 t3,n 4 t4,n 5 t5,n 6 t6,n 7 t7,n 8 t8,n 9 t9]
 rfl
theorem ZsW {o:Op} {x lo hi:Int} (hx:Num x) (hv:Num o.v) (hlo:Num lo) (hhi:Num hi):Zjo o x lo hi=some (App o x lo hi):=by
 rw [ZCg hx hv hlo hhi,Zhs]
end Go.Proofs.Mill
namespace Go.Proofs.Mill
def allT (lo hi:Int):List Entry->Int->Int
 | [],x=>x
 | e::r,x=>allT lo hi r (App e.op x lo hi).1
def Zb7 (lo hi:Int):List Entry->Int->List Int
 | [],_=>[]
 | e::r,x=>x::Zb7 lo hi r (App e.op x lo hi).1
theorem ZfG (lo hi:Int):∀ (b:List Entry) (x:Int),(Zb7 lo hi b x).length=b.length
 | [],_=>rfl
 | e::r,x=>by simp [Zb7,ZfG lo hi r]
theorem Zql {lo hi:Int} (hlo:Num lo) (hhi:Num hi):∀ (b:List Entry) (x:Int),Num x->(∀ e∈b,Num e.op.v) ->
   ∃ l,cellsOf (apC lo hi) b x=some l/\l.map (·.1)=Zb7 lo hi b x/\l.foldl (fun _ p=>p.2) x=allT lo hi b x/\Num (allT lo hi b x)
 | [],x,hx,_=>⟨[],rfl,rfl,rfl,hx⟩
 | e :: r, x, hx, hb => by
   have hv:=hb e (by simp)
   obtain ⟨l,h1,h2,h3,h4⟩:=Zql hlo hhi r (App e.op x lo hi).1 (ZtP hx hv hlo) (fun e he=>hb e (by simp [he]))
   refine ⟨(x,(App e.op x lo hi).1)::l,?_,by simp [h2,Zb7],h3,h4⟩
   unfold cellsOf
   have:apC lo hi e x=some (App e.op x lo hi).1:=by
     unfold apC
     rw [show ZeA (e.op,x,lo,hi)=some (App e.op x lo hi) from ZsW hx hv hlo hhi]
   rw [this]
   simp only [h1]
theorem ZuM {lo hi x:Int} {b:List Entry} (hlo:Num lo) (hhi:Num hi) (hx:Num x) (hb:∀ e∈b,Num e.op.v) (hl:b.length<=4294967296):ZhB b x lo hi=some (allT lo hi b x):=by
 obtain ⟨l,h1,_,h3,_⟩:=Zql hlo hhi b x hx hb
 simp only [ZhB,ZaX hl,cond_true,h1,h3]
theorem Zv5 {lo hi x:Int} {b:List Entry} (hlo:Num lo) (hhi:Num hi) (hx:Num x) (hb:∀ e∈b,Num e.op.v) (hl:b.length<=4294967296):ZfB b x lo hi=some (Zb7 lo hi b x):=by
 obtain ⟨l,h1,h2,_,_⟩:=Zql hlo hhi b x hx hb
 simp only [ZfB,ZaX hl,cond_true,h1,h2]
theorem ZyF {b:List Entry} {n:Int} (hl:b.length<=4294967296):Zl4 b n=some (b.take n.toNat):=by
 unfold Zl4
 simp only [Zap]
 have key:∀ m:Int,0<=m->m<=(b.length:Int)->Zbx (List.drop (Int.toNat (0:Int)) (List.take m.toNat b))=some (b.take m.toNat):=by
   intro m h0 h1
   show ZcX _=_
   rw [show Int.toNat (0:Int)=0 from rfl,List.drop_zero,Zkq (by simp;omega)]
 by_cases h:(b.length:Int)<n
 . simp only [if_pos h]
   by_cases h2:(b.length:Int)>0
   . simp only [if_pos h2]
     rw [if_pos (by omega),if_pos (by omega),key _ (by omega) (by omega)]
     rw [List.take_of_length_le (by omega),List.take_of_length_le (by omega)]
   . simp only [if_neg h2]
     rw [if_pos (by omega),if_pos (by omega),key _ (by omega) (by omega)]
     have:b=[]:=List.length_eq_zero_iff.1 (by omega)
     subst this
     simp
 . simp only [if_neg h]
   by_cases h2:n>0
   . simp only [if_pos h2]
     rw [if_pos (by omega),if_pos (by omega),key _ (by omega) (by omega)]
   . simp only [if_neg h2]
     rw [if_pos (by omega),if_pos (by omega),key _ (by omega) (by omega)]
     have:n.toNat=0:=by omega
     simp [this]
theorem ZuO:ZrT=some 5:=by kernel_rfl
def cellAt (c:Config) (item:Int):Int:=if item<0\/item>=c.items then -1 else item*ZaA c
def Zct (c:Config) (t:Int):Int:=if t<0\/t>=c.threads then -1 else Za0 c+2*t+1
theorem ZpM {c:Config} (h:CfgOK c) (i:Int):Zje c i=some (cellAt c i):=by
 unfold Zje cellAt
 simp only [Zap]
 by_cases h1:i<0
 . rw [if_pos h1,if_pos (.inl h1)]
 . rw [if_neg h1]
   by_cases h2:i>=c.items
   . rw [if_pos h2,if_pos (.inr h2)]
   . rw [if_neg h2,if_neg (fun h=>h.elim h1 h2)]
     simp only [ZcB,Zj4 h]
     have:=ZcN h (i:=i) (by omega) (by omega)
     have:=Za3 h
     rw [Zat (by omega) (by omega)]
theorem ZqU {c:Config} (h:CfgOK c) (t:Int):Zkb c t=some (Zct c t):=by
 unfold Zkb Zct
 simp only [Zap]
 by_cases h1:t<0
 . rw [if_pos h1,if_pos (.inl h1)]
 . rw [if_neg h1]
   by_cases h2:t>=c.threads
   . rw [if_pos h2,if_pos (.inr h2)]
   . rw [if_neg h2,if_neg (fun h=>h.elim h1 h2)]
     simp only [ZcB,Zj4 h]
     have:=Za3 h
     have:=h.threads
     rw [Zat (n:=(2:Int)*t) (by omega) (by omega),Zat (n:=Za0 c+2*t) (by omega) (by omega),Zat (by omega) (by omega)]
def Zco (u:Turn):Turn:=if u.th.at_<0\/u.th.at_>=(u.th.kids.length:Int) then { u with th:={ u.th with phase:=0 },done:=true } else { u with th:={ u.th with phase:=15 } }
theorem Zms (u:Turn):ZjO u=some (Zco u):=by
 unfold ZjO Zco
 simp only [Zap]
 by_cases h1:u.th.at_<0
 . rw [if_pos h1,if_pos (.inl h1)]
 . rw [if_neg h1]
   by_cases h2:u.th.at_>=(u.th.kids.length:Int)
   . rw [if_pos h2,if_pos (.inr h2)]
   . rw [if_neg h2,if_neg (show ¬(u.th.at_<0\/u.th.at_>=(u.th.kids.length:Int)) from fun h=>h.elim h1 h2),if_pos (by omega),if_pos (by omega)]
structure FitM (u:Turn):Prop where
  g:FitG u
  held:u.th.held.length<=4294967295
  item:0<=u.th.item/\u.th.item<u.c.items
  layer:17<=u.th.phase->1<=u.th.layer/\u.th.layer<=3
  tape:Num u.tape.at_
  draws:u.tape.l.length<=4294967296
  width:Num u.th.width
  lo:Num u.c.lo
  hi:Num u.c.hi
  x:Num u.th.x
  ops:∀ e∈u.th.batch,Num e.op.v
theorem FitM.cell {u:Turn} (h:FitM u):cellAt u.c u.th.item=u.th.item*ZaA u.c/\0<=u.th.item*ZaA u.c/\u.th.item*ZaA u.c<(u.m.words.length:Int):=by
 have h1:=ZcN h.g.cfg (i:=u.th.item) h.item.1 (by have:=h.item.2;omega)
 have h2:=h.g.words
 have h3:=h.g.cfg.threads
 unfold sizeOf at h2
 refine ⟨?_,h1.1,by omega⟩
 unfold cellAt
 rw [if_neg (by have:=h.item;omega)]
theorem ZtJ {u:Turn} (h:FitG u) {t:Int} (h0:0<=t) (h1:t<u.c.threads):Zct u.c t=Za0 u.c+2*t+1/\0<=Zct u.c t/\Zct u.c t<(u.m.words.length:Int):=by
 have h2:=h.words
 have h3:=Za3 h.cfg
 have e:Zct u.c t=Za0 u.c+2*t+1:=by unfold Zct;rw [if_neg (by omega)]
 unfold sizeOf at h2
 rw [e]
 omega
theorem ZlQ {u:Turn} (h:FitG u) {t:Int} (h0:0<=t) (h1:t<u.c.threads):0<=ZaY u.c t/\ZaY u.c t<(u.m.words.length:Int)/\ZaY u.c t≠-1:=by
 have h2:=Zdx h.cfg h0 h1
 have h3:=h.words
 have h4:=Za3 h.cfg
 omega
def Zc6 (u:Turn):Kid:=u.th.kids.getD u.th.at_.toNat ⟨0,0⟩
abbrev Zed (u:Turn):Prop:=u.th.at_<0\/u.th.at_>=(u.th.kids.length:Int)
def Zb1 (u:Turn):Turn×Bool := if u.th.phase=13 then (if ZaR u (ZaY u.c u.t)=5 then { u with th:={ u.th with phase:=14 } } else u,true) else if u.th.phase=14 then (Zco { u with th:={ u.th with at_:=0,x:=ZaR u (Zct u.c u.t) } },true) else if u.th.phase=15 then (if Zed u then u else if Zct u.c (Zc6 u).t=-1 then u else { setW u (Zct u.c (Zc6 u).t) (allT u.c.lo u.c.hi (u.th.batch.take (Zc6 u).ahead.toNat) u.th.x) with th:={ u.th with phase:=16 } },true) else if u.th.phase=16 then (if Zed u then u else if ZaY u.c (Zc6 u).t=-1 then u else Zco { setW u (ZaY u.c (Zc6 u).t) 5 with th:={ u.th with at_:=Zaf .i64 (u.th.at_+1) } },true) else (u,false)
theorem Znj {m:Memo} {a:Int} (h0:0<=a) (h1:a<(m.words.length:Int)):Zgd m a=some (m.words.getD a.toNat 0,0):=by
 simp only [Zgd,ZbP,ZfK h0 h1]
theorem FitG.wl {u:Turn} (h:FitG u):u.m.words.length<=4294967296:=by have:=h.len;omega
theorem Zy7 {u:Turn} (h:FitM u):Zfp u=some (Zb1 u):=by
 have hc:=h.g.cfg
 have hl:=ZlQ h.g h.g.t.1 h.g.t.2
 have hr:=ZtJ h.g h.g.t.1 h.g.t.2
 unfold Zfp Zb1
 by_cases p13:u.th.phase=13
 . rw [ZaT p13,if_pos p13]
   simp only [cond_true,ZpJ,Zc9,ZlL hc,Zcs,Znj hl.1 hl.2.1,ZhC,ZuO]
   by_cases e:u.m.words.getD (ZaY u.c u.t).toNat 0=5
   . rw [show ((0:Int) == 0)=true from rfl,ZaT e,if_pos e];rfl
   . rw [show ((0:Int) == 0)=true from rfl,ZaC e,if_neg e];rfl
 rw [ZaC p13,if_neg p13]
 simp only [cond_false]
 by_cases p14:u.th.phase=14
 . rw [ZaT p14,if_pos p14]
   simp only [cond_true,Zpl,ZfC,ZqU hc,Zcs,Znj hr.2.1 hr.2.2,bne_self_eq_false,cond_false,Zdk,Zms]
 rw [ZaC p14,if_neg p14]
 simp only [cond_false]
 by_cases p15:u.th.phase=15
 . rw [ZaT p15,if_pos p15]
   simp only [cond_true,ZpA,Zap]
   by_cases k1:u.th.at_<0
   . rw [if_pos k1,if_pos (show Zed u from .inl k1)]
   rw [if_neg k1]
   by_cases k2:u.th.at_>=(u.th.kids.length:Int)
   . rw [if_pos k2,if_pos (show Zed u from .inr k2)]
   rw [if_neg k2,if_neg (show ¬Zed u from fun h=>h.elim k1 k2),if_pos (by omega),if_pos (by omega)]
   have hb:u.th.batch.length<=4294967296:=by have:=h.g.batch;omega
   have hall:Zfc (u.th.batch.take (Zc6 u).ahead.toNat,u.th.x,u.c.lo,u.c.hi)=some (allT u.c.lo u.c.hi (u.th.batch.take (Zc6 u).ahead.toNat) u.th.x) :=
     ZuM h.lo h.hi h.x (fun e he=>h.ops e (List.mem_of_mem_take he)) (by simp;omega)
   have hup:ZmU (u.th.batch,(u.th.kids.getD u.th.at_.toNat dKid).ahead)=some (u.th.batch.take (Zc6 u).ahead.toNat):=ZyF hb
   have hres:ZfC (u.c,(u.th.kids.getD u.th.at_.toNat dKid).t)=some (Zct u.c (Zc6 u).t):=ZqU hc _
   simp only [hup,hall,hres,Zck]
   by_cases e:Zct u.c (Zc6 u).t=-1
   . rw [Zha (.inl (by omega)),if_pos e];rfl
   . have hk:0<=(Zc6 u).t/\(Zc6 u).t<u.c.threads:=by unfold Zct at e;split at e <;> omega
     have hk2:=ZtJ h.g hk.1 hk.2
     rw [ZdX hk2.2.1 hk2.2.2 h.g.wl,if_neg e];rfl
 rw [ZaC p15,if_neg p15]
 simp only [cond_false]
 by_cases p16:u.th.phase=16
 . rw [ZaT p16,if_pos p16]
   simp only [cond_true,Zpa,Zap]
   by_cases k1:u.th.at_<0
   . rw [if_pos k1,if_pos (show Zed u from .inl k1)]
   rw [if_neg k1]
   by_cases k2:u.th.at_>=(u.th.kids.length:Int)
   . rw [if_pos k2,if_pos (show Zed u from .inr k2)]
   rw [if_neg k2,if_neg (show ¬Zed u from fun h=>h.elim k1 k2),if_pos (by omega),if_pos (by omega)]
   have hline:Zc9 (u.c,(u.th.kids.getD u.th.at_.toNat dKid).t)=some (ZaY u.c (Zc6 u).t):=ZlL hc _
   simp only [hline,ZhC,ZuO,Zck]
   by_cases e:ZaY u.c (Zc6 u).t=-1
   . rw [Zha (.inl (by omega)),if_pos e];rfl
   . have hk:=Zh1 hc e
     have hk2:=ZlQ h.g hk.2.2.1 hk.2.2.2.1
     rw [ZdX hk2.1 hk2.2.1 h.g.wl,if_neg e]
     simp only [bne_self_eq_false,cond_false,Zdk,Zms]
 rw [ZaC p16,if_neg p16]
 rfl
def ZkF (u:Turn) (x:Int):List Mark:=List.zipWith (fun (e:Entry) p=>(⟨e.t,u.th.item,e.op,p,0⟩:Mark)) u.th.batch (Zb7 u.c.lo u.c.hi u.th.batch x)
theorem Zu2 (u:Turn) (x:Int):(ZkF u x).length=u.th.batch.length:=by simp [ZkF,ZfG]
def Zel (u:Turn) (x:Int):Turn:=Zco { u with th:={ u.th with at_:=0,x:=x },log:=u.log++ZkF u x }
theorem Zw8 {u z:Turn} {x:Int} {ps:List Int} (hp:ps.length=u.th.batch.length) (hl:u.log.length+u.th.batch.length<=4294967296) :
   Zhk (x,u,z,(),u.log,ps,(ps.length:Int),0)=some (x,u,z,(),u.log++List.zipWith (fun (e:Entry) p=>(⟨e.t,u.th.item,e.op,p,0⟩:Mark)) u.th.batch ps):=by
 obtain ⟨ms,hms⟩:∃ ms,ms=List.zipWith (fun (e:Entry) p=>(⟨e.t,u.th.item,e.op,p,0⟩:Mark)) u.th.batch ps:=⟨_,rfl⟩
 have hlen:ms.length=ps.length:=by rw [hms];simp [hp]
 rw [<- hms]
 unfold Zhk
 have h0:Zay Zd2 (x,u,z,(),u.log++ms.take 0,ps,(ps.length:Int),((0:Nat):Int))=some (x,u,z,(),u.log++ms):=Zbi (step:=Zd2) (fun i=>(x,u,z,(),u.log++ms.take i,ps,(ps.length:Int),(i:Int))) ps.length (y:=(x,u,z,(),u.log++ms)) (fun i hi=>?_) ?_
 . rw [List.take_zero,List.append_nil] at h0
   exact h0
 . show Zd6 _ _ _ _ _ _ _ _=_
   unfold Zd6
   have hw:Zaf .i64 ((i:Int)+1)=((i+1:Nat):Int):=by rw [Zat (by omega) (by omega)];rfl
   have hg:(ms.getD i ⟨0,0,⟨0,0⟩,0,0⟩)=⟨(u.th.batch.getD i Zce).t,u.th.item,(u.th.batch.getD i Zce).op,ps.getD i 0,0⟩:=by
     have h1:i<u.th.batch.length:=by omega
     rw [hms]
     simp only [List.getD_eq_getElem?_getD,List.getElem?_zipWith,List.getElem?_eq_getElem h1,List.getElem?_eq_getElem hi,Option.getD_some]
   have hfew:fewB ((u.log++ms.take i).length+([(⟨(u.th.batch.getD i Zce).t,u.th.item,(u.th.batch.getD i Zce).op,ps.getD i 0,0⟩:Mark)]).length)=true:=ZaX (by simp;omega)
   simp only [Zap,Int.toNat_natCast]
   rw [if_pos (by omega),if_pos (by omega),if_pos (by omega),if_pos (by omega),if_pos (by omega),hfew,hw]
   simp only [cond_true]
   rw [<- ZcO ms ⟨0,0,⟨0,0⟩,0,0⟩ i (by omega),hg,List.append_assoc]
 . show Zd6 _ _ _ _ _ _ _ _=some (.inr _)
   unfold Zd6
   simp only [Zap]
   rw [if_neg (by omega),List.take_of_length_le (by omega)]
theorem Zu6 {u:Turn} {x:Int} (hlo:Num u.c.lo) (hhi:Num u.c.hi) (hx:Num x) (hb:∀ e∈u.th.batch,Num e.op.v) (hl:u.log.length+u.th.batch.length<=4294967296):Zjn u x=some (Zel u x):=by
 unfold Zjn
 rw [ZaX (by omega)]
 simp only [cond_true,Zke,Zv5 hlo hhi hx hb (by omega)]
 rw [Zw8 (ZfG _ _ _ _) hl]
 simp only [Zdk,Zms]
 rfl
def Zdu (u:Turn):Turn := if ZaR u (cellAt u.c u.th.item)=u.th.x then Zel (setW u (cellAt u.c u.th.item) u.th.y) u.th.x else { u with th:={ u.th with phase:=2,width:=if u.th.width<u.c.width then (if u.c.width<Zaf .i64 (u.th.width*2) then u.c.width else Zaf .i64 (u.th.width*2)) else (if u.c.width<u.th.width then u.c.width else u.th.width) } }
def ZbF (u:Turn):Turn×Bool := if u.th.phase=3 then (Zdu u,true) else if u.th.phase=2\/u.th.phase=25 then (if allT u.c.lo u.c.hi u.th.batch (ZaR u (cellAt u.c u.th.item))=ZaR u (cellAt u.c u.th.item) then Zel u (ZaR u (cellAt u.c u.th.item)) else if u.th.phase=25 then Zc1 u else { u with th:={ u.th with phase:=3,x:=ZaR u (cellAt u.c u.th.item),y:=allT u.c.lo u.c.hi u.th.batch (ZaR u (cellAt u.c u.th.item)) } },true) else (u,false)
theorem Zxd {u:Turn} (h:FitM u) (hlog:u.log=[]):Zk8 u=some (ZbF u):=by
 have hc:=h.g.cfg
 obtain ⟨hcell,c0,c1⟩:=h.cell
 rw [<- hcell] at c0 c1
 have hb:u.th.batch.length<=4294967296:=by have:=h.g.batch;omega
 have hw:Num (ZaR u (cellAt u.c u.th.item)):=h.g.word c0 c1
 have hcom:∀ {v:Turn} {x:Int},v.c=u.c->v.th.batch=u.th.batch->v.log=u.log->Num x->ZdS (v,x)=some (Zel v x):=by
   intro v x h1 h2 h3 hx
   refine Zu6 (by rw [h1];exact h.lo) (by rw [h1];exact h.hi) hx (by rw [h2];exact h.ops) ?_
   rw [h2,h3,hlog]
   have:=h.g.batch
   simp only [List.length_nil]
   omega
 have hall:Zfc (u.th.batch,ZaR u (cellAt u.c u.th.item),u.c.lo,u.c.hi)=some (allT u.c.lo u.c.hi u.th.batch (ZaR u (cellAt u.c u.th.item))):=ZuM h.lo h.hi hw h.ops hb
 unfold Zk8 ZbF
 by_cases p3:u.th.phase=3
 . rw [ZaT p3,if_pos p3]
   simp only [cond_true,Zho,ZlA,Zdz,ZpM hc,ZcV,Zfd c0 c1 h.g.wl,bne_self_eq_false,cond_false]
   unfold Zdu
   by_cases e:u.m.words.getD (cellAt u.c u.th.item).toNat 0=u.th.x
   . rw [decide_eq_true e,if_pos e,if_pos e]
     simp only [cond_true]
     rw [hcom (v:=setW u (cellAt u.c u.th.item) u.th.y) (x:=u.th.x) rfl rfl rfl h.x]
   . rw [decide_eq_false e,if_neg e,if_neg (show ¬ZaR u (cellAt u.c u.th.item)=u.th.x from e)]
     simp only [cond_false,Zap]
     by_cases e2:u.th.width<u.c.width
     . rw [if_pos e2,if_pos e2]
     . rw [if_neg e2,if_neg e2]
 rw [ZaC p3,if_neg p3]
 simp only [cond_false,Zdz,ZpM hc,Zcs,Znj c0 c1]
 have hrest:∀ q:Bool,(q=(u.th.phase == (25:Int)))->(match Zfc (u.th.batch,u.m.words.getD (cellAt u.c u.th.item).toNat 0,u.c.lo,u.c.hi) with
     | some y3 =>
       bif (0:Int) != (0:Int) then some (u,true)
       else
         bif u.m.words.getD (cellAt u.c u.th.item).toNat 0 == u.m.words.getD (cellAt u.c u.th.item).toNat 0 && (y3 == u.m.words.getD (cellAt u.c u.th.item).toNat 0 && true) then
           match ZdS (u,u.m.words.getD (cellAt u.c u.th.item).toNat 0) with
           | some y4=>some (y4,true)
           | none=>none
         else
           bif u.th.phase == (25:Int) then
             match ZcC u with
             | some y4=>some (y4,true)
             | none=>none
           else some ({ u with th:={ u.th with phase:=(3:Int),x:=u.m.words.getD (cellAt u.c u.th.item).toNat 0,y:=y3 } },true)
     | none=>none)=some (if allT u.c.lo u.c.hi u.th.batch (ZaR u (cellAt u.c u.th.item))=ZaR u (cellAt u.c u.th.item) then Zel u (ZaR u (cellAt u.c u.th.item))
    else if u.th.phase=25 then Zc1 u
    else { u with th:={ u.th with phase:=3,x:=ZaR u (cellAt u.c u.th.item),y:=allT u.c.lo u.c.hi u.th.batch (ZaR u (cellAt u.c u.th.item)) } },true):=by
   intro q hq
   rw [hall]
   simp only [bne_self_eq_false,cond_false,beq_self_eq_true,Bool.true_and,Bool.and_true]
   by_cases e:allT u.c.lo u.c.hi u.th.batch (ZaR u (cellAt u.c u.th.item))=ZaR u (cellAt u.c u.th.item)
   . rw [ZaT e,if_pos e]
     simp only [cond_true]
     rw [hcom rfl rfl rfl hw]
   . rw [ZaC e,if_neg e]
     simp only [cond_false]
     by_cases p:u.th.phase=25
     . rw [ZaT p,if_pos p]
       simp only [cond_true,ZcC,Zp2]
     . rw [ZaC p,if_neg p]
       rfl
 by_cases p2:u.th.phase=2
 . rw [ZdP p2,if_pos (.inl p2)]
   simp only [cond_false]
   exact hrest _ rfl
 . rw [Zdj p2]
   simp only [cond_true]
   by_cases p25:u.th.phase=25
   . rw [ZdP p25,if_pos (.inr p25)]
     simp only [cond_false]
     exact hrest _ rfl
   . rw [Zdj p25,if_neg (fun h=>h.elim p2 p25)]
     rfl
def ZeF (u:Turn):Turn := if u.c.backend=2/\u.c.depth>0 then { u with th:={ u.th with phase:=4 } } else if u.c.backend=3/\u.c.layers>0 then { u with th:={ u.th with phase:=17,layer:=1 } } else { u with th:={ u.th with phase:=2 } }
theorem Zvl (u:Turn):ZiQ u=some (ZeF u):=by
 unfold ZiQ ZeF
 simp only [Zap]
 by_cases b2:u.c.backend=2
 . have b3:¬u.c.backend=3:=by omega
   rw [ZaT b2,ZaC b3,if_neg (show ¬(u.c.backend=3/\u.c.layers>0) from fun h=>b3 h.1)]
   simp only [cond_true,cond_false]
   by_cases d:u.c.depth>0
   . rw [if_pos d,if_pos (show u.c.backend=2/\u.c.depth>0 from ⟨b2,d⟩)]
   . rw [if_neg d,if_neg (show ¬(u.c.backend=2/\u.c.depth>0) from fun h=>d h.2)]
 . rw [ZaC b2,if_neg (show ¬(u.c.backend=2/\u.c.depth>0) from fun h=>b2 h.1)]
   simp only [cond_false]
   by_cases b3:u.c.backend=3
   . rw [ZaT b3]
     simp only [cond_true]
     by_cases d:u.c.layers>0
     . rw [if_pos d,if_pos (show u.c.backend=3/\u.c.layers>0 from ⟨b3,d⟩)]
     . rw [if_neg d,if_neg (show ¬(u.c.backend=3/\u.c.layers>0) from fun h=>d h.2)]
   . rw [ZaC b3,if_neg (show ¬(u.c.backend=3/\u.c.layers>0) from fun h=>b3 h.1)]
     rfl
def Zcj (u:Turn):Turn×Bool:=if u.th.phase=1 then (ZeF (setW u (ZaY u.c u.t) 0),true) else (u,false)
theorem Zu0 {u:Turn} (h:FitG u):Zjp u=some (Zcj u):=by
 have hl:=ZlQ h h.t.1 h.t.2
 unfold Zjp Zcj
 by_cases p:u.th.phase=1
 . rw [ZdP p,if_pos p]
   simp only [cond_false,Zc9,ZlL h.cfg,Zck,ZdX hl.1 hl.2.1 h.wl,bne_self_eq_false,Zgf,Zvl]
 . rw [Zdj p,if_neg p]
   rfl
theorem ZqT {u:Turn} (hp:u.th.phase≠17/\u.th.phase≠18/\u.th.phase≠19/\u.th.phase≠20/\u.th.phase≠21/\u.th.phase≠22/\u.th.phase≠23/\u.th.phase≠24/\u.th.phase≠26):Zei u=some (u,false)/\Zbs u=(u,false):=by
 obtain ⟨p1,p2,p3,p4,p5,p6,p7,p8,p9⟩:=hp
 constructor
 . simp only [Zei,Zkn,Zko,Zb0,Zdo,ZaC p1,ZaC p2,ZaC p3,ZaC p4,ZaC p5,ZaC p6,ZaC p7,ZaC p8,ZaC p9,cond_false]
 . simp only [Zbs,if_neg p1,if_neg p2,if_neg p3,if_neg p4,if_neg p5,if_neg p6,if_neg p7,if_neg p8,if_neg p9]
theorem FitM.fit {u:Turn} (h:FitM u):Fit u:=⟨h.g.cfg,h.g.t,h.g.words,h.g.nums,h.held⟩
theorem ZxH {u:Turn} (h:FitM u):Zei u=some (Zbs u):=by
 by_cases p:17<=u.th.phase
 . exact Zvx ⟨h.g,h.item,h.layer p,h.tape,h.draws,h.width⟩
 . obtain ⟨h1,h2⟩:=ZqT (u:=u) (by omega)
   rw [h1,h2]
def begT (u:Turn):Turn:={ u with log:=[],done:=false }
theorem FitM.beg {u:Turn} (h:FitM u):FitM (begT u):=⟨⟨h.g.cfg,h.g.t,h.g.words,h.g.boxes,h.g.nums,h.g.batch,h.g.kids,h.g.box⟩,h.held,h.item,h.layer,h.tape,h.draws,h.width,h.lo,h.hi,h.x,h.ops⟩
def ZaG (u:Turn):Turn := if u.th.phase=0 then u else if (Zcj (begT u)).2=true then (Zcj (begT u)).1 else if (Zb1 (begT u)).2=true then (Zb1 (begT u)).1 else if (ZbF (begT u)).2=true then (ZbF (begT u)).1 else if (Zcp (begT u)).2=true then (Zcp (begT u)).1 else if (Zca (begT u)).2=true then (Zca (begT u)).1 else if (Zbs (begT u)).2=true then (Zbs (begT u)).1 else begT u
theorem Zws {u:Turn} (h:FitM u):ZjZ u=some (ZaG u):=by
 have hb:=h.beg
 unfold ZjZ ZaG
 simp only [ZbE,ZeP]
 by_cases p:u.th.phase=0
 . rw [ZdP p,if_pos p];rfl
 rw [Zdj p,if_neg p]
 have e1:Zja { u with log:=([]:List Mark),done:=false }=some (Zcj (begT u)):=Zu0 hb.g
 have e2:Zmo { u with log:=([]:List Mark),done:=false }=some (Zb1 (begT u)):=Zy7 hb
 have e3:Zlv { u with log:=([]:List Mark),done:=false }=some (ZbF (begT u)):=Zxd hb rfl
 have e4:Zmx { u with log:=([]:List Mark),done:=false }=some (Zcp (begT u)):=Zyp hb.fit
 have e5:ZkY { u with log:=([]:List Mark),done:=false }=some (Zca (begT u)):=Zxp hb.g
 have e6:Zjx { u with log:=([]:List Mark),done:=false }=some (Zbs (begT u)):=ZxH hb
 simp only [Bool.not_true,cond_false,e1,e2,e3,e4,e5,e6]
 cases h1:(Zcj (begT u)).2 with
 | true=>rfl
 | false =>
 cases h2:(Zb1 (begT u)).2 with
 | true=>rfl
 | false =>
 cases h3:(ZbF (begT u)).2 with
 | true=>rfl
 | false =>
 cases h4:(Zcp (begT u)).2 with
 | true=>rfl
 | false =>
 cases h5:(Zca (begT u)).2 with
 | true=>rfl
 | false =>
 cases h6:(Zbs (begT u)).2 with
 | true=>rfl
 | false=>rfl
end Go.Proofs.Mill
namespace Go.Proofs.Mill
def seta {α:Type} (f:Int->α) (j:Int) (a:α):Int->α:=fun k=>if k=j then a else f k
theorem Zal {α:Type} {f:Int->α} {j:Int} {a:α}:seta f j a j=a:=if_pos rfl
theorem Zah {α:Type} {f:Int->α} {j k:Int} {a:α} (h:k≠j):seta f j a k=f k:=if_neg h
theorem Zdb {α:Type} {f:Int->α} {j:Int}:seta f j (f j)=f:=by
 funext k
 unfold seta
 split
 . rename_i h;rw [h]
 . rfl
def InT (c:Config) (j:Int):Prop:=0<=j/\j<c.threads
def idxOf (b:List Entry) (j:Int):Nat:=(b.map (·.t)).findIdx (fun t=>t == j)
def Seg (a b:List Entry) (off:Nat):Prop:=a=(b.drop off).take a.length
theorem Seg.refl (a:List Entry):Seg a a 0:=by unfold Seg;simp
theorem Seg.left {a b d:List Entry} {off:Nat} (h:Seg a b off):Seg a (b++d) off:=by
 unfold Seg at h ⊢
 by_cases ho:off<=b.length
 . rw [List.drop_append_of_le_length ho,List.take_append_of_le_length]
   . exact h
   . have:=congrArg List.length h
     rw [List.length_take] at this
     omega
 . rw [List.drop_of_length_le (by omega),List.take_nil] at h
   subst h
   simp
theorem Seg.right {a b d:List Entry} {off:Nat} (h:Seg a b off):Seg a (d++b) (d.length+off):=by
 unfold Seg at h ⊢
 rw [List.drop_append,List.drop_of_length_le (by omega),List.nil_append,show d.length+off-d.length=off by omega]
 exact h
theorem Seg.trans {a b d:List Entry} {o1 o2:Nat} (h1:Seg a b o1) (h2:Seg b d o2):Seg a d (o2+o1):=by
 unfold Seg at h1 h2 ⊢
 have e:(b.drop o1).take a.length=(((d.drop o2).take b.length).drop o1).take a.length:=congrArg (fun x=>(List.drop o1 x).take a.length) h2
 rw [e,List.drop_take,List.drop_drop,List.take_take] at h1
 have hl:a.length=((d.drop (o2+o1)).take (min a.length (b.length-o1))).length:=congrArg List.length h1
 rw [List.length_take] at hl
 have hm:min a.length (b.length-o1)=a.length:=by omega
 rw [hm] at h1
 exact h1
theorem Seg.mem {a b:List Entry} {off:Nat} (h:Seg a b off) {e:Entry} (he:e∈a):e∈b:=by
 unfold Seg at h
 rw [h] at he
 exact List.mem_of_mem_drop (List.mem_of_mem_take he)
theorem Zwg {e:Entry} {r:List Entry}:idxOf (e::r) e.t=0:=by simp [idxOf,List.findIdx_cons]
theorem ZFh {b:List Entry} {e:Entry} (h:e∈b):idxOf b e.t<b.length:=by
 have:idxOf b e.t<(b.map (·.t)).length:=List.findIdx_lt_length_of_exists ⟨e.t,List.mem_map_of_mem h,by simp⟩
 rwa [List.length_map] at this
theorem ZED {b:List Entry} (hn:(b.map (·.t)).Nodup) {i:Nat} (hi:i<b.length):idxOf b (b[i]).t=i:=by
 unfold idxOf
 have hi':i<(b.map (·.t)).length:=by rwa [List.length_map]
 have hex:(b.map (·.t)).findIdx (fun t=>t == (b[i]).t)<(b.map (·.t)).length:=List.findIdx_lt_length_of_exists ⟨(b[i]).t,List.mem_map_of_mem (List.getElem_mem hi),by simp⟩
 have h1:=List.findIdx_getElem (w:=hex)
 have h2:(b.map (·.t))[(b.map (·.t)).findIdx (fun t=>t == (b[i]).t)]=(b.map (·.t))[i]:=by
   rw [eq_of_beq h1,List.getElem_map]
 rcases Nat.lt_trichotomy ((b.map (·.t)).findIdx (fun t=>t == (b[i]).t)) i with hlt | heq | hgt
 . exact (List.pairwise_iff_getElem.1 hn _ _ hex hi' hlt h2).elim
 . exact heq
 . exact (List.pairwise_iff_getElem.1 hn _ _ hi' hex hgt h2.symm).elim
theorem ZxU {a b:List Entry} {off:Nat} (h:Seg a b off) (hn:(b.map (·.t)).Nodup) {e:Entry} {r:List Entry} (ha:a=e::r):idxOf b e.t=off:=by
 unfold Seg at h
 have hl:0<((b.drop off).take a.length).length:=by rw [<- h,ha];simp
 have ho:off<b.length:=by
   rw [List.length_take,List.length_drop] at hl
   omega
 have:b[off]=e:=by
   have h1:((b.drop off).take a.length)[0]'hl=e:=by
     have:a[0]'(by rw [ha];simp)=e:=by simp [ha]
     rw [<- this]
     congr 1
     exact h.symm
   rw [List.getElem_take,List.getElem_drop] at h1
   simpa using h1
 rw [<- this]
 exact ZED hn ho
theorem ZrQ (lo hi:Int):∀ (a b:List Entry) (x:Int),allT lo hi (a++b) x=allT lo hi b (allT lo hi a x)
 | [],_,_=>rfl
 | e :: a, b, x => by
   show allT lo hi (a++b) _=allT lo hi b (allT lo hi a _)
   exact ZrQ lo hi a b _
structure Core (c:Config) (ba:Int->List Entry) (ks:Int->List Kid) (op:Int->Op) (it ro pa rt:Int->Int) (co:Int->Option Int):Prop where
  out:∀ j,ro j≠0->InT c j
  k0:∀ j,ro j=0->co j=none/\ks j=[]
  k1:∀ j,1<=ro j/\ro j<=4->co j=none/\rt j=j
  k2:∀ j,ro j=6\/ro j=7->co j≠none
  rng:∀ j,0<=ro j/\ro j<=7
  k3:∀ j,ro j≠0->∃ r,ba j=⟨j,op j⟩::r
  nod:∀ j,ro j≠0->((ba j).map (·.t)).Nodup
  ent:∀ j,ro j≠0->∀ e∈ba j,InT c e.t
  k4:∀ j,ro j≠0->co j=none->∀ e∈ba j,ro e.t≠0/\op e.t=e.op/\it e.t=it j/\co e.t=none/\rt e.t=rt j
  k5:∀ j,ro j≠0->co j=none->1<=ro (rt j)/\ro (rt j)<=4/\∃ off,Seg (ba j) (ba (rt j)) off
  k6:∀ j,ro j=5->∃ a,(⟨j,a⟩:Kid)∈ks (pa j)
  k7:∀ p,∀ k∈ks p,ro k.t=5/\pa k.t=p/\Seg (ba k.t) (ba p) k.ahead.toNat/\(co p=none->co k.t=none/\rt k.t=rt p)/\(∀ x,co p=some x->co k.t=some (allT c.lo c.hi ((ba p).take k.ahead.toNat) x))
  k8:∀ p,((ks p).map (·.t)).Nodup
section
variable {c:Config} {ba:Int->List Entry} {ks:Int->List Kid} {op:Int->Op} {it ro pa rt:Int->Int} {co:Int->Option Int}
theorem Core.kids_busy (h:Core c ba ks op it ro pa rt co) {p:Int} {k:Kid} (hk:k∈ks p):ro p≠0:=by
 intro h0
 rw [(h.k0 p h0).2] at hk
 cases hk
theorem Core.roles (h:Core c ba ks op it ro pa rt co) {ro' pa':Int->Int} (hr:∀ j,ro' j=ro j\/((1<=ro j/\ro j<=4)/\1<=ro' j/\ro' j<=4)) (hp:∀ j,ro j=5->pa' j=pa j):Core c ba ks op it ro' pa' rt co:=by
 have hz:∀ j,ro' j≠0↔ro j≠0:=fun j=>by have:=hr j;omega
 have h5:∀ j,ro' j=5↔ro j=5:=fun j=>by have:=hr j;omega
 have h14:∀ j,(1<=ro' j/\ro' j<=4)↔(1<=ro j/\ro j<=4):=fun j=>by have:=hr j;omega
 refine ⟨fun j hj=>h.out j ((hz j).1 hj),fun j hj=>h.k0 j (by have:=hz j;omega),fun j hj=>h.k1 j ((h14 j).1 hj),fun j hj=>h.k2 j (by have:=hr j;omega),fun j=>by have:=hr j;have:=h.rng j;omega,
   fun j hj=>h.k3 j ((hz j).1 hj),fun j hj=>h.nod j ((hz j).1 hj),fun j hj=>h.ent j ((hz j).1 hj),fun j hj hc e he=>?_,fun j hj hc=>?_,fun j hj=>?_,fun p k hk=>?_,h.k8⟩
 . obtain ⟨a,b⟩:=h.k4 j ((hz j).1 hj) hc e he
   exact ⟨(hz _).2 a,b⟩
 . obtain ⟨a,b,d⟩:=h.k5 j ((hz j).1 hj) hc
   have:=(h14 (rt j)).2 ⟨a,b⟩
   exact ⟨this.1,this.2,d⟩
 . obtain ⟨a,ha⟩:=h.k6 j ((h5 j).1 hj)
   rw [hp j ((h5 j).1 hj)]
   exact ⟨a,ha⟩
 . obtain ⟨a,b,d⟩:=h.k7 p k hk
   exact ⟨(h5 _).2 a,by rw [hp _ a];exact b,d⟩
theorem Core.take (h:Core c ba ks op it ro pa rt co) {p q:Int} (hp:ro p=1) (hq:ro q=2\/ro q=4) (hi:it p=it q) :
   Core c (seta ba p (ba p++ba q)) (seta ks p (ks p++[⟨q,(ba p).length⟩])) op it (seta ro q 5) (seta pa q p) (fun j=>if ro j≠0/\co j=none/\rt j=q then p else rt j) co:=by
 have hpq:p≠q:=by intro e;subst e;omega
 obtain ⟨cp,rp⟩:=h.k1 p (by omega)
 obtain ⟨cq,rq⟩:=h.k1 q (by omega)
 have hz:∀ j,seta ro q 5 j≠0↔ro j≠0:=fun j=>by
   by_cases e:j=q
   . subst e;rw [Zal];omega
   . rw [Zah e]
 have hbne:∀ j,j≠p->seta ba p (ba p++ba q) j=ba j:=fun j hj=>Zah hj
 have hseg:∀ {a:List Entry} {r:Int} {o:Nat},Seg a (ba r) o->Seg a (seta ba p (ba p++ba q) r) o:=by
   intro a r o hs
   by_cases e:r=p
   . subst e;rw [Zal];exact hs.left
   . rw [Zah e];exact hs
 have hsp:∀ {j:Int},j≠p->seta ba p (ba p++ba q) j=ba j:=fun e=>Zah e
 refine ⟨fun j hj=>h.out j ((hz j).1 hj),fun j hj=>?_,fun j hj=>?_,fun j hj=>?_,fun j=>?_,fun j hj=>?_,fun j hj=>?_,fun j hj e he=>?_,fun j hj hc e he=>?_,fun j hj hc=>?_,fun j hj=>?_,fun s k hk=>?_,fun s=>?_⟩
 . have h0:ro j=0:=by have:=hz j;omega
   have hj2:j≠p:=by intro e;subst e;omega
   rw [Zah hj2]
   exact h.k0 j h0
 . have e:j≠q:=by intro e;subst e;rw [Zal] at hj;omega
   rw [Zah e] at hj
   obtain ⟨a,b⟩:=h.k1 j hj
   refine ⟨a,?_⟩
   rw [if_neg (fun x=>e (by rw [b] at x;exact x.2.2))]
   exact b
 . have e:j≠q:=by intro e;subst e;rw [Zal] at hj;omega
   rw [Zah e] at hj
   exact h.k2 j hj
 . by_cases e:j=q
   . subst e;rw [Zal];omega
   . rw [Zah e];exact h.rng j
 . obtain ⟨r,hr⟩:=h.k3 j ((hz j).1 hj)
   by_cases e:j=p
   . subst e;rw [Zal,hr];exact ⟨r++ba q,rfl⟩
   . rw [Zah e];exact ⟨r,hr⟩
 . by_cases e:j=p
   . subst e
     rw [Zal,List.map_append,List.nodup_append]
     refine ⟨h.nod j (by omega),h.nod q (by omega),?_⟩
     intro x hx y hy hxy
     subst hxy
     obtain ⟨e1,he1,rfl⟩:=List.mem_map.1 hx
     obtain ⟨e2,he2,he3⟩:=List.mem_map.1 hy
     have k1:=(h.k4 j (by omega) cp e1 he1).2.2.2.2
     have k2:=(h.k4 q (by omega) cq e2 he2).2.2.2.2
     rw [he3] at k2
     rw [k1,rp,rq] at k2
     exact hpq k2
   . rw [Zah e];exact h.nod j ((hz j).1 hj)
 . by_cases e1:j=p
   . subst e1
     rw [Zal] at he
     rcases List.mem_append.1 he with he | he
     . exact h.ent j (by omega) e he
     . exact h.ent q (by omega) e he
   . rw [Zah e1] at he
     exact h.ent j ((hz j).1 hj) e he
 . by_cases e1:j=p
   . subst e1
     rw [Zal] at he
     have hj1:(if ro j≠0/\co j=none/\rt j=q then j else rt j)=j:=by
       split
       . rfl
       . exact rp
     rw [hj1]
     rcases List.mem_append.1 he with he | he
     . obtain ⟨a,b,d,f,g⟩:=h.k4 j (by omega) cp e he
       refine ⟨(hz _).2 a,b,d,f,?_⟩
       rw [if_neg (fun x=>hpq (by rw [<- rp,<- g];exact x.2.2)),g,rp]
     . obtain ⟨a,b,d,f,g⟩:=h.k4 q (by omega) cq e he
       refine ⟨(hz _).2 a,b,by rw [d,hi],f,?_⟩
       rw [if_pos ⟨a,f,by rw [g,rq]⟩]
   . rw [Zah e1] at he
     obtain ⟨a,b,d,f,g⟩:=h.k4 j ((hz j).1 hj) hc e he
     refine ⟨(hz _).2 a,b,d,f,?_⟩
     rw [g]
     by_cases x:rt j=q
     . rw [if_pos ⟨a,f,x⟩,if_pos ⟨(hz j).1 hj,hc,x⟩]
     . rw [if_neg (fun y=>x y.2.2),if_neg (fun y=>x y.2.2)]
 . have hj':=(hz j).1 hj
   obtain ⟨a,b,o,hs⟩:=h.k5 j hj' hc
   by_cases x:rt j=q
   . rw [if_pos ⟨hj',hc,x⟩]
     rw [Zah hpq,hp]
     refine ⟨by omega,by omega,(ba p).length+o,?_⟩
     rw [Zal]
     have e1:j≠p:=by intro e1;subst e1;rw [rp] at x;exact hpq x
     rw [Zah e1]
     rw [x] at hs
     exact hs.right
   . rw [if_neg (fun y=>x y.2.2),Zah x]
     refine ⟨a,b,?_⟩
     by_cases e1:j=p
     . subst e1;rw [rp];exact ⟨0,Seg.refl _⟩
     . rw [Zah e1];exact ⟨o,hseg hs⟩
 . by_cases e:j=q
   . subst e
     rw [Zal,Zal]
     exact ⟨_,List.mem_append_right _ (List.mem_singleton.2 rfl)⟩
   . rw [Zah e] at hj ⊢
     obtain ⟨a,ha⟩:=h.k6 j hj
     refine ⟨a,?_⟩
     by_cases e2:pa j=p
     . rw [e2,Zal,<- e2];exact List.mem_append_left _ ha
     . rw [Zah e2];exact ha
 . have old:k∈ks s->_:=fun hk=>h.k7 s k hk
   have hkq:∀ {s:Int} {k:Kid},k∈ks s->k.t≠q:=by
     intro s k hk e
     have:=(h.k7 s k hk).1
     rw [e] at this
     omega
   have hkp:∀ {s:Int} {k:Kid},k∈ks s->k.t≠p:=by
     intro s k hk e
     have:=(h.k7 s k hk).1
     rw [e] at this
     omega
   by_cases e:s=p
   . subst e
     rw [Zal] at hk
     rcases List.mem_append.1 hk with hk | hk
     . obtain ⟨a,b,d,f,g⟩:=h.k7 s k hk
       rw [Zah (hkq hk),Zah (hkq hk),Zah (hkp hk),Zal]
       refine ⟨a,b,d.left,fun hc=>?_,fun x hx=>by rw [cp] at hx;cases hx⟩
       obtain ⟨f1,f2⟩:=f hc
       refine ⟨f1,?_⟩
       rw [f2,rp]
       rw [if_neg (fun y=>hpq y.2.2),if_neg (fun y=>hpq y.2.2)]
     . rw [List.mem_singleton] at hk
       subst hk
       show seta ro q 5 q=5/\seta pa q s q=s/\Seg (seta ba s (ba s++ba q) q) (seta ba s (ba s++ba q) s) ((ba s).length:Int).toNat/\_/\_
       rw [Zal,Zal,Zal,Zah (fun x=>hpq x.symm),Int.toNat_natCast]
       refine ⟨rfl,rfl,by simpa using (Seg.refl (ba q)).right (d:=ba s),fun _=>⟨cq,?_⟩,fun x hx=>by rw [cp] at hx;cases hx⟩
       rw [if_pos (show ro q≠0/\co q=none/\rt q=q from ⟨by omega,cq,rq⟩),if_neg (fun y=>hpq (by rw [rp] at y;exact y.2.2)),rp]
   . rw [Zah e] at hk
     obtain ⟨a,b,d,f,g⟩:=h.k7 s k hk
     rw [Zah (hkq hk),Zah (hkq hk),Zah (hkp hk),Zah e]
     refine ⟨a,b,d,fun hc=>?_,g⟩
     obtain ⟨f1,f2⟩:=f hc
     refine ⟨f1,?_⟩
     have hs0:=h.kids_busy hk
     rw [f2]
     by_cases x:rt s=q
     . rw [if_pos ⟨by omega,f1,x⟩,if_pos ⟨hs0,hc,x⟩]
     . rw [if_neg (fun y=>x y.2.2),if_neg (fun y=>x y.2.2)]
 . by_cases e:s=p
   . subst e
     rw [Zal,List.map_append,List.nodup_append]
     refine ⟨h.k8 s,by simp,?_⟩
     intro x hx y hy hxy
     subst hxy
     simp only [List.map_cons,List.map_nil,List.mem_singleton] at hy
     obtain ⟨k,hk,rfl⟩:=List.mem_map.1 hx
     have:=(h.k7 s k hk).1
     rw [hy] at this
     omega
   . rw [Zah e];exact h.k8 s
def ZnT (c:Config) (ba:Int->List Entry) (ro rt:Int->Int) (co:Int->Option Int) (r x:Int):Int->Option Int :=
 fun j=>if ro j≠0/\co j=none/\rt j=r then some (allT c.lo c.hi ((ba r).take (idxOf (ba r) j)) x) else co j
theorem Core.commit (h:Core c ba ks op it ro pa rt co) {r x:Int} (hr:ro r=1) :
   Core c ba ks op it (seta ro r 7) pa rt (ZnT c ba ro rt co r x):=by
 obtain ⟨cr,rr⟩:=h.k1 r (by omega)
 have hz:∀ j,seta ro r 7 j≠0↔ro j≠0:=fun j=>by
   by_cases e:j=r
   . subst e;rw [Zal];omega
   . rw [Zah e]
 have hin:∀ {j},ro j≠0->co j=none->rt j=r->ZnT c ba ro rt co r x j=some (allT c.lo c.hi ((ba r).take (idxOf (ba r) j)) x):=fun a b d=>if_pos ⟨a,b,d⟩
 have hout:∀ {j},¬(ro j≠0/\co j=none/\rt j=r)->ZnT c ba ro rt co r x j=co j:=fun a=>if_neg a
 have hnone:∀ {j},ZnT c ba ro rt co r x j=none->co j=none/\(ro j≠0->rt j≠r):=by
   intro j hj
   by_cases y:ro j≠0/\co j=none/\rt j=r
   . rw [hin y.1 y.2.1 y.2.2] at hj;cases hj
   . rw [hout y] at hj
     exact ⟨hj,fun a b=>y ⟨a,hj,b⟩⟩
 refine ⟨fun j hj=>h.out j ((hz j).1 hj),fun j hj=>?_,fun j hj=>?_,fun j hj=>?_,fun j=>?_,fun j hj=>h.k3 j ((hz j).1 hj),fun j hj=>h.nod j ((hz j).1 hj),fun j hj=>h.ent j ((hz j).1 hj),fun j hj hc e he=>?_,fun j hj hc=>?_,fun j hj=>?_,fun p k hk=>?_,h.k8⟩
 . have h0:ro j=0:=by have:=hz j;omega
   rw [hout (fun y=>y.1 h0)]
   exact h.k0 j h0
 . have e:j≠r:=by intro e;subst e;rw [Zal] at hj;omega
   rw [Zah e] at hj
   obtain ⟨a,b⟩:=h.k1 j hj
   rw [hout (fun y=>e (by rw [b] at y;exact y.2.2))]
   exact ⟨a,b⟩
 . by_cases e:j=r
   . subst e
     rw [hin (by omega) cr rr]
     simp
   . rw [Zah e] at hj
     intro hn
     exact h.k2 j hj (hnone hn).1
 . by_cases e:j=r
   . subst e;rw [Zal];omega
   . rw [Zah e];exact h.rng j
 . obtain ⟨hc1,hc2⟩:=hnone hc
   have hj':=(hz j).1 hj
   obtain ⟨a,b,d,f,g⟩:=h.k4 j hj' hc1 e he
   refine ⟨(hz _).2 a,b,d,?_,g⟩
   rw [hout (fun y=>hc2 hj' (by rw [<- g];exact y.2.2))]
   exact f
 . obtain ⟨hc1,hc2⟩:=hnone hc
   have hj':=(hz j).1 hj
   obtain ⟨a,b,o⟩:=h.k5 j hj' hc1
   rw [Zah (hc2 hj')]
   exact ⟨a,b,o⟩
 . have e:j≠r:=by intro e;subst e;rw [Zal] at hj;omega
   rw [Zah e] at hj
   exact h.k6 j hj
 . obtain ⟨a,b,d,f,g⟩:=h.k7 p k hk
   have ekr:k.t≠r:=by intro e;rw [e] at a;omega
   rw [Zah ekr]
   have hp0:=h.kids_busy hk
   refine ⟨a,b,d,fun hc=>?_,fun y hy=>?_⟩
   . obtain ⟨hc1,hc2⟩:=hnone hc
     obtain ⟨f1,f2⟩:=f hc1
     refine ⟨?_,f2⟩
     rw [hout (fun y=>hc2 hp0 (by rw [<- f2];exact y.2.2))]
     exact f1
   . by_cases z:ro p≠0/\co p=none/\rt p=r
     . rw [hin z.1 z.2.1 z.2.2] at hy
       obtain ⟨f1,f2⟩:=f z.2.1
       rw [hin (by omega) f1 (by rw [f2];exact z.2.2)]
       have hy:=Option.some.inj hy
       obtain ⟨_,_,o,hs⟩:=h.k5 p z.1 z.2.1
       rw [z.2.2] at hs
       obtain ⟨r1,hr1⟩:=h.k3 p z.1
       obtain ⟨r2,hr2⟩:=h.k3 k.t (by omega)
       have hn:=h.nod r (by omega)
       have i1:idxOf (ba r) p=o:=ZxU hs hn hr1
       have i2:idxOf (ba r) k.t=o+k.ahead.toNat:=ZxU (d.trans hs) hn hr2
       rw [i2,List.take_add,ZrQ,<- i1,hy]
       congr 1
       congr 1
       have hlen:k.ahead.toNat<=(ba p).length:=by
         unfold Seg at d
         have:=congrArg List.length d
         rw [hr2,List.length_take,List.length_drop] at this
         simp at this
         omega
       have hs':=hs
       unfold Seg at hs'
       rw [hs',List.take_take,Nat.min_eq_left hlen,i1]
     . rw [hout z] at hy
       have:=g y hy
       rw [hout (fun w=>by rw [this] at w;cases w.2.1)]
       exact this
theorem Core.done (h:Core c ba ks op it ro pa rt co) {t:Int} (ht:ro t=7) (hk:ks t=[]):Core c ba ks op it (seta ro t 0) pa rt (seta co t none):=by
 have hct:co t≠none:=h.k2 t (.inr ht)
 have hz:∀ j,j≠t->(seta ro t 0 j=ro j/\seta co t none j=co j):=fun j hj=>⟨Zah hj,Zah hj⟩
 have hne:∀ {j},seta ro t 0 j≠0->j≠t/\ro j≠0:=fun {j} hj=>by
   have e:j≠t:=by intro e;subst e;rw [Zal] at hj;exact hj rfl
   rw [Zah e] at hj
   exact ⟨e,hj⟩
 refine ⟨fun j hj=>h.out j (hne hj).2,fun j hj=>?_,fun j hj=>?_,fun j hj=>?_,fun j=>?_,fun j hj=>h.k3 j (hne hj).2,fun j hj=>h.nod j (hne hj).2,fun j hj=>h.ent j (hne hj).2,fun j hj hc e he=>?_,fun j hj hc=>?_,fun j hj=>?_,fun p k hkp=>?_,h.k8⟩
 . by_cases e:j=t
   . subst e;exact ⟨Zal,hk⟩
   . rw [Zah e] at hj ⊢
     exact h.k0 j hj
 . obtain ⟨e,_⟩:=hne (j:=j) (by omega)
   rw [Zah e] at hj ⊢
   exact h.k1 j hj
 . obtain ⟨e,_⟩:=hne (j:=j) (by omega)
   rw [Zah e] at hj ⊢
   exact h.k2 j hj
 . by_cases e:j=t
   . subst e;rw [Zal];omega
   . rw [Zah e];exact h.rng j
 . obtain ⟨e1,h1⟩:=hne hj
   rw [Zah e1] at hc
   obtain ⟨a,b,d,f,g⟩:=h.k4 j h1 hc e he
   have e2:e.t≠t:=by intro e2;rw [e2] at f;exact hct f
   rw [Zah e2,Zah e2]
   exact ⟨a,b,d,f,g⟩
 . obtain ⟨e1,h1⟩:=hne hj
   rw [Zah e1] at hc
   obtain ⟨a,b,o⟩:=h.k5 j h1 hc
   have e2:rt j≠t:=by intro e2;rw [e2] at a b;omega
   rw [Zah e2]
   exact ⟨a,b,o⟩
 . obtain ⟨e,_⟩:=hne (j:=j) (by omega)
   rw [Zah e] at hj
   exact h.k6 j hj
 . obtain ⟨a,b,d,f,g⟩:=h.k7 p k hkp
   have e2:k.t≠t:=by intro e2;rw [e2] at a;omega
   have e3:p≠t:=by intro e3;rw [e3,hk] at hkp;cases hkp
   rw [Zah e2,Zah e2,Zah e3]
   exact ⟨a,b,d,f,g⟩
theorem Core.tell (h:Core c ba ks op it ro pa rt co) {p:Int} {k:Kid} {rest:List Kid} (hp:ro p=7) (hk:ks p=k::rest):Core c ba (seta ks p rest) op it (seta ro k.t 6) pa rt co:=by
 have hkm:k∈ks p:=by rw [hk];exact List.mem_cons_self ..
 obtain ⟨k5,kpa,kseg,kc1,kc2⟩:=h.k7 p k hkm
 have hcp:co p≠none:=h.k2 p (.inr hp)
 have hck:co k.t≠none:=by
   cases hc:co p with
   | none=>exact (hcp hc).elim
   | some x=>rw [kc2 x hc];simp
 have hnod:=h.k8 p
 rw [hk,List.map_cons,List.nodup_cons] at hnod
 have hz:∀ j,seta ro k.t 6 j≠0↔ro j≠0:=fun j=>by
   by_cases e:j=k.t
   . subst e;rw [Zal];omega
   . rw [Zah e]
 have hsub:∀ {s:Int} {k':Kid},k'∈seta ks p rest s->k'∈ks s/\k'.t≠k.t:=by
   intro s k' hk'
   by_cases e:s=p
   . subst e
     rw [Zal] at hk'
     refine ⟨by rw [hk];exact List.mem_cons_of_mem _ hk',?_⟩
     intro e2
     exact hnod.1 (by rw [<- e2];exact List.mem_map_of_mem hk')
   . rw [Zah e] at hk'
     refine ⟨hk',?_⟩
     intro e2
     have:=(h.k7 s k' hk').2.1
     rw [e2,kpa] at this
     exact e this.symm
 refine ⟨fun j hj=>h.out j ((hz j).1 hj),fun j hj=>?_,fun j hj=>?_,fun j hj=>?_,fun j=>?_,fun j hj=>h.k3 j ((hz j).1 hj),fun j hj=>h.nod j ((hz j).1 hj),fun j hj=>h.ent j ((hz j).1 hj),fun j hj hc e he=>?_,fun j hj hc=>?_,fun j hj=>?_,fun s k' hks=>?_,fun s=>?_⟩
 . have h0:ro j=0:=by have:=hz j;omega
   have e:j≠p:=by intro e;subst e;omega
   rw [Zah e]
   exact h.k0 j h0
 . have e:j≠k.t:=by intro e;subst e;rw [Zal] at hj;omega
   rw [Zah e] at hj
   exact h.k1 j hj
 . by_cases e:j=k.t
   . subst e;exact hck
   . rw [Zah e] at hj;exact h.k2 j hj
 . by_cases e:j=k.t
   . subst e;rw [Zal];omega
   . rw [Zah e];exact h.rng j
 . obtain ⟨a,b⟩:=h.k4 j ((hz j).1 hj) hc e he
   exact ⟨(hz _).2 a,b⟩
 . obtain ⟨a,b,o⟩:=h.k5 j ((hz j).1 hj) hc
   have e:rt j≠k.t:=by intro e;rw [e] at a b;omega
   rw [Zah e]
   exact ⟨a,b,o⟩
 . have e:j≠k.t:=by intro e;subst e;rw [Zal] at hj;omega
   rw [Zah e] at hj
   obtain ⟨a,ha⟩:=h.k6 j hj
   refine ⟨a,?_⟩
   by_cases e2:pa j=p
   . rw [e2,Zal]
     rw [e2,hk] at ha
     rcases List.mem_cons.1 ha with h1 | h1
     . exact (e (by rw [<- h1])).elim
     . exact h1
   . rw [Zah e2];exact ha
 . obtain ⟨h1,h2⟩:=hsub hks
   rw [Zah h2]
   exact h.k7 s k' h1
 . by_cases e:s=p
   . subst e;rw [Zal];exact hnod.2
   . rw [Zah e];exact h.k8 s
theorem Core.told (h:Core c ba ks op it ro pa rt co) {t:Int} (ht:ro t=6):Core c ba ks op it (seta ro t 7) pa rt co:=by
 have hct:co t≠none:=h.k2 t (.inl ht)
 have hz:∀ j,seta ro t 7 j≠0↔ro j≠0:=fun j=>by
   by_cases e:j=t
   . subst e;rw [Zal];omega
   . rw [Zah e]
 refine ⟨fun j hj=>h.out j ((hz j).1 hj),fun j hj=>?_,fun j hj=>?_,fun j hj=>?_,fun j=>?_,fun j hj=>h.k3 j ((hz j).1 hj),fun j hj=>h.nod j ((hz j).1 hj),fun j hj=>h.ent j ((hz j).1 hj),fun j hj hc e he=>?_,fun j hj hc=>?_,fun j hj=>?_,fun s k' hks=>?_,h.k8⟩
 . exact h.k0 j (by have:=hz j;omega)
 . have e:j≠t:=by intro e;subst e;rw [Zal] at hj;omega
   rw [Zah e] at hj
   exact h.k1 j hj
 . by_cases e:j=t
   . subst e;exact hct
   . rw [Zah e] at hj;exact h.k2 j hj
 . by_cases e:j=t
   . subst e;rw [Zal];omega
   . rw [Zah e];exact h.rng j
 . obtain ⟨a,b⟩:=h.k4 j ((hz j).1 hj) hc e he
   exact ⟨(hz _).2 a,b⟩
 . obtain ⟨a,b,o⟩:=h.k5 j ((hz j).1 hj) hc
   have e:rt j≠t:=by intro e;rw [e] at a b;omega
   rw [Zah e]
   exact ⟨a,b,o⟩
 . have e:j≠t:=by intro e;subst e;rw [Zal] at hj;omega
   rw [Zah e] at hj
   exact h.k6 j hj
 . obtain ⟨a,b⟩:=h.k7 s k' hks
   have e:k'.t≠t:=by intro e;rw [e] at a;omega
   rw [Zah e]
   exact ⟨a,b⟩
theorem Core.invoke (h:Core c ba ks op it ro pa rt co) {t i:Int} {o:Op} (ht:ro t=0) (hin:InT c t) :
   Core c (seta ba t [⟨t,o⟩]) ks (seta op t o) (seta it t i) (seta ro t 1) pa (seta rt t t) co:=by
 obtain ⟨ct,kt⟩:=h.k0 t ht
 have hb:∀ {j},seta ro t 1 j≠0->j≠t->ro j≠0:=fun {j} hj e=>by rwa [Zah e] at hj
 have ntr:∀ {j},ro j≠0->co j=none->rt j≠t:=fun {j} hj hc e=>by
   have:=(h.k5 j hj hc).1
   rw [e] at this
   omega
 refine ⟨fun j hj=>?_,fun j hj=>?_,fun j hj=>?_,fun j hj=>?_,fun j=>?_,fun j hj=>?_,fun j hj=>?_,fun j hj e he=>?_,fun j hj hc e he=>?_,fun j hj hc=>?_,fun j hj=>?_,fun s k hk=>?_,h.k8⟩
 . by_cases e:j=t
   . subst e;exact hin
   . exact h.out j (hb hj e)
 . have e:j≠t:=by intro e;subst e;rw [Zal] at hj;omega
   rw [Zah e] at hj
   exact h.k0 j hj
 . by_cases e:j=t
   . subst e;rw [Zal];exact ⟨ct,rfl⟩
   . rw [Zah e] at hj ⊢;exact h.k1 j hj
 . have e:j≠t:=by intro e;subst e;rw [Zal] at hj;omega
   rw [Zah e] at hj
   exact h.k2 j hj
 . by_cases e:j=t
   . subst e;rw [Zal];omega
   . rw [Zah e];exact h.rng j
 . by_cases e:j=t
   . subst e;rw [Zal,Zal];exact ⟨[],rfl⟩
   . rw [Zah e,Zah e];exact h.k3 j (hb hj e)
 . by_cases e:j=t
   . subst e;rw [Zal];simp
   . rw [Zah e];exact h.nod j (hb hj e)
 . by_cases e1:j=t
   . subst e1
     rw [Zal,List.mem_singleton] at he
     subst he
     exact hin
   . rw [Zah e1] at he;exact h.ent j (hb hj e1) e he
 . by_cases e1:j=t
   . subst e1
     rw [Zal,List.mem_singleton] at he
     subst he
     show seta ro j 1 j≠0/\seta op j o j=o/\seta it j i j=seta it j i j/\co j=none/\seta rt j j j=seta rt j j j
     rw [Zal,Zal]
     exact ⟨by omega,rfl,rfl,ct,rfl⟩
   . rw [Zah e1] at he
     obtain ⟨a,b,d,f,g⟩:=h.k4 j (hb hj e1) hc e he
     have e2:e.t≠t:=by intro e2;rw [e2] at a;exact a ht
     rw [Zah e2,Zah e2,Zah e2,Zah e2,Zah e1,Zah e1]
     exact ⟨a,b,d,f,g⟩
 . by_cases e1:j=t
   . subst e1
     rw [Zal,Zal]
     exact ⟨by omega,by omega,0,Seg.refl _⟩
   . obtain ⟨a,b,s,hs⟩:=h.k5 j (hb hj e1) hc
     have e2:=ntr (hb hj e1) hc
     rw [Zah e1,Zah e2,Zah e2,Zah e1]
     exact ⟨a,b,s,hs⟩
 . have e:j≠t:=by intro e;subst e;rw [Zal] at hj;omega
   rw [Zah e] at hj
   exact h.k6 j hj
 . obtain ⟨a,b,d,f,g⟩:=h.k7 s k hk
   have e1:k.t≠t:=by intro e;rw [e] at a;omega
   have e2:s≠t:=by intro e;exact h.kids_busy hk (by rw [e];exact ht)
   rw [Zah e1,Zah e1,Zah e1,Zah e2,Zah e2]
   exact ⟨a,b,d,f,g⟩
end
end Go.Proofs.Mill
namespace Go.Proofs.Mill
def One (m n:Memo):Prop:=(∃ a w,n={ m with words:=m.words.set a w })\/(∃ i b,n={ m with boxes:=m.boxes.set i b })\/n=m
theorem One.refl (m:Memo):One m m:=.inr (.inr rfl)
theorem One.word (m:Memo) (a:Nat) (w:Int):One m { m with words:=m.words.set a w }:=.inl ⟨a,w,rfl⟩
theorem One.box (m:Memo) (i:Nat) (b:List Entry):One m { m with boxes:=m.boxes.set i b }:=.inr (.inl ⟨i,b,rfl⟩)
theorem One.same {m n k:Memo} (h:One m n) (e:k=n):One m k:=e ▸ h
theorem ZnU (u:Turn):(Zco u).m=u.m:=by unfold Zco;split <;> rfl
theorem ZCy (u:Turn):(ZeF u).m=u.m:=by
                                                      unfold ZeF;repeat' split
                                                      all_goals rfl
theorem ZEO (u:Turn) (w:Int):(ZhR u w).m=u.m:=by
                                                                unfold ZhR;repeat' split
                                                                all_goals rfl
theorem ZCe (u:Turn):(Zd3 u).m=u.m:=by unfold Zd3;split <;> rfl
theorem ZuV (u:Turn):(Zc1 u).m=u.m:=by unfold Zc1;split <;> rfl
theorem Zzs (u:Turn):One u.m (Zcj u).1.m:=by
 unfold Zcj
 split
 . exact (One.word u.m _ 0).same (ZCy _)
 . exact One.refl _
theorem Zy1 (u:Turn):One u.m (Zb1 u).1.m:=by
 unfold Zb1
 split
 . show One u.m (if _ then _ else _:Turn).m
   split <;> exact One.refl _
 split
 . exact (One.refl u.m).same (ZnU _)
 split
 . show One u.m (if _ then _ else _:Turn).m
   split
   . exact One.refl _
   . split
     . exact One.refl _
     . exact One.word u.m _ _
 split
 . show One u.m (if _ then _ else _:Turn).m
   split
   . exact One.refl _
   . split
     . exact One.refl _
     . exact (One.word u.m _ _).same (ZnU _)
 exact One.refl _
theorem Zxi (u:Turn):One u.m (ZbF u).1.m:=by
 unfold ZbF
 split
 . show One u.m (Zdu u).m
   unfold Zdu
   split
   . exact (One.word u.m _ _).same (ZnU _)
   . exact One.refl _
 split
 . show One u.m (if _ then _ else _:Turn).m
   split
   . exact (One.refl u.m).same (ZnU _)
   . split
     . exact (One.refl u.m).same (ZuV _)
     . exact One.refl _
 exact One.refl _
theorem ZzF (u:Turn):One u.m (Zcp u).1.m:=by
 unfold Zcp
 split
 . show One u.m (if _ then _ else _:Turn).m
   split
   . exact One.refl _
   . exact (One.refl u.m).same (ZEO _ _)
 split
 . show One u.m (if _ then _ else _:Turn).m
   split
   . exact One.refl _
   . split
     . exact (One.word u.m _ _).same (ZCe _)
     . exact One.refl _
 split
 . show One u.m (if _ then _ else _:Turn).m
   split
   . exact One.refl _
   . split
     . exact One.word u.m _ _
     . exact One.refl _
 exact One.refl _
theorem Zxb (u:Turn):One u.m (Zca u).1.m:=by
 unfold Zca
 repeat' split
 all_goals first
   | exact One.refl _
   | exact One.word u.m _ _
   | exact One.box u.m _ _
theorem ZvQ (u:Turn):One u.m (Zbs u).1.m:=by
 unfold Zbs
 split
 . exact One.box u.m _ _
 split
 . exact One.word u.m _ _
 split
 . show One u.m (swapT u).m
   unfold swapT
   repeat' split
   all_goals first | exact One.refl _ | exact One.word u.m _ _
 split
 . show One u.m (ZbK u u.t 21 13).m
   unfold ZbK
   repeat' split
   all_goals first | exact One.refl _ | exact One.word u.m _ _
 split
 . show One u.m (ZbK u u.th.who 22 24).m
   unfold ZbK
   repeat' split
   all_goals first | exact One.refl _ | exact One.word u.m _ _
 split
 . show One u.m (Zfh u).m
   unfold Zfh
   split <;> exact One.refl _
 split
 . show One u.m (Zjf u).m
   unfold Zjf
   repeat' split
   all_goals exact One.refl _
 split
 . exact One.word u.m _ _
 split
 . show One u.m (Zgu u).m
   unfold Zgu
   split
   . exact (One.word u.m _ _).same (ZuV _)
   . exact One.refl _
 exact One.refl _
theorem ZwC (u:Turn):One u.m (ZaG u).m:=by
 unfold ZaG
 split
 . exact One.refl _
 split
 . exact Zzs (begT u)
 split
 . exact Zy1 (begT u)
 split
 . exact Zxi (begT u)
 split
 . exact ZzF (begT u)
 split
 . exact Zxb (begT u)
 split
 . exact ZvQ (begT u)
 exact One.refl _
def Box1 (u:Turn) (m:Memo):Prop:=m.boxes=u.m.boxes\/m.boxes=u.m.boxes.set u.t.toNat u.th.batch
theorem Box1.same {u:Turn} {m k:Memo} (h:Box1 u m) (e:k=m):Box1 u k:=e ▸ h
end Go.Proofs.Mill
namespace Go.Proofs.Mill
def Quiet (u v:Turn):Prop:=v.log=u.log/\(v.done=u.done\/v.th.phase=0)
theorem Quiet.refl (u:Turn):Quiet u u:=⟨rfl,.inl rfl⟩
end Go.Proofs.Mill
namespace Go.Proofs.Mill
def ZdN (c:Config):Nat->List Int
 | 0=>List.replicate (sizeOf c).toNat 0
 | k+1=>(ZdN c k).set ((k:Int)*ZaA c).toNat c.init
theorem Zev (c:Config):∀ k,(ZdN c k).length=(sizeOf c).toNat
 | 0=>by simp [ZdN]
 | k+1=>by simp [ZdN,Zev c k]
theorem Zpt {c:Config} (h:Num c.init):∀ k,∀ n∈ZdN c k,Num n
 | 0 => by
   intro n hn
   have:=List.eq_of_mem_replicate hn
   subst this
   exact ⟨by omega,by omega⟩
 | k + 1 => by
   intro n hn
   rcases List.mem_or_eq_of_mem_set hn with h1 | rfl
   . exact Zpt h k n h1
   . exact h
theorem Zhv {c:Config} (h:CfgOK c):1<=sizeOf c/\sizeOf c<=192:=by
 have:=Za3 h
 have:=h.threads
 unfold sizeOf
 omega
theorem ZoI {c:Config} (h:CfgOK c) {i:Int} (h0:0<=i) (h1:i<c.items):0<=i*ZaA c/\i*ZaA c<Za0 c/\i*ZaA c<sizeOf c:=by
 have a:=ZcN h (i:=i+1) (by omega) (by omega)
 have b:=ZcQ h
 have c1:=ZcN h (i:=i) h0 (by omega)
 have e:(i+1)*ZaA c=i*ZaA c+ZaA c:=by rw [Int.add_mul,Int.one_mul]
 have:=h.threads
 unfold sizeOf
 omega
theorem ZsL {c:Config} (h:CfgOK c):∀ (k:Nat),(k:Int)<=c.items->∀ j:Nat,j<k->(ZdN c k).getD ((j:Int)*ZaA c).toNat 0=c.init
 | 0,_,j,hj=>by omega
 | k + 1, hk, j, hj => by
   have hk':=ZoI h (i:=(k:Int)) (by omega) (by omega)
   unfold ZdN
   rw [List.getD_eq_getElem?_getD]
   by_cases e:j=k
   . subst e
     rw [List.getElem?_set_self (by rw [Zev];omega),Option.getD_some]
   . have hb:=ZcQ h
     have hne:((k:Int)*ZaA c).toNat≠((j:Int)*ZaA c).toNat:=by
       intro e2
       have hj':=ZoI h (i:=(j:Int)) (by omega) (by omega)
       have e3:(k:Int)*ZaA c=(j:Int)*ZaA c:=by omega
       have:=Int.eq_of_mul_eq_mul_right (by omega) e3
       omega
     rw [List.getElem?_set_ne hne,<- List.getD_eq_getElem?_getD]
     exact ZsL h k (by omega) j (by omega)
def Zcw (c:Config):Memo:=⟨ZdN c c.items.toNat,List.replicate c.threads.toNat []⟩
theorem ZxK {c:Config} (h:CfgOK c):Zll c=some (Zcw c):=by
 have hs:=Zhv h
 have ht:=h.threads
 have hi:=h.items
 have hl:=Za3 h
 unfold Zll
 have e1:Zmt c=some (sizeOf c):=by
   show Zmi c=_
   unfold Zmi
   simp only [ZcB,Zj4 h]
   rw [Zat (n:=(2:Int)*c.threads) (by omega) (by omega),Zat (by omega) (by omega)]
   rfl
 have e2:ZpH (sizeOf c,c.threads)=some ⟨List.replicate (sizeOf c).toNat 0,List.replicate c.threads.toNat []⟩:=by
   show Zpp _ _=_
   simp only [Zpp,ZiI,Zny,Zez,ZgD,Zap,beq_self_eq_true,cond_true]
   rw [if_neg (show ¬sizeOf c<1 by omega),if_neg (show ¬sizeOf c>10000 by omega),if_pos (show 0<=sizeOf c by omega),if_pos (show sizeOf c<=ZbH by unfold ZbH;omega),
     if_neg (show ¬c.threads<1 by omega),if_neg (show ¬c.threads>10000 by omega),if_pos (show 0<=c.threads by omega),if_pos (show c.threads<=ZbH by unfold ZbH;omega)]
 simp only [e1,e2]
 have hw:ZnD (c,⟨[],[]⟩,⟨List.replicate (sizeOf c).toNat 0,List.replicate c.threads.toNat []⟩,c.items,0)=some (⟨[],[]⟩,Zcw c):=by
   have h0:=Zbi (step:=Zgn) (fun k=>(c,⟨[],[]⟩,(⟨ZdN c k,List.replicate c.threads.toNat []⟩:Memo),c.items,(k:Int))) c.items.toNat (y:=(⟨[],[]⟩,Zcw c)) (fun k hk=>?_) ?_
   . exact h0
   . show Ze3 _ _ _ _ _=_
     unfold Ze3
     have hkc:=ZoI h (i:=(k:Int)) (by omega) (by omega)
     have hcell:Zdz (c,(k:Int))=some ((k:Int)*ZaA c):=by
       show Zje _ _=_
       rw [ZpM h]
       unfold cellAt
       rw [if_neg (by omega)]
     simp only [Zap,hcell]
     rw [if_pos (by omega),if_pos hkc.1,if_pos (by rw [Zev];omega),Zat (by omega) (by omega)]
     rfl
   . show Ze3 _ _ _ _ _=_
     unfold Ze3
     simp only [Zap]
     rw [if_neg (by omega)]
     rfl
 rw [hw]
theorem Zzc (d t:Int) (h0:0<=d) (h1:d<=4):∃ y,ZeC d t=some y:=by
 unfold ZeC
 simp only [Zap]
 by_cases h:d<1
 . exact ⟨0,by rw [if_pos h]⟩
 . rw [if_neg h,Zat (n:=d-1) (by omega) (by omega),if_neg (by omega)]
   exact ⟨_,rfl⟩
def Zl5 (c:Config) (t:Int):Int:=(ZeC c.depth t).getD 0
theorem Zt3 {c:Config} (h:CfgOK c) (t:Int):ZeC c.depth t=some (Zl5 c t):=by
 obtain ⟨y,hy⟩:=Zzc c.depth t h.depth.1 h.depth.2
 rw [Zl5,hy];rfl
def ZfQ (c:Config) (t item:Int) (op:Op) (now w:Int):Thread :=
 ⟨1,item,op,[⟨t,op⟩],[],[],0,Zl5 c t,0,0,0,w,0,0,0,if c.wait>0 then Zaf .i64 (now+c.wait) else 0⟩
theorem ZwM {c:Config} (h:CfgOK c) (t:Int) (th:Thread) (item:Int) (op:Op) (now:Int):Zjw c t th item op now=some (ZfQ c t item op now th.width):=by
 unfold Zjw ZfQ
 simp only [ZmJ,Zt3 h,Zap]
 by_cases e:c.wait>0
 . rw [if_pos e,if_pos e]
 . rw [if_neg e,if_neg e]
end Go.Proofs.Mill
