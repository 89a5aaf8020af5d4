/- Parts of the proof: MillQTop0, MillQRunW, MillQTop, MillQDecode. -/
import Derived.Test.YtaopdopnecognaaGreatMillAll45
import Derived.Test.YtaopdopnecognaaGreatMillFEb
import Derived.KernelRfl
import Derived.Test.YtaopdopnecognaaGreatMillPureFairEnds
import Derived.Test.YtaopdopnecognaaGreatMillFGb
import Derived.Test.YtaopdopnecognaaGreatMillAll42
set_option linter.all false
set_option maxRecDepth 100000
noncomputable section
namespace Go.Proofs.Mill
def inv3:List SEntry:=[⟨1,0,0,⟨1,1⟩⟩,⟨1,1,0,⟨1,2⟩⟩,⟨1,2,0,⟨1,4⟩⟩]
def cfg3 (b:Int):Config:=⟨3,1,b,1,1,1,2,0,false,0,0,5⟩
def ZoR (b:Int):Bool :=
 match ZcO (cfg3 b) (inv3++ZaP 3 120) [] with
 | some y=>Nat.ble 1 y.1.m.words.length && (y.1.m.words.getD 0 0 == (12:Int) && (Nat.beq y.1.log.length 3 && (Nat.beq y.1.hist.length 6 && ((y.1.t.all fun t=>t.phase == (0:Int)) && (match ZbR y.1 with | some b=>b | none=>false)))))
 | none=>false
theorem ZBG:ZoR 1=true:=by kernel_rfl
theorem ZCD:ZoR 2=true:=by kernel_rfl
theorem ZBy:ZoR 3=true:=by kernel_rfl
end Go.Proofs.Mill
namespace Go.Proofs.Mill
theorem ZD1 {c:Config} {l:List SEntry} {d:List Int} (hc:Num c.init/\Num c.lo/\Num c.hi) (hl:∀ e∈l,Num e.op.v) (hd:d.length<=4294967296) :
   (ZcO c l d=some (ZwR,allE c l)/\(allE c l).2≠0) \/
   (ZcO c l d=some (l.foldl ZcE (newW c d),0,0)/\CfgOK c/\(∀ e∈l,Zbu c e=0)/\∃ ro pa rt co,WInv c (l.foldl ZcE (newW c d)) l.length ro pa rt co):=by
 by_cases h:(allE c l).2=0
 . obtain ⟨hC,h1,h2⟩:=Zsr h
   have hE:=WInv.entries hC hc.2.1 hc.2.2 (Zp0 hC hc.1 hd) (l:=l) (by omega) (fun e he=>⟨h2 e he,hl e he⟩)
   rw [Nat.zero_add] at hE
   exact .inr ⟨Zr4 hC h1 h2 hd hE.1,hC,h2,hE.2⟩
 . refine .inl ⟨?_,h⟩
   unfold ZcO
   rw [show Zgc (c,l)=some (allE c l) from ZmI c l]
   simp only []
   rw [ZeV h]
   rfl
end Go.Proofs.Mill
namespace Go.Proofs.Mill
theorem Zwn {b:Int} (hb:1<=b/\b<=3):CfgOK (cfg3 b) :=
 ⟨by show (1:Int)<=3/\(3:Int)<=16;omega,by show (1:Int)<=1/\(1:Int)<=4;omega,hb,by show (0:Int)<=1/\(1:Int)<=4;omega,by show (0:Int)<=1/\(1:Int)<=3;omega,by show (1:Int)<=1/\(1:Int)<=8;omega,
   by show (0:Int)<=2/\(2:Int)<=20;omega,by show (0:Int)<=0/\(0:Int)<=1000;omega,fun h=>by cases h⟩
theorem Zwe {b:Int}:∀ e∈inv3,Zbu (cfg3 b) e=0/\Num e.op.v:=by
 intro e he
 unfold inv3 at he
 rcases List.mem_cons.1 he with rfl | he
 . exact ⟨rfl,Zbg (by decide)⟩
 rcases List.mem_cons.1 he with rfl | he
 . exact ⟨rfl,Zbg (by decide)⟩
 rcases List.mem_cons.1 he with rfl | he
 . exact ⟨rfl,Zbg (by decide)⟩
 cases he
theorem cfg3_nums {b:Int}:Zjy (cfg3 b):=⟨Zbg (by show (-1000000:Int)<=5/\(5:Int)<=1000000;omega),Zbg (by show (-1000000:Int)<=0/\(0:Int)<=1000000;omega),Zbg (by show (-1000000:Int)<=0/\(0:Int)<=1000000;omega)⟩
theorem ZuB {b:Int} (hb:1<=b/\b<=3) (m:Nat) (hm:m<=2000):ZcO (cfg3 b) (inv3++ZaP 3 m) []=some ((inv3++ZaP 3 m).foldl ZcE (newW (cfg3 b) []),0,0):=by
 have hC:=Zwn hb
 have hall:∀ e∈inv3++ZaP 3 m,Zbu (cfg3 b) e=0/\Num e.op.v:=by
   intro e he
   rcases List.mem_append.1 he with h | h
   . exact Zwe e h
   . have:=Zgu hC (m:=m) e h
     exact ⟨this.2.2.1,this.2.2.2⟩
 have hlen:(inv3++ZaP 3 m).length=3+m:=by rw [List.length_append,Zc7];rfl
 rcases ZD1 (c:=cfg3 b) (l:=inv3++ZaP 3 m) (d:=[]) cfg3_nums (fun e he=>(hall e he).2) (by decide) with ⟨r1,r2⟩ | ⟨r1,_⟩
 . exact (r2 (by rw [ZrN hC (by rw [hlen];omega) (fun e he=>(hall e he).1)])).elim
 . exact r1
theorem ZxI {c:Config} {ops:List Kid} {l ps:List SEntry} {w:Wld} {n:Int} (hloop:∀ w0:Wld,Zmk (ops,([]:List Int),c,w0,([]:List SEntry),(0:Int))=some (([]:List Int),c,w0,l)) (hR:Zdh c=some n)
   (hS:ZdW (c,n)=some ps) (hl:l.length+ps.length<=4294967296) (hrun:ZcI (c,l++ps,([]:List Int))=some (w,0,0)) (hb:Ze1 w=some 0) (hh:(w.hist.length:Int)=Zac .i64 (2*(l.length:Int))) :
   ZdK (c,ops,([]:List Int))=some (w,true):=by
 show ZkY c ops []=_
 unfold ZkY
 simp only [hloop,hR,hS]
 rw [Zbb hl,cond_true,hrun]
 simp only [beq_self_eq_true,cond_true,hb]
 rw [hh,beq_self_eq_true]
theorem ZyT {f:Config×(List Kid)×(List Int)->Option (Wld×Bool)} {b:Int} {w:Wld} (hb:b<=3/\0<=b) (h:f (cfg3 b,Kid.mk (1:Int) (1:Int)::Kid.mk (1:Int) (2:Int)::Kid.mk (1:Int) (4:Int)::([]:List Kid),([]:List Int))=some (w,true))
   (a2:1<=w.m.words.length) (a3:w.m.words.getD 0 0=12) (a4:w.log.length=3) (a5:ZbR w=some true):ZfB f b=some (.inl (b+1)):=by
 unfold ZfB
 simp only [Zat]
 rw [if_pos hb.1]
 rw [show f (Config.mk (3:Int) (1:Int) b (1:Int) (1:Int) (1:Int) (2:Int) (0:Int) false (0:Int) (0:Int) (5:Int),Kid.mk (1:Int) (1:Int)::Kid.mk (1:Int) (2:Int)::Kid.mk (1:Int) (4:Int)::([]:List Kid),([]:List Int))=some (w,true) from h]
 simp only [Bool.not_true,cond_false,a5]
 rw [if_neg (by omega),if_pos (by omega),Zf7 (show w.m.words.getD (Int.toNat 0) 0=12 from a3),cond_false,Zf7 (show (w.log.length:Int)=3 by omega),cond_false,Zas (by omega) (by omega)]
theorem Zyd {f:Config×(List Kid)×(List Int)->Option (Wld×Bool)}:ZfB f 4=some (.inr (.inl ())):=rfl
theorem ZwQ {step:Int->Option (Int⊕(Unit⊕Bool))} (h1:step 1=some (.inl 2)) (h2:step 2=some (.inl 3)) (h3:step 3=some (.inl 4)) (h4:step 4=some (.inr (.inl ()))):ZaA step 1=some (.inl ()) :=
 whileM_some.2 (.more _ _ _ h1 (.more _ _ _ h2 (.more _ _ _ h3 (.done _ _ h4))))
theorem ZyS {w:Int->Option (Unit⊕Bool)} (h:w 1=some (.inl ())):Zjb w=some true:=by
 unfold Zjb
 rw [h]
theorem ZxU {b:Int} (hb:1<=b/\b<=3) (h:ZoR b=true):∃ w:Wld,ZdK (cfg3 b,Kid.mk (1:Int) (1:Int)::Kid.mk (1:Int) (2:Int)::Kid.mk (1:Int) (4:Int)::([]:List Kid),([]:List Int))=some (w,true) /\
   1<=w.m.words.length/\w.m.words.getD 0 0=12/\w.log.length=3/\ZbR w=some true:=by
 have hC:=Zwn hb
 have a1:=ZuB hb 120 (by omega)
 have b1:=ZuB hb 1932 (by omega)
 unfold ZoR at h
 obtain ⟨w,hw⟩:∃ w,w=(inv3++ZaP 3 120).foldl ZcE (newW (cfg3 b) []):=⟨_,rfl⟩
 rw [<- hw] at a1
 rw [a1] at h
 have h:(Nat.ble 1 w.m.words.length && (w.m.words.getD 0 0 == (12:Int) && (Nat.beq w.log.length 3 && (Nat.beq w.hist.length 6 && ((w.t.all fun t=>t.phase == (0:Int)) && (match ZbR w with | some b=>b | none=>false))))))=true:=h
 simp only [Bool.and_eq_true] at h
 obtain ⟨h1,h2,h3,h4,h5,h6⟩:=h
 have hidle:∀ t∈w.t,t.phase=0:=fun t ht=>eq_of_beq (List.all_eq_true.1 h5 t ht)
 have hvi:∀ j,InT (cfg3 b) j->((vw (cfg3 b) w.m w.t).th j).phase=0:=by
   intro j hj
   rw [Zi3 hj,List.getD_eq_getElem?_getD]
   cases hg:w.t[j.toNat]? with
   | none=>rfl
   | some t=>exact hidle t (List.mem_of_getElem? hg)
 have hstay:(inv3++ZaP 3 1932).foldl ZcE (newW (cfg3 b) [])=w:=by
   rw [show (1932:Nat)=40*3+1812 from rfl,ZxA,<- List.append_assoc,List.foldl_append]
   rw [show (40:Nat)*3=120 from rfl,<- hw]
   exact ZqV hvi (fun e he=>⟨(Zgu hC (m:=1812) e he).1,(Zgu hC (m:=1812) e he).2.1⟩)
 rw [hstay] at b1
 have hT:w.t.length<=4294967296:=by
   have hE:=(WInv.entries hC cfg3_nums.2.1 cfg3_nums.2.2 (Zp0 hC cfg3_nums.1 (d:=[]) (by decide)) (l:=inv3++ZaP 3 120) (by rw [List.length_append,Zc7];decide) (fun e he=>by
     rcases List.mem_append.1 he with x | x
     . exact Zwe e x
     . exact ⟨(Zgu hC (m:=120) e x).2.2.1,(Zgu hC (m:=120) e x).2.2.2⟩)).2
   rw [<- hw] at hE
   obtain ⟨_,_,_,_,W⟩:=hE
   have:(w.t.length:Int)=3:=W.lenT
   omega
 obtain ⟨ps,hps⟩:∃ ps,ps=ZaP 3 1932:=⟨_,rfl⟩
 have hpl:ps.length=1932:=by rw [hps];exact Zc7
 have hS:ZdW (cfg3 b,644)=some ps:=by
   show Zhi (cfg3 b) 644=_
   rw [Zvk hC _ (by omega),hps]
   show some (ZaP 3 (min (644*3) 65536))=_
   rw [show min (644*3) 65536=1932 by decide]
 rw [<- hps] at b1
 clear hps hstay hvi a1 hw
 have hrun:ZcI (cfg3 b,inv3++ps,([]:List Int))=some (w,0,0):=by unfold ZcI;exact b1
 clear b1
 have hL:ZbR w=some true:=by
   cases hq:ZbR w with
   | none=>rw [hq] at h6;cases h6
   | some b=>rw [hq] at h6;have h6:b=true:=h6;rw [h6]
 have hb0:Ze1 w=some (0:Int):=by
   have:Ze1 w=some (ZmV w.t:Int):=Zw3 hT
   rw [this,ZyP hidle];rfl
 refine ⟨w,?_,Nat.le_of_ble_eq_true h1,eq_of_beq h2,Nat.eq_of_beq_eq_true h3,hL⟩
 have hR:Zdh (cfg3 b)=some 644:=Zu4 hC
 have e6:w.hist.length=6:=Nat.eq_of_beq_eq_true h4
 refine ZxI (l:=inv3) (fun w0=>?_) hR hS ?_ hrun hb0 ?_
 . kernel_rfl
 . rw [hpl];decide
 . rw [e6];rfl
theorem Zx1:Zc4 ()=some true:=by
 have hstep:∀ b:Int,1<=b/\b<=3->ZoR b=true->ZcU b=some (.inl (b+1)):=by
   intro b hb hl
   obtain ⟨w,a1,a2,a3,a4,a5⟩:=ZxU hb hl
   have h:=ZyT (f:=ZdK) ⟨hb.2,by omega⟩ a1 a2 a3 a4 a5
   unfold ZcU ZjI
   exact h
 have h1:ZcU 1=some (.inl 2):=hstep 1 (by omega) ZBG
 have h2:ZcU 2=some (.inl 3):=hstep 2 (by omega) ZCD
 have h3:ZcU 3=some (.inl 4):=hstep 3 (by omega) ZBy
 have h4:ZcU 4=some (.inr (.inl ())):=by
   unfold ZcU ZjI
   exact Zyd
 have hw:ZfL 1=some (.inl ()):=by
   unfold ZfL
   exact ZwQ h1 h2 h3 h4
 unfold Zc4 Zpp
 exact ZyS hw
end Go.Proofs.Mill
namespace Go.Proofs.Mill
def byt (s:ByteArray) (i:Nat):Int:=((s.data.toList.getD i 0).toNat:Int)
theorem Ztz (s:ByteArray) (i:Nat):0<=byt s i/\byt s i<=255:=by
 unfold byt
 have:=(s.data.toList.getD i 0).toNat_lt
 omega
theorem ZqC (s:ByteArray) (i:Nat):IntKind.i64.wrap ((s.data.toList.getD i 0).toNat:Int)=byt s i:=by
 have:=Ztz s i
 show IntKind.i64.wrap (byt s i)=byt s i
 rw [<- Zbv,Zas (by omega) (by omega)]
theorem ZDC (s:ByteArray) (i:Nat):IntKind.u64.wrap ((s.data.toList.getD i 0).toNat:Int)=byt s i:=by
 have:=Ztz s i
 show IntKind.u64.wrap (byt s i)=byt s i
 rw [<- Zbv,wrap_u64 (by omega) (by omega)]
def v8 (s:ByteArray) (i:Nat):Nat->Int
 | 0=>0
 | k+1=>(256*v8 s i k+byt s (i+k)) % 18446744073709551616
theorem ZDo (s:ByteArray) (i:Nat):∀ k,0<=v8 s i k/\v8 s i k<18446744073709551616
 | 0=>by constructor <;> simp [v8]
 | k+1=>by unfold v8;omega
theorem ZvO (n:Int):Zac .u64 n=n % 18446744073709551616:=by
 rw [Zbv]
 simp [IntKind.wrap,IntKind.signed,IntKind.bits]
theorem ZCN (s:ByteArray) (i k:Nat):Zac .u64 (Zac .u64 (256*v8 s i k)+byt s (i+k))=v8 s i (k+1):=by
 rw [ZvO,ZvO]
 show _=(256*v8 s i k+byt s (i+k)) % 18446744073709551616
 omega
theorem ZBZ {q b:Nat} (hb:b<256):256*q ||| b=256*q+b:=by
 have:=Nat.two_pow_add_eq_or_of_lt (i:=8) (b:=b) (by omega) q
 rw [show (2:Nat) ^ 8=256 from rfl] at this
 exact this.symm
theorem ZCM (s:ByteArray) (i k:Nat):Zac .i64 (((BitVec.ofInt IntKind.i64.bits (Zac .i64 (IntKind.i64.wrap (v8 s i k)*(2:Int) ^ min (Int.toNat (8:Int)) IntKind.i64.bits)) ||| BitVec.ofInt IntKind.i64.bits (byt s (i+k))).toNat:Nat):Int)=IntKind.i64.wrap (v8 s i (k+1)):=by
 have hv:=ZDo s i k
 have hb:=Ztz s (i+k)
 obtain ⟨b,hbb⟩:∃ b:Nat,byt s (i+k)=(b:Int):=⟨(byt s (i+k)).toNat,by omega⟩
 obtain ⟨v,hvv⟩:∃ v:Nat,v8 s i k=(v:Int):=⟨(v8 s i k).toNat,by omega⟩
 rw [show (2:Int) ^ min (Int.toNat (8:Int)) IntKind.i64.bits=256 from rfl]
 have e2:v8 s i (k+1)=(256*v8 s i k+byt s (i+k)) % 18446744073709551616:=rfl
 rw [Zbv .i64 ((BitVec.toNat _:Nat):Int)]
 rw [e2,hvv,hbb]
 congr 1
 obtain ⟨k1,h1⟩:=Zp3 (v:Int)
 rw [Zbv] at h1
 obtain ⟨k2,h2⟩:=Zp3 (IntKind.i64.wrap (v:Int)*256)
 rw [h2,h1]
 have hx:(BitVec.ofInt IntKind.i64.bits (((v:Int)+k1*18446744073709551616)*256+k2*18446744073709551616)).toNat=256*(v % 72057594037927936):=by
   rw [BitVec.toNat_ofInt]
   have:((2 ^ IntKind.i64.bits:Nat):Int)=18446744073709551616:=rfl
   rw [this]
   omega
 have hy:(BitVec.ofInt IntKind.i64.bits (b:Int)).toNat=b:=by
   rw [BitVec.toNat_ofInt]
   have:((2 ^ IntKind.i64.bits:Nat):Int)=18446744073709551616:=rfl
   rw [this]
   omega
 rw [BitVec.toNat_or,hx,hy,ZBZ (by omega)]
 omega
def rest (s:ByteArray) (i:Nat):ByteArray:=s.extract i s.size
theorem Zjp (s:ByteArray) (i:Nat):(rest s i).size=s.size-i:=by
 unfold rest
 rw [ByteArray.size_extract]
 omega
theorem Zyk (s:ByteArray):rest s 0=s:=by
 unfold rest
 exact ByteArray.extract_zero_size
theorem ZrZ {s:ByteArray} {i:Nat} (h:i<s.size):(rest s i).data.toList.getD 0 0=s.data.toList.getD i 0:=by
 unfold rest
 rw [ByteArray.data_extract,Array.toList_extract,List.extract_eq_drop_take]
 have hl:s.data.toList.length=s.size:=rfl
 rw [List.getD_eq_getElem?_getD,List.getD_eq_getElem?_getD,List.getElem?_take,if_pos (by omega),List.getElem?_drop]
 rfl
theorem ZxQ {s:ByteArray} {i:Nat} (h:i<s.size):(rest s i).extract 1 (s.size-i)=rest s (i+1):=by
 unfold rest
 apply ByteArray.ext
 rw [ByteArray.data_extract,ByteArray.data_extract,ByteArray.data_extract,Array.extract_extract]
 congr 1
 omega
theorem ZgT {s:ByteArray} {i:Nat} (h:i<s.size):Zbc (rest s i)=some (byt s i,rest s (i+1)):=by
 have hz:=Zjp s i
 unfold Zbc
 simp only [Zat]
 rw [if_pos (by omega),if_pos (by omega),if_pos (by omega)]
 rw [Int.toNat_natCast,hz,show Int.toNat (0:Int)=0 from rfl,show Int.toNat (1:Int)=1 from rfl,ZrZ h,ZxQ h,ZqC]
def ent (s:ByteArray) (i:Nat):SEntry := if byt s i=1 then ⟨1,byt s (i+1),byt s (i+2),⟨byt s (i+3),IntKind.i64.wrap (v8 s (i+4) 8)⟩⟩ else if byt s i=2 then ⟨2,byt s (i+1),0,⟨0,0⟩⟩ else ⟨3,0,0,⟨0,0⟩⟩
def siz (k:Int):Nat:=if k=1 then 12 else if k=2 then 2 else 1
theorem ZCr (s:ByteArray) (i:Nat):Num (ent s i).op.v:=by
 unfold ent
 split
 . rw [<- Zbv];exact ZmS _
 . split <;> exact ⟨by show (_:Int)<=0;decide,by show (0:Int)<=_;decide⟩
theorem ZzO {s:ByteArray} {acc:List SEntry} {i:Nat} {a b c d:Int} (h:i+8<=s.size) :
   Zgq (s,acc,0,rest s i,(),SEntry.mk a b c (Op.mk d 0),0)=some (s,acc,0,rest s (i+8),(),SEntry.mk a b c (Op.mk d (IntKind.i64.wrap (v8 s i 8)))):=by
 refine ZeL (step:=ZeK) (fun k=>(s,acc,0,rest s (i+k),(),SEntry.mk a b c (Op.mk d (IntKind.i64.wrap (v8 s i k))),((k:Nat):Int))) 8 (fun k hk=>?_) ?_
 . show ZdB _ _ _ _ _ _ _=_
   unfold ZdB
   simp only [Zat]
   rw [if_pos (by omega),ZgT (by omega)]
   simp only []
   rw [ZCM,Zas (by omega) (by omega)]
   rfl
 . show ZdB _ _ _ _ _ _ _=_
   unfold ZdB
   simp only [Zat]
   rw [if_neg (by omega)]
theorem ZzT {s:ByteArray} {acc:List SEntry} {i:Nat} {r:Int} {e:SEntry} (h:i+12<=s.size) (hs:s.size<=3000) :
   ZcD (s,acc,(i:Int),r,e,0,0)=some (s,acc,(i:Int),r,e,v8 s (i+4) 8):=by
 refine ZeL (step:=ZeU) (fun k=>(s,acc,(i:Int),r,e,v8 s (i+4) k,((k:Nat):Int))) 8 (fun k hk=>?_) ?_
 . show Zd7 _ _ _ _ _ _ _=_
   unfold Zd7
   have e1:Zac .i64 (Zac .i64 ((i:Int)+4)+(k:Int))=((i+4+k:Nat):Int):=by
     rw [Zas (n:=(i:Int)+4) (by omega) (by omega),Zas (by omega) (by omega)]
     omega
   simp only [Zat,e1,Int.toNat_natCast]
   rw [if_pos (by omega),if_pos (by omega),if_pos (by omega),ZDC,ZCN,Zas (by omega) (by omega)]
   rfl
 . show Zd7 _ _ _ _ _ _ _=_
   unfold Zd7
   simp only [Zat]
   rw [if_neg (by omega)]
theorem Zzo {s:ByteArray} {acc:List SEntry} {i:Nat} (hs:s.size<=3000) (hi:i<s.size) (ha:acc.length<=i) :
   Zfo (s,acc,(i:Int))=if byt s i<1\/byt s i>3 then some (.inr (.inr ([],(i:Int),90))) else if i+siz (byt s i)>s.size then some (.inr (.inr ([],(i:Int),94)))
     else some (.inl (s,acc++[ent s i],((i+siz (byt s i):Nat):Int))):=by
 show ZcZ _ _ _=_
 unfold ZcZ
 have w1:Zac .i64 ((i:Int)+1)=((i+1:Nat):Int):=Zas (by omega) (by omega)
 have w2:Zac .i64 ((i:Int)+2)=((i+2:Nat):Int):=Zas (by omega) (by omega)
 have w3:Zac .i64 ((i:Int)+3)=((i+3:Nat):Int):=Zas (by omega) (by omega)
 have w12:Zac .i64 ((i:Int)+12)=((i+12:Nat):Int):=Zas (by omega) (by omega)
 simp only [Zat,w1,w2,w12,Int.toNat_natCast,ZqC]
 rw [if_pos (show (i:Int)<(s.size:Int) by omega),if_pos (show (0:Int)<=(i:Int) by omega),if_pos (show (i:Int)<(s.size:Int) by omega)]
 by_cases k1:byt s i<1
 . rw [if_pos k1,if_pos (.inl k1)]
 rw [if_neg k1]
 by_cases k2:byt s i>3
 . rw [if_pos k2,if_pos (.inr k2)]
 rw [if_neg k2,if_neg (show ¬(byt s i<1\/byt s i>3) by omega)]
 rcases (show byt s i=1\/byt s i=2\/byt s i=3 by omega) with k | k | k
 . have ez:siz (byt s i)=12:=by rw [k];rfl
   have ee:ent s i=⟨1,byt s (i+1),byt s (i+2),⟨byt s (i+3),IntKind.i64.wrap (v8 s (i+4) 8)⟩⟩:=by unfold ent;rw [if_pos k]
   rw [ez,ee,k]
   simp only [show ((1:Int) == 1)=true from rfl,cond_true]
   by_cases h:i+12>s.size
   . rw [if_pos (show ((i+12:Nat):Int)>(s.size:Int) by omega),if_pos h]
   rw [if_neg (show ¬((i+12:Nat):Int)>(s.size:Int) by omega),if_neg h,if_pos (by omega),if_pos (by omega),if_pos (by omega),if_pos (by omega),if_pos (by omega),ZzT (by omega) hs]
   simp only [w3,w12,Int.toNat_natCast,ZqC]
   rw [if_pos (by omega),if_pos (by omega),Zbb (by simp;omega),cond_true]
 . have ez:siz (byt s i)=2:=by rw [k];rfl
   have ee:ent s i=⟨2,byt s (i+1),0,⟨0,0⟩⟩:=by unfold ent;rw [if_neg (by omega),if_pos k]
   rw [ez,ee,k]
   simp only [show ((2:Int) == 1)=false from rfl,show ((2:Int) == 2)=true from rfl,cond_true,cond_false]
   by_cases h:i+2>s.size
   . rw [if_pos (show ((i+2:Nat):Int)>(s.size:Int) by omega),if_pos h]
   rw [if_neg (show ¬((i+2:Nat):Int)>(s.size:Int) by omega),if_neg h,if_pos (by omega),if_pos (by omega),if_pos (by omega),Zbb (by simp;omega),cond_true]
 . have ez:siz (byt s i)=1:=by rw [k];rfl
   have ee:ent s i=⟨3,0,0,⟨0,0⟩⟩:=by unfold ent;rw [if_neg (by omega),if_neg (by omega)]
   rw [ez,ee,k]
   simp only [show ((3:Int) == 1)=false from rfl,show ((3:Int) == 2)=false from rfl,cond_false]
   rw [if_neg (show ¬((i+1:Nat):Int)>(s.size:Int) by omega),if_neg (show ¬i+1>s.size by omega),if_neg (by omega),Zbb (by simp;omega),cond_true]
theorem ZvK {k:Int} (h:k=1\/k=2\/k=3):ZjL k=some ((siz k:Nat):Int):=by
 rcases h with rfl | rfl | rfl <;> rfl
theorem ZzU {s:ByteArray} {acc:List SEntry} {i:Nat} (hs:s.size<=3000) (hi:i<s.size) (ha:acc.length<=i) :
   ZeX (s,acc,0,rest s i,())=if byt s i<1\/byt s i>3 then some (.inr (s,acc,90,rest s i)) else if i+siz (byt s i)>s.size then some (.inr (s,acc,94,rest s i))
     else some (.inl (s,acc++[ent s i],0,rest s (i+siz (byt s i)),())):=by
 show ZcC _ _ _ _ _=_
 unfold ZcC
 have hz:=Zjp s i
 have h0:IntKind.i64.wrap (↑((rest s i).data.toList.getD (Int.toNat (0:Int)) (0:UInt8)).toNat:Int)=byt s i:=by
   rw [show Int.toNat (0:Int)=0 from rfl,ZrZ hi,ZqC]
 simp only [Zat,h0,ZgT hi,hz]
 rw [if_pos (by omega),if_pos (by omega)]
 by_cases k1:byt s i<1
 . rw [if_pos k1,if_pos (.inl k1)]
 rw [if_neg k1]
 by_cases k2:byt s i>3
 . rw [if_pos k2,if_pos (.inr k2)]
 have kk:byt s i=1\/byt s i=2\/byt s i=3:=by omega
 rw [if_neg k2,if_neg (show ¬(byt s i<1\/byt s i>3) by omega),ZvK kk]
 simp only []
 by_cases h:i+siz (byt s i)>s.size
 . rw [if_pos (show ((s.size-i:Nat):Int)<((siz (byt s i):Nat):Int) by omega),if_pos h]
 rw [if_neg (show ¬((s.size-i:Nat):Int)<((siz (byt s i):Nat):Int) by omega),if_neg h]
 rcases kk with k | k | k
 . have ez:siz (byt s i)=12:=by rw [k];rfl
   have ee:ent s i=⟨1,byt s (i+1),byt s (i+2),⟨byt s (i+3),IntKind.i64.wrap (v8 s (i+4) 8)⟩⟩:=by unfold ent;rw [if_pos k]
   rw [ez] at h ⊢
   rw [ee,k]
   simp only [show ((1:Int) == 1)=true from rfl,show ((1:Int) != 3)=true from rfl,cond_true,ZgT (s:=s) (i:=i+1) (by omega),ZgT (s:=s) (i:=i+1+1) (by omega),ZgT (s:=s) (i:=i+1+1+1) (by omega)]
   rw [ZzO (i:=i+1+1+1+1) (by omega)]
   simp only []
   rw [Zbb (by simp;omega),cond_true]
 . have ez:siz (byt s i)=2:=by rw [k];rfl
   have ee:ent s i=⟨2,byt s (i+1),0,⟨0,0⟩⟩:=by unfold ent;rw [if_neg (by omega),if_pos k]
   rw [ez] at h ⊢
   rw [ee,k]
   simp only [show ((2:Int) == 1)=false from rfl,show ((2:Int) != 3)=true from rfl,cond_true,cond_false,ZgT (s:=s) (i:=i+1) (by omega)]
   rw [Zbb (by simp;omega),cond_true]
 . have ez:siz (byt s i)=1:=by rw [k];rfl
   have ee:ent s i=⟨3,0,0,⟨0,0⟩⟩:=by unfold ent;rw [if_neg (by omega),if_neg (by omega)]
   rw [ez] at h ⊢
   rw [ee,k]
   simp only [show ((3:Int) == 1)=false from rfl,show ((3:Int) != 3)=false from rfl,cond_false]
   rw [Zbb (by simp;omega),cond_true]
theorem ZCl (k:Int):1<=siz k:=by
 unfold siz
 split
 . omega
 . split <;> omega
theorem Zwy {s:ByteArray} (hs:s.size<=3000):∀ (m i:Nat) (acc:List SEntry),s.size-i<=m->i<=s.size->acc.length<=i->(∀ e∈acc,Num e.op.v) ->
   ∃ (l : List SEntry) (j : Nat) (g : Int), j <= s.size /\ l.length <= s.size /\ (∀ e ∈ l, Num e.op.v) /\ Zkb (s, acc, 0, rest s i, ()) = some (s, l, g, rest s j) /\
     Zhs (s,acc,(i:Int))=some (if g=0 then .inl l else .inr ([],(j:Int),g)):=by
 intro m
 induction m with
 | zero =>
   intro i acc hm hi ha hn
   have hz:=Zjp s i
   refine ⟨acc,i,0,hi,by omega,hn,whileM_some.2 (.done _ _ ?_),whileM_some.2 (.done _ _ ?_)⟩
   . show ZcC _ _ _ _ _=_
     unfold ZcC
     simp only [Zat]
     rw [if_neg (by omega)]
   . show ZcZ _ _ _=_
     unfold ZcZ
     simp only [Zat]
     rw [if_neg (by omega),if_pos trivial]
 | succ m ih =>
   intro i acc hm hi ha hn
   by_cases h:i<s.size
   . have s1:=ZzU hs h ha
     have s2:=Zzo hs h ha
     by_cases k:byt s i<1\/byt s i>3
     . rw [if_pos k] at s1 s2
       exact ⟨acc,i,90,hi,by omega,hn,whileM_some.2 (.done _ _ s1),whileM_some.2 (.done _ _ (by rw [s2,if_neg (by decide)]))⟩
     rw [if_neg k] at s1 s2
     by_cases q:i+siz (byt s i)>s.size
     . rw [if_pos q] at s1 s2
       exact ⟨acc,i,94,hi,by omega,hn,whileM_some.2 (.done _ _ s1),whileM_some.2 (.done _ _ (by rw [s2,if_neg (by decide)]))⟩
     rw [if_neg q] at s1 s2
     have hp:=ZCl (byt s i)
     obtain ⟨l,j,g,h1,h2,h3,h4,h5⟩:=ih (i+siz (byt s i)) (acc++[ent s i]) (by omega) (by omega) (by rw [List.length_append,List.length_singleton];omega) (fun e he=>by
       rcases List.mem_append.1 he with he | he
       . exact hn e he
       . rw [List.mem_singleton] at he
         subst he
         exact ZCr s i)
     exact ⟨l,j,g,h1,h2,h3,whileM_some.2 (.more _ _ _ s1 (whileM_some.1 h4)),whileM_some.2 (.more _ _ _ s2 (whileM_some.1 h5))⟩
   . have hz:=Zjp s i
     refine ⟨acc,i,0,hi,by omega,hn,whileM_some.2 (.done _ _ ?_),whileM_some.2 (.done _ _ ?_)⟩
     . show ZcC _ _ _ _ _=_
       unfold ZcC
       simp only [Zat]
       rw [if_neg (by omega)]
     . show ZcZ _ _ _=_
       unfold ZcZ
       simp only [Zat]
       rw [if_neg (by omega),if_pos trivial]
theorem Zvf {s:ByteArray} (hs:s.size<=3000):∃ (l:List SEntry) (j g:Int),l.length<=3000/\(∀ e∈l,Num e.op.v)/\ZhR s=some (l,j,g)/\ZiO s=some (l,j,g):=by
 obtain ⟨l,j,g,h1,h2,h3,h4,h5⟩:=Zwy hs s.size 0 [] (by omega) (by omega) (Nat.le_refl _) (fun e he=>by cases he)
 rw [Zyk] at h4
 have h5:Zhs (s,([]:List SEntry),(0:Int))=_:=h5
 have hz:=Zjp s j
 by_cases hg:g=0
 . subst hg
   refine ⟨l,0,0,by omega,h3,?_,?_⟩
   . show ZeE s=_
     unfold ZeE
     rw [h4]
     rfl
   . show Zff s=_
     unfold Zff
     rw [h5,if_pos rfl]
 . refine ⟨[],(j:Int),g,by simp,(fun e he=>by cases he),?_,?_⟩
   . show ZeE s=_
     unfold ZeE
     rw [h4]
     simp only []
     rw [ZeV hg,cond_true,hz,Zas (by omega) (by omega)]
     congr 3
     omega
   . show Zff s=_
     unfold Zff
     rw [h5,if_neg hg]
end Go.Proofs.Mill
