/- slices.Repeat of one thread. -/
import Derived.Test.YtaopdopnecognaaGreatMillShareb
import Derived.Test.YtaopdopnecognaaGreatMillRepDef
import Derived.Test.YtaopdopnecognaaGreatMillPick
set_option linter.all false
set_option maxRecDepth 100000
noncomputable section
namespace Go.Proofs.Mill
open Go.RowKit Go.Conc
def rE:Env:=env1 [(82,s82)]
theorem rG:Zai rE:=Zal mix1 ent1 (Zab ok82 rfl Zah)
def s58:Spec:=Zao (Zaa (Zap .thread) (Zad (Zae .i64))) rRes Zdk
def Zuw (xs:List Thread) (n:Int):Option (List Thread×List Thread) := bif decide (n<(0:Int)) then none else match ZdT (IntKind.u64.wrap (xs.length:Int),IntKind.u64.wrap n) with
 | some y1=>bif decide (y1.fst>(0:Int)) then none else bif decide (y1.snd>(9223372036854775807:Int)) then none else bif IntKind.i64.wrap y1.snd == IntKind.i64.wrap y1.snd then bif decide ((0:Int)<=IntKind.i64.wrap y1.snd) then bif decide (IntKind.i64.wrap y1.snd<=Zbt) then some (xs,List.replicate (IntKind.i64.wrap y1.snd).toNat Zaw) else none else none else none
 | none=>none
theorem rk0 (xs:List Thread) (n:Int):ZwH rE xs n=Zuw xs n:=by kernel_rfl
def Zot (st:List Thread×Int):Option (Bool×List Thread×Int):=bif decide (st.2<(st.1.length:Int)) then some (true,st.1,st.2) else some (false,st.1,st.2)
theorem rk1 (st:rVB.α):Zql rE st=Zot st:=by kernel_rfl
theorem rk2 (st:rVB.α):rFin rE st=some st.1:=by kernel_rfl
def repL (m k:Nat) (y:Thread):List Thread:=List.replicate k y++List.replicate (m-k) Zaw
theorem Zpv {m k:Nat} {y:Thread} (h:k<=m):(repL m k y).length=m:=by unfold repL;simp;omega
theorem Zyt {m:Nat} {y:Thread}:repL m m y=List.replicate m y:=by unfold repL;simp
theorem Zx8 {m k j:Nat} {y:Thread} (h1:j<=k) (h2:k+j<=m):(repL m k y).take k++(repL m k y).take j++(repL m k y).drop (k+j)=repL m (k+j) y:=by
 unfold repL
 rw [List.take_append,List.take_append,List.drop_append]
 simp only [List.length_replicate,List.take_replicate,List.drop_replicate,Nat.sub_self,Nat.min_self]
 rw [Nat.min_eq_left h1,show j-k=0 by omega,show k-(k+j)=0 by omega,show k+j-k=j by omega]
 simp only [Nat.zero_min,List.replicate_zero,List.append_nil,List.nil_append]
 rw [List.replicate_append_replicate,show m-k-j=m-(k+j) by omega]
theorem ZxL {m:Nat} {y:Thread} (h:1<=m):(List.replicate m Zaw).take 0++[y]++(List.replicate m Zaw).drop (0+[y].length)=repL m 1 y:=by
 unfold repL
 simp
theorem ZbO {a:Act} {d:Nat} {v:Value} (h:d<a.tmps.size):(a.put (some d) v).eval (.tmp d)=v:=by
 simp [Act.put,Act.eval,h]
theorem ZaC {a:Act} {d t:Nat} {v:Value} (h:d≠t):(a.put (some d) v).eval (.tmp t)=a.eval (.tmp t):=by
 simp [Act.put,Act.eval,Array.getElem?_setIfInBounds_ne h]
theorem put_size {a:Act} {d:Nat} {v:Value}:(a.put (some d) v).tmps.size=a.tmps.size:=by simp [Act.put]
theorem ZoJ:Tryz.prog.underlying 32=some (.slice 57):=by
 have h:(match Tryz.prog.underlying 32 with | some (.slice e)=>Nat.beq e 57 | _=>false)=true:=by kernel_rfl
 split at h
 . rename_i e he
   have:=Nat.eq_of_beq_eq_true h
   subst this
   exact he
 . cases h
theorem Zqt:(Tryz.prog.info? 57).map (·.size)=some Ty.thread.sz:=by kernel_rfl
theorem n9i0:rOps9[0]?=some (opN rOps9 0):=by kernel_rfl
theorem n9p0:(opN rOps9 0).op=.move (.tmp 8):=by kernel_rfl
theorem n9g0:(opN rOps9 0).guard=none:=by kernel_rfl
theorem n9d0:(opN rOps9 0).dst=some 38:=by kernel_rfl
theorem n9i1:rOps9[1]?=some (opN rOps9 1):=by kernel_rfl
theorem n9p1:(opN rOps9 1).op=.move (.tmp 7):=by kernel_rfl
theorem n9g1:(opN rOps9 1).guard=none:=by kernel_rfl
theorem n9d1:(opN rOps9 1).dst=some 39:=by kernel_rfl
theorem n9i2:rOps9[2]?=some (opN rOps9 2):=by kernel_rfl
theorem n9p2:(opN rOps9 2).op=.move (.tmp 8):=by kernel_rfl
theorem n9g2:(opN rOps9 2).guard=none:=by kernel_rfl
theorem n9d2:(opN rOps9 2).dst=some 40:=by kernel_rfl
theorem n9i3:rOps9[3]?=some (opN rOps9 3):=by kernel_rfl
theorem n9p3:(opN rOps9 3).op=.slice 32 (.tmp 39) (some (.tmp 40)) none none:=by kernel_rfl
theorem n9g3:(opN rOps9 3).guard=none:=by kernel_rfl
theorem n9d3:(opN rOps9 3).dst=some 41:=by kernel_rfl
theorem n9i4:rOps9[4]?=some (opN rOps9 4):=by kernel_rfl
theorem n9p4:(opN rOps9 4).op=.move (.tmp 7):=by kernel_rfl
theorem n9g4:(opN rOps9 4).guard=none:=by kernel_rfl
theorem n9d4:(opN rOps9 4).dst=some 42:=by kernel_rfl
theorem n9i5:rOps9[5]?=some (opN rOps9 5):=by kernel_rfl
theorem n9p5:(opN rOps9 5).op=.move (.tmp 8):=by kernel_rfl
theorem n9g5:(opN rOps9 5).guard=none:=by kernel_rfl
theorem n9d5:(opN rOps9 5).dst=some 43:=by kernel_rfl
theorem n9i6:rOps9[6]?=some (opN rOps9 6):=by kernel_rfl
theorem n9p6:(opN rOps9 6).op=.slice 32 (.tmp 42) none (some (.tmp 43)) none:=by kernel_rfl
theorem n9g6:(opN rOps9 6).guard=none:=by kernel_rfl
theorem n9d6:(opN rOps9 6).dst=some 44:=by kernel_rfl
theorem n9i7:rOps9[7]?=some (opN rOps9 7):=by kernel_rfl
theorem n9p7:(opN rOps9 7).op=.call { callee:=.builtin .copy,args:=#[.tmp 41,.tmp 44],argTypes:=#[32,32] }:=by kernel_rfl
theorem n9g7:(opN rOps9 7).guard=none:=by kernel_rfl
theorem n9d7:(opN rOps9 7).dst=some 45:=by kernel_rfl
theorem n9i8:rOps9[8]?=some (opN rOps9 8):=by kernel_rfl
theorem n9p8:(opN rOps9 8).op=.binOp .add 3 (.tmp 38) (.tmp 45) 3:=by kernel_rfl
theorem n9g8:(opN rOps9 8).guard=none:=by kernel_rfl
theorem n9d8:(opN rOps9 8).dst=some 46:=by kernel_rfl
theorem n9i9:rOps9[9]?=some (opN rOps9 9):=by kernel_rfl
theorem n9p9:(opN rOps9 9).op=.assign (.tmp 46):=by kernel_rfl
theorem n9g9:(opN rOps9 9).guard=none:=by kernel_rfl
theorem n9d9:(opN rOps9 9).dst=some 8:=by kernel_rfl
theorem ZwJ (a b:Int) (w:World) (h1:0<=a) (h2:0<=b) (h3:a+b<9223372036854775808) {o:Oper} {ac:Act} (hp:o.op=.binOp .add 3 (.tmp 38) (.tmp 45) 3) (e1:ac.eval (.tmp 38)=.int .i64 a) (e2:ac.eval (.tmp 45)=.int .i64 b) :
   (execOp ac.eval o).run Tryz.prog w=.ok (.value (.int .i64 (a+b))) w:=by
 have hw:IntKind.wrap .i64 (a+b)=a+b:=ZvP (by
   have:a+b=((a+b).toNat:Int):=by omega
   rw [this]
   show Nat.ble (a+b).toNat 9223372036854775807=true
   rw [Nat.ble_eq];omega)
 have h3u:Tryz.prog.underlying 3=some (.int .i64):=by kernel_rfl
 simp [execOp,hp,e1,e2,Za9,binOp,Op.intArith,hw]
theorem ZsQ {b cap m k:Nat} (hk:k<m) (hm:m<=cap) (w:World) {o:Oper} {ac:Act} (hp:o.op=.slice 32 (.tmp 39) (some (.tmp 40)) none none) (e1:ac.eval (.tmp 39)=.slice (some ⟨b,0,none⟩) m cap) (e2:ac.eval (.tmp 40)=.int .i64 k) :
   (execOp ac.eval o).run Tryz.prog w=.ok (.value (.slice (some ⟨b,k*Ty.thread.sz,none⟩) (m-k) (cap-k))) w:=by
 have hi:=Zqt
 cases hq:Tryz.prog.info? 57 with
 | none=>rw [hq] at hi;cases hi
 | some i =>
   rw [hq] at hi
   have hs:i.size=Ty.thread.sz:=by simpa using hi
   have hne:¬cap=k:=by omega
   have hb:(Instr.sliceBound (.int .i64 k) m .sliceB).run Tryz.prog w=.ok k w:=by
     have h1:(0:Int)<=k:=by omega
     have h2:(k:Int)<=m:=by omega
     simp [Instr.sliceBound,asIntOf,h1,h2]
   simp [execOp,hp,e1,e2,Instr.sliceAt,Instr.slice,run_underlying ZoJ,Instr.sliceBounds,hb,sizeOf,typeInfo,hq,hs,hne,Addr.add]
   intro h;exact h.symm
theorem Zvt {b cap m k:Nat} (hk0:0<k) (hk:k<m) (hm:m<=cap) (w:World) {o:Oper} {ac:Act} (hp:o.op=.slice 32 (.tmp 42) none (some (.tmp 43)) none) (e1:ac.eval (.tmp 42)=.slice (some ⟨b,0,none⟩) m cap) (e2:ac.eval (.tmp 43)=.int .i64 k) :
   (execOp ac.eval o).run Tryz.prog w=.ok (.value (.slice (some ⟨b,0,none⟩) k cap)) w:=by
 have hi:=Zqt
 cases hq:Tryz.prog.info? 57 with
 | none=>rw [hq] at hi;cases hi
 | some i =>
   have hne:¬cap=0:=by omega
   have hb:(Instr.sliceBound (.int .i64 k) cap .sliceAcap).run Tryz.prog w=.ok k w:=by
     have h1:(0:Int)<=k:=by omega
     have h2:(k:Int)<=cap:=by omega
     simp [Instr.sliceBound,asIntOf,h1,h2]
   simp [execOp,hp,e1,e2,Instr.sliceAt,Instr.slice,run_underlying ZoJ,Instr.sliceBounds,hb,sizeOf,typeInfo,hq,hne,Addr.add]
theorem ZvW {w0 w:World} {ob:List (Nat×AV)} {mu:Nat->Option Nat} {ok:Nat->Prop} {id:Nat} {e:TypeId} {τ:Ty} {xs:List τ.den} {v:Value} (hm:Mem w0 (cx w ob mu ok)) (hob:look ob id=.row e τ xs) (hv:OwnV (cx w ob mu ok) id v) (hne:xs≠[]) :
   ∃ b cap cur,mu id=some b/\ZgP (cx w ob mu ok) e τ b cap cur/\xs.length<=cap/\cap<=maxLen/\(cx w ob mu ok).DVs (xs.map τ.enc).flatten (cur.toList.take (xs.length*τ.sz))/\v=.slice (some ⟨b,0,none⟩) xs.length cap:=by
 have ho:=hm.obj id
 unfold ObjOK at ho
 unfold OwnV at hv
 rw [show (cx w ob mu ok).ob id=.row e τ xs from hob] at ho hv
 rcases ho with ⟨_,h⟩ | ⟨b,cap,cur,h1,h2,h3,h4,h5⟩
 . exact (hne h).elim
 . rcases hv with ⟨_,h,_⟩ | ⟨b',cap',cur',k1,k2,k3,k4⟩
   . exact (hne h).elim
   . have h1:mu id=some b:=h1
     have k1:mu id=some b':=k1
     rw [h1] at k1
     obtain rfl:=Option.some.inj k1
     have e1:=h2.1.symm.trans k2.1
     simp only [Option.some.injEq,Obj.cells.injEq,and_true] at e1
     subst e1
     have hcc:cap=cap':=Nat.eq_of_mul_eq_mul_right τ.sz_pos (h2.2.symm.trans k2.2)
     subst hcc
     exact ⟨b,cap,cur,h1,h2,h3,h4,h5,k4⟩
theorem ZAf {w:World} {b:Nat} {cur:Array Value} {e:TypeId} (h:w.heap[b]?=some (.cells cur e (0,0))) (j:Nat):w.cell? ⟨b,j,none⟩=cur[j]?:=by
 simp [World.cell?,h]
def rSt (l:List Ty.thread.den) (k:Int):St:=build Zml (rVB.enc (l,k))
theorem ZBT (l:List Ty.thread.den) (k:Int):look (rSt l k).tm 7=.own 65984:=by kernel_rfl
theorem ZCa (l:List Ty.thread.den) (k:Int):look (rSt l k).tm 8=.i k:=by kernel_rfl
theorem ZtL (l:List Ty.thread.den) (k:Int):(rSt l k).ob=[(65984,.row 57 .thread l)]:=by kernel_rfl
theorem ZyQ (l:List Ty.thread.den) (k:Int):(rSt l k).tm=[(7,.own 65984),(8,.i k)]:=by kernel_rfl
theorem ZyH {w0 w:World} {ok:Nat->Prop} {a:Act} {mu:Nat->Option Nat} {ob:List (Nat×AV)} {l:List Ty.thread.den} {k:Int} (hm:Mem w0 (cx w ob mu ok)) (hl:look ob=look [(65984,.row 57 .thread l)]) (hs:a.tmps.size=48) (hd:a.defers=[])
   (h7:Mill.V (cx w ob mu ok) (.own 65984) (a.eval (.tmp 7))) (h8:a.eval (.tmp 8)=.int .i64 k):Holds T w0 ok 48 [] (rSt l k) a w:=by
 have hcx:cx w ob mu ok=cx w [(65984,.row 57 .thread l)] mu ok:=by unfold cx;rw [hl]
 rw [hcx] at hm h7
 refine ⟨mu,⟨by rw [ZtL];exact hm,fun t ht=>?_,fun t ht=>?_,hs,hd,Marks.nil _ _⟩,trivial⟩
 . rw [ZtL,ZyQ]
   by_cases e7:7=t
   . subst e7;rw [look_eq];exact h7
   . rw [ZaQ _ _ e7]
     by_cases e8:8=t
     . subst e8;rw [look_eq];exact h8
     . rw [ZaQ _ _ e8];trivial
 . rw [ZyQ,ZaQ _ _ (by omega),ZaQ _ _ (by omega)]
   rfl
theorem Zr9 (id:Nat) (x y:AV):look ((id,x)::[(id,y)])=look [(id,x)]:=by
 funext j
 by_cases e:id=j
 . subst e;rw [look_eq,look_eq]
 . rw [ZaQ _ _ e,ZaQ _ _ e,ZaQ _ _ e]
set_option maxHeartbeats 1000000 in
theorem rep9 {w0 w:World} {ok:Nat->Prop} {a:Act} {m k j:Nat} {L:List Ty.thread.den} (hL:L.length=m) (hk1:1<=k) (hkm:k<m) (hj:j=min k (m-k)) (hh:Holds T w0 ok 48 [] (rSt L k) a w) :
   (Code.region 9 rOps9 true).wpIn (Za4 none) 0 Tryz.prog (fun e a' w'=>e=.normal/\Holds T w0 ok 48 [] (rSt (L.take k++L.take j++L.drop (k+j)) ((k+j:Nat):Int)) a' w') a w:=by
 have hh1:=hh.drawn Stays.triv (w.drawn+1)
 obtain ⟨mu,hr,_⟩:=hh1
 have h8:a.eval (.tmp 8)=.int .i64 k:=Zf8 hr 8 (ZCa _ _)
 have h7:OwnV (cx { w with drawn:=w.drawn+1 } (rSt L k).ob mu ok) 65984 (a.eval (.tmp 7)):=Zf8 hr 7 (ZBT _ _)
 have hs:=hr.size
 have hd:=hr.defers
 have hm:=hr.mem
 clear hr hh
 rw [ZtL] at h7 hm
 have hrow:look [(65984,AV.row 57 .thread L)] 65984=.row 57 .thread L:=look_eq _ _ _
 obtain ⟨b,cap,cur,hmu,hat,hle,hcap,hds,hv⟩:=ZvW hm hrow h7 (fun e=>by rw [e] at hL;simp at hL;omega)
 rw [hL] at hle hds hv
 have hmx:m<9223372036854775808:=by unfold maxLen at hcap;omega
 refine wpIn_wide.2 (wp_region_any (show Tryz.prog.follows .mixedOrders=true from mix1) ?_)
 have hsz:rOps9.size=10:=by kernel_rfl
 rw [hsz]
 generalize hw1:({ w with drawn:=w.drawn+1 }:World)=w1 at *
 refine wpAny_take (i:=0) (oi:=opN rOps9 0) (v:=.int .i64 k) n9i0 (by kernel_rfl) (by kernel_rfl) (by kernel_rfl) (fun _ _ _ h=>by obtain ⟨h,_⟩:=h;cases h) (.inl ⟨by simp [Region.wanted,n9g0],fun w=>by simp [execOp,n9p0,h8]⟩) ?_
 rw [n9d0]
 have q7:(a.put (some 38) (.int .i64 k)).eval (.tmp 7)=.slice (some ⟨b,0,none⟩) m cap:=(ZaC (by omega)).trans hv
 have q8:(a.put (some 38) (.int .i64 k)).eval (.tmp 8)=.int .i64 k:=(ZaC (by omega)).trans h8
 have q38:(a.put (some 38) (.int .i64 k)).eval (.tmp 38)=.int .i64 k:=ZbO (by omega)
 have qs:(a.put (some 38) (.int .i64 k)).tmps.size=48:=put_size.trans hs
 have qd:(a.put (some 38) (.int .i64 k)).defers=[]:=hd
 generalize a.put (some 38) (.int .i64 k)=a1 at *
 refine wpAny_take (i:=1) (oi:=opN rOps9 1) (v:=.slice (some ⟨b,0,none⟩) m cap) n9i1 (by kernel_rfl) (by kernel_rfl) (by kernel_rfl) (fun _ _ _ h=>by obtain ⟨h,_⟩:=h;cases h) (.inl ⟨by simp [Region.wanted,n9g1],fun w=>by simp [execOp,n9p1,q7]⟩) ?_
 rw [n9d1]
 have r7:(a1.put (some 39) (.slice (some ⟨b,0,none⟩) m cap)).eval (.tmp 7)=.slice (some ⟨b,0,none⟩) m cap:=(ZaC (by omega)).trans q7
 have r8:(a1.put (some 39) (.slice (some ⟨b,0,none⟩) m cap)).eval (.tmp 8)=.int .i64 k:=(ZaC (by omega)).trans q8
 have r38:(a1.put (some 39) (.slice (some ⟨b,0,none⟩) m cap)).eval (.tmp 38)=.int .i64 k:=(ZaC (by omega)).trans q38
 have r39:(a1.put (some 39) (.slice (some ⟨b,0,none⟩) m cap)).eval (.tmp 39)=.slice (some ⟨b,0,none⟩) m cap:=ZbO (by omega)
 have rs:(a1.put (some 39) (.slice (some ⟨b,0,none⟩) m cap)).tmps.size=48:=put_size.trans qs
 have rd:(a1.put (some 39) (.slice (some ⟨b,0,none⟩) m cap)).defers=[]:=qd
 generalize a1.put (some 39) (.slice (some ⟨b,0,none⟩) m cap)=a2 at *
 clear q7 q8 q38 qs qd
 have q7:=r7
 have q8:=r8
 have q38:=r38
 have q39:=r39
 have qs:=rs
 have qd:=rd
 clear r7 r8 r38 r39 rs rd
 refine wpAny_take (i:=2) (oi:=opN rOps9 2) (v:=.int .i64 k) n9i2 (by kernel_rfl) (by kernel_rfl) (by kernel_rfl) (fun _ _ _ h=>by obtain ⟨h,_⟩:=h;cases h) (.inl ⟨by simp [Region.wanted,n9g2],fun w=>by simp [execOp,n9p2,q8]⟩) ?_
 rw [n9d2]
 have r7:(a2.put (some 40) (.int .i64 k)).eval (.tmp 7)=.slice (some ⟨b,0,none⟩) m cap:=(ZaC (by omega)).trans q7
 have r8:(a2.put (some 40) (.int .i64 k)).eval (.tmp 8)=.int .i64 k:=(ZaC (by omega)).trans q8
 have r38:(a2.put (some 40) (.int .i64 k)).eval (.tmp 38)=.int .i64 k:=(ZaC (by omega)).trans q38
 have r39:(a2.put (some 40) (.int .i64 k)).eval (.tmp 39)=.slice (some ⟨b,0,none⟩) m cap:=(ZaC (by omega)).trans q39
 have r40:(a2.put (some 40) (.int .i64 k)).eval (.tmp 40)=.int .i64 k:=ZbO (by omega)
 have rs:(a2.put (some 40) (.int .i64 k)).tmps.size=48:=put_size.trans qs
 have rd:(a2.put (some 40) (.int .i64 k)).defers=[]:=qd
 generalize a2.put (some 40) (.int .i64 k)=a3 at *
 clear q7 q8 q38 q39 qs qd
 have q7:=r7
 have q8:=r8
 have q38:=r38
 have q39:=r39
 have q40:=r40
 have qs:=rs
 have qd:=rd
 clear r7 r8 r38 r39 r40 rs rd
 refine wpAny_take (i:=3) (oi:=opN rOps9 3) (v:=.slice (some ⟨b,k*Ty.thread.sz,none⟩) (m-k) (cap-k)) n9i3 (by kernel_rfl) (by kernel_rfl) (by kernel_rfl) (fun _ _ _ h=>by obtain ⟨h,_⟩:=h;cases h) (.inl ⟨by simp [Region.wanted,n9g3],fun w=>ZsQ hkm hle w n9p3 q39 q40⟩) ?_
 rw [n9d3]
 have r7:(a3.put (some 41) (.slice (some ⟨b,k*Ty.thread.sz,none⟩) (m-k) (cap-k))).eval (.tmp 7)=.slice (some ⟨b,0,none⟩) m cap:=(ZaC (by omega)).trans q7
 have r8:(a3.put (some 41) (.slice (some ⟨b,k*Ty.thread.sz,none⟩) (m-k) (cap-k))).eval (.tmp 8)=.int .i64 k:=(ZaC (by omega)).trans q8
 have r38:(a3.put (some 41) (.slice (some ⟨b,k*Ty.thread.sz,none⟩) (m-k) (cap-k))).eval (.tmp 38)=.int .i64 k:=(ZaC (by omega)).trans q38
 have r39:(a3.put (some 41) (.slice (some ⟨b,k*Ty.thread.sz,none⟩) (m-k) (cap-k))).eval (.tmp 39)=.slice (some ⟨b,0,none⟩) m cap:=(ZaC (by omega)).trans q39
 have r40:(a3.put (some 41) (.slice (some ⟨b,k*Ty.thread.sz,none⟩) (m-k) (cap-k))).eval (.tmp 40)=.int .i64 k:=(ZaC (by omega)).trans q40
 have r41:(a3.put (some 41) (.slice (some ⟨b,k*Ty.thread.sz,none⟩) (m-k) (cap-k))).eval (.tmp 41)=.slice (some ⟨b,k*Ty.thread.sz,none⟩) (m-k) (cap-k):=ZbO (by omega)
 have rs:(a3.put (some 41) (.slice (some ⟨b,k*Ty.thread.sz,none⟩) (m-k) (cap-k))).tmps.size=48:=put_size.trans qs
 have rd:(a3.put (some 41) (.slice (some ⟨b,k*Ty.thread.sz,none⟩) (m-k) (cap-k))).defers=[]:=qd
 generalize a3.put (some 41) (.slice (some ⟨b,k*Ty.thread.sz,none⟩) (m-k) (cap-k))=a4 at *
 clear q7 q8 q38 q39 q40 qs qd
 have q7:=r7
 have q8:=r8
 have q38:=r38
 have q39:=r39
 have q40:=r40
 have q41:=r41
 have qs:=rs
 have qd:=rd
 clear r7 r8 r38 r39 r40 r41 rs rd
 refine wpAny_take (i:=4) (oi:=opN rOps9 4) (v:=.slice (some ⟨b,0,none⟩) m cap) n9i4 (by kernel_rfl) (by kernel_rfl) (by kernel_rfl) (fun _ _ _ h=>by obtain ⟨h,_⟩:=h;cases h) (.inl ⟨by simp [Region.wanted,n9g4],fun w=>by simp [execOp,n9p4,q7]⟩) ?_
 rw [n9d4]
 have r7:(a4.put (some 42) (.slice (some ⟨b,0,none⟩) m cap)).eval (.tmp 7)=.slice (some ⟨b,0,none⟩) m cap:=(ZaC (by omega)).trans q7
 have r8:(a4.put (some 42) (.slice (some ⟨b,0,none⟩) m cap)).eval (.tmp 8)=.int .i64 k:=(ZaC (by omega)).trans q8
 have r38:(a4.put (some 42) (.slice (some ⟨b,0,none⟩) m cap)).eval (.tmp 38)=.int .i64 k:=(ZaC (by omega)).trans q38
 have r39:(a4.put (some 42) (.slice (some ⟨b,0,none⟩) m cap)).eval (.tmp 39)=.slice (some ⟨b,0,none⟩) m cap:=(ZaC (by omega)).trans q39
 have r40:(a4.put (some 42) (.slice (some ⟨b,0,none⟩) m cap)).eval (.tmp 40)=.int .i64 k:=(ZaC (by omega)).trans q40
 have r41:(a4.put (some 42) (.slice (some ⟨b,0,none⟩) m cap)).eval (.tmp 41)=.slice (some ⟨b,k*Ty.thread.sz,none⟩) (m-k) (cap-k):=(ZaC (by omega)).trans q41
 have r42:(a4.put (some 42) (.slice (some ⟨b,0,none⟩) m cap)).eval (.tmp 42)=.slice (some ⟨b,0,none⟩) m cap:=ZbO (by omega)
 have rs:(a4.put (some 42) (.slice (some ⟨b,0,none⟩) m cap)).tmps.size=48:=put_size.trans qs
 have rd:(a4.put (some 42) (.slice (some ⟨b,0,none⟩) m cap)).defers=[]:=qd
 generalize a4.put (some 42) (.slice (some ⟨b,0,none⟩) m cap)=a5 at *
 clear q7 q8 q38 q39 q40 q41 qs qd
 have q7:=r7
 have q8:=r8
 have q38:=r38
 have q39:=r39
 have q40:=r40
 have q41:=r41
 have q42:=r42
 have qs:=rs
 have qd:=rd
 clear r7 r8 r38 r39 r40 r41 r42 rs rd
 refine wpAny_take (i:=5) (oi:=opN rOps9 5) (v:=.int .i64 k) n9i5 (by kernel_rfl) (by kernel_rfl) (by kernel_rfl) (fun _ _ _ h=>by obtain ⟨h,_⟩:=h;cases h) (.inl ⟨by simp [Region.wanted,n9g5],fun w=>by simp [execOp,n9p5,q8]⟩) ?_
 rw [n9d5]
 have r7:(a5.put (some 43) (.int .i64 k)).eval (.tmp 7)=.slice (some ⟨b,0,none⟩) m cap:=(ZaC (by omega)).trans q7
 have r8:(a5.put (some 43) (.int .i64 k)).eval (.tmp 8)=.int .i64 k:=(ZaC (by omega)).trans q8
 have r38:(a5.put (some 43) (.int .i64 k)).eval (.tmp 38)=.int .i64 k:=(ZaC (by omega)).trans q38
 have r39:(a5.put (some 43) (.int .i64 k)).eval (.tmp 39)=.slice (some ⟨b,0,none⟩) m cap:=(ZaC (by omega)).trans q39
 have r40:(a5.put (some 43) (.int .i64 k)).eval (.tmp 40)=.int .i64 k:=(ZaC (by omega)).trans q40
 have r41:(a5.put (some 43) (.int .i64 k)).eval (.tmp 41)=.slice (some ⟨b,k*Ty.thread.sz,none⟩) (m-k) (cap-k):=(ZaC (by omega)).trans q41
 have r42:(a5.put (some 43) (.int .i64 k)).eval (.tmp 42)=.slice (some ⟨b,0,none⟩) m cap:=(ZaC (by omega)).trans q42
 have r43:(a5.put (some 43) (.int .i64 k)).eval (.tmp 43)=.int .i64 k:=ZbO (by omega)
 have rs:(a5.put (some 43) (.int .i64 k)).tmps.size=48:=put_size.trans qs
 have rd:(a5.put (some 43) (.int .i64 k)).defers=[]:=qd
 generalize a5.put (some 43) (.int .i64 k)=a6 at *
 clear q7 q8 q38 q39 q40 q41 q42 qs qd
 have q7:=r7
 have q8:=r8
 have q38:=r38
 have q39:=r39
 have q40:=r40
 have q41:=r41
 have q42:=r42
 have q43:=r43
 have qs:=rs
 have qd:=rd
 clear r7 r8 r38 r39 r40 r41 r42 r43 rs rd
 refine wpAny_take (i:=6) (oi:=opN rOps9 6) (v:=.slice (some ⟨b,0,none⟩) k cap) n9i6 (by kernel_rfl) (by kernel_rfl) (by kernel_rfl) (fun _ _ _ h=>by obtain ⟨h,_⟩:=h;cases h) (.inl ⟨by simp [Region.wanted,n9g6],fun w=>Zvt hk1 hkm hle w n9p6 q42 q43⟩) ?_
 rw [n9d6]
 have r7:(a6.put (some 44) (.slice (some ⟨b,0,none⟩) k cap)).eval (.tmp 7)=.slice (some ⟨b,0,none⟩) m cap:=(ZaC (by omega)).trans q7
 have r8:(a6.put (some 44) (.slice (some ⟨b,0,none⟩) k cap)).eval (.tmp 8)=.int .i64 k:=(ZaC (by omega)).trans q8
 have r38:(a6.put (some 44) (.slice (some ⟨b,0,none⟩) k cap)).eval (.tmp 38)=.int .i64 k:=(ZaC (by omega)).trans q38
 have r39:(a6.put (some 44) (.slice (some ⟨b,0,none⟩) k cap)).eval (.tmp 39)=.slice (some ⟨b,0,none⟩) m cap:=(ZaC (by omega)).trans q39
 have r40:(a6.put (some 44) (.slice (some ⟨b,0,none⟩) k cap)).eval (.tmp 40)=.int .i64 k:=(ZaC (by omega)).trans q40
 have r41:(a6.put (some 44) (.slice (some ⟨b,0,none⟩) k cap)).eval (.tmp 41)=.slice (some ⟨b,k*Ty.thread.sz,none⟩) (m-k) (cap-k):=(ZaC (by omega)).trans q41
 have r42:(a6.put (some 44) (.slice (some ⟨b,0,none⟩) k cap)).eval (.tmp 42)=.slice (some ⟨b,0,none⟩) m cap:=(ZaC (by omega)).trans q42
 have r43:(a6.put (some 44) (.slice (some ⟨b,0,none⟩) k cap)).eval (.tmp 43)=.int .i64 k:=(ZaC (by omega)).trans q43
 have r44:(a6.put (some 44) (.slice (some ⟨b,0,none⟩) k cap)).eval (.tmp 44)=.slice (some ⟨b,0,none⟩) k cap:=ZbO (by omega)
 have rs:(a6.put (some 44) (.slice (some ⟨b,0,none⟩) k cap)).tmps.size=48:=put_size.trans qs
 have rd:(a6.put (some 44) (.slice (some ⟨b,0,none⟩) k cap)).defers=[]:=qd
 generalize a6.put (some 44) (.slice (some ⟨b,0,none⟩) k cap)=a7 at *
 clear q7 q8 q38 q39 q40 q41 q42 q43 qs qd
 have q7:=r7
 have q8:=r8
 have q38:=r38
 have q39:=r39
 have q40:=r40
 have q41:=r41
 have q42:=r42
 have q43:=r43
 have q44:=r44
 have qs:=rs
 have qd:=rd
 clear r7 r8 r38 r39 r40 r41 r42 r43 r44 rs rd
 have hjk:j<=k:=by omega
 have hjm:k+j<=m:=by omega
 have hLj:(L.take j).length=j:=by simp;omega
 have hcur:cur.size=cap*Ty.thread.sz:=hat.2
 have hheap:w1.heap[b]?=some (.cells cur 57 (0,0)):=hat.1
 have hmc:m*Ty.thread.sz<=cap*Ty.thread.sz:=Nat.mul_le_mul_right _ hle
 have hjc:j*Ty.thread.sz<=m*Ty.thread.sz:=Nat.mul_le_mul_right _ (by omega)
 have hkjc:k*Ty.thread.sz+j*Ty.thread.sz<=m*Ty.thread.sz:=by rw [<- Nat.add_mul];exact Nat.mul_le_mul_right _ hjm
 have hcl:(cur.toList.take (j*Ty.thread.sz)).length=j*Ty.thread.sz:=by simp;omega
 have hdj:(cx w1 [(65984,AV.row 57 .thread L)] mu ok).DVs ((L.take j).map Ty.thread.enc).flatten (cur.toList.take (j*Ty.thread.sz)):=by
   have h1:=hds.take (j*Ty.thread.sz)
   rw [List.take_take,Nat.min_eq_left hjc] at h1
   have e1:((L.take j).map Ty.thread.enc).flatten=(L.map Ty.thread.enc).flatten.take (j*Ty.thread.sz):=by
     have e:(L.map Ty.thread.enc).flatten=((L.take j).map Ty.thread.enc).flatten++((L.drop j).map Ty.thread.enc).flatten:=by
       rw [<- List.flatten_append,<- List.map_append,List.take_append_drop]
     have hl:((L.take j).map Ty.thread.enc).flatten.length=j*Ty.thread.sz:=by rw [Zbn,hLj]
     rw [e,List.take_left' hl]
   rw [e1];exact h1
 have hone:∀ v∈cur.toList.take (j*Ty.thread.sz),v.oneCell'=true:=by
   intro v hv'
   obtain ⟨i,hi,hiv⟩:=List.getElem_of_mem hv'
   have hg:(cur.toList.take (j*Ty.thread.sz))[i]?=some v:=by rw [List.getElem?_eq_getElem hi,hiv]
   have hlt:i<(((L.take j).map Ty.thread.enc).flatten).length:=by rw [hdj.length];exact hi
   obtain ⟨v',h1,h2⟩:=hdj.get i _ (List.getElem?_eq_getElem hlt)
   rw [hg] at h1
   obtain rfl:=Option.some.inj h1
   exact h2.one
 have hmin:Nat.min k (m-k)=j:=hj.symm
 have hcopy:=Zpx (P:=Tryz.prog) w1 32 32 3 57 b (k*Ty.thread.sz) (m-k) (cap-k) ⟨b,0,none⟩ k cap cur 57 (cur.toList.take (j*Ty.thread.sz)) Ty.thread.sz ZoJ Zqt hheap (by rw [hcl,hmin]) (fun i v hi=>by
   have hadd:(⟨b,0,none⟩:Addr).add i=⟨b,i,none⟩:=by
     simp [Addr.add]
     intro h;exact h.symm
   rw [hadd,ZAf hheap]
   rw [List.getElem?_take] at hi
   split at hi
   . simpa using hi
   . cases hi) (by rw [hcl,hcur];omega) hone
 rw [hmin,hcl] at hcopy
 obtain ⟨hmono,hmem⟩:=Zsv (k:=k) (ys:=L.take j) hm hrow hmu hat (by rw [hL];exact hle) hcap (by rw [hL];exact hds) hdj (by rw [hLj,hL];exact hjm)
 rw [hcl,hLj] at hmono hmem
 generalize hw2:w1.setRow b (cur.toList.take (k*Ty.thread.sz)++cur.toList.take (j*Ty.thread.sz)++cur.toList.drop (k*Ty.thread.sz+j*Ty.thread.sz)).toArray=w2 at *
 have hown7:Mill.V (cx w2 ((65984,AV.row 57 .thread (L.take k++L.take j++L.drop (k+j)))::[(65984,AV.row 57 .thread L)]) mu ok) (.own 65984) (.slice (some ⟨b,0,none⟩) m cap):=by
   have:Mill.V (cx w1 [(65984,AV.row 57 .thread L)] mu ok) (.own 65984) (.slice (some ⟨b,0,none⟩) m cap):=by rw [<- hv];exact h7
   exact hmono.v _ _ this
 refine wpAny_all (rs:=[7]) (by kernel_rfl) (by simp) fun i hi=>?_
 simp only [List.mem_singleton] at hi
 subst hi
 unfold wpOp
 rw [n9i7]
 simp only
 rw [if_pos (by simp [Region.wanted,n9g7])]
 refine .inl ?_
 unfold Oper.wp
 have hrun:(execOp a7.eval (opN rOps9 7)).run Tryz.prog w1=.ok (.value (.int .i64 j)) w2:=by
   have hty:(opN rOps9 7).type=3:=by kernel_rfl
   refine ZdA (V:=rE) (o:=opN rOps9 7) (b:=.copy) n9p7 rfl ?_
   have hargs:(#[Operand.tmp 41,Operand.tmp 44]:Array Operand).map a7.eval=#[.slice (some ⟨b,k*Ty.thread.sz,none⟩) (m-k) (cap-k),.slice (some ⟨b,0,none⟩) k cap]:=by
     simp [q41,q44]
   show (builtin .copy #[32,32] (opN rOps9 7).type _ ((#[Operand.tmp 41,Operand.tmp 44]:Array Operand).map a7.eval)).run Tryz.prog w1=_
   rw [hargs,hty]
   simp only [builtin,Sem.run_bind,hcopy,Result.andThen_ok]
   rfl
 rw [hrun]
 show wpAny _ _ _ _ _ _ _ _
 rw [n9d7]
 have r7:(a7.put (some 45) (.int .i64 j)).eval (.tmp 7)=.slice (some ⟨b,0,none⟩) m cap:=(ZaC (by omega)).trans q7
 have r38:(a7.put (some 45) (.int .i64 j)).eval (.tmp 38)=.int .i64 k:=(ZaC (by omega)).trans q38
 have r45:(a7.put (some 45) (.int .i64 j)).eval (.tmp 45)=.int .i64 j:=ZbO (by omega)
 have rs:(a7.put (some 45) (.int .i64 j)).tmps.size=48:=put_size.trans qs
 have rd:(a7.put (some 45) (.int .i64 j)).defers=[]:=qd
 generalize a7.put (some 45) (.int .i64 j)=a8 at *
 refine wpAny_take (i:=8) (oi:=opN rOps9 8) (v:=.int .i64 ((k:Int)+j)) n9i8 (by kernel_rfl) (by kernel_rfl) (by kernel_rfl) (fun _ _ _ h=>by obtain ⟨h,_⟩:=h;cases h) (.inl ⟨by simp [Region.wanted,n9g8],fun w=>ZwJ k j w (by omega) (by omega) (by omega) n9p8 r38 r45⟩) ?_
 rw [n9d8]
 have t7:(a8.put (some 46) (.int .i64 ((k:Int)+j))).eval (.tmp 7)=.slice (some ⟨b,0,none⟩) m cap:=(ZaC (by omega)).trans r7
 have t46:(a8.put (some 46) (.int .i64 ((k:Int)+j))).eval (.tmp 46)=.int .i64 ((k:Int)+j):=ZbO (by omega)
 have ts:(a8.put (some 46) (.int .i64 ((k:Int)+j))).tmps.size=48:=put_size.trans rs
 have td:(a8.put (some 46) (.int .i64 ((k:Int)+j))).defers=[]:=rd
 generalize a8.put (some 46) (.int .i64 ((k:Int)+j))=a9 at *
 refine wpAny_take (i:=9) (oi:=opN rOps9 9) (v:=.int .i64 ((k:Int)+j)) n9i9 (by kernel_rfl) (by kernel_rfl) (by kernel_rfl) (fun _ _ _ h=>by obtain ⟨h,_⟩:=h;cases h) (.inl ⟨by simp [Region.wanted,n9g9],fun w=>by simp [execOp,n9p9,t46]⟩) ?_
 rw [n9d9]
 have hrd:Region.ready .any rOps9 (((((((((((Array.replicate 10 false).setIfInBounds 0 true).setIfInBounds 1 true).setIfInBounds 2 true).setIfInBounds 3 true).setIfInBounds 4 true).setIfInBounds 5 true).setIfInBounds 6 true).setIfInBounds 7 true).setIfInBounds 8 true).setIfInBounds 9 true)=[]:=by kernel_rfl
 refine wpAny_done hrd ⟨rfl,?_⟩ 0
 refine ZyH hmem (Zr9 _ _ _) (put_size.trans ts) td ?_ ?_
 . rw [show (a9.put (some 8) (.int .i64 ((k:Int)+j))).eval (.tmp 7)=_ from (ZaC (by omega)).trans t7]
   exact hown7
 . rw [ZbO (by omega)]
   simp
theorem Zwu:Zq1=.seq rL1 (.block 1 (.region 9 rOps9 true)):=by kernel_rfl
theorem Zup {w0 w:World} {ok:Nat->Prop} {σ:St} {a:Act} {hd:List AV} {x:rVB.α} (hh:Holds T w0 ok 48 [] σ a w) (hn:ZgO Zml σ=some hd) (hx:rVB.dec hd=some x):Holds T w0 ok 48 [] (rSt x.1 x.2) a w:=by
 have:=ZpK (J:=T) (fun _ _ _ _ _=>trivial) hh hn
 have hl:=rVB.law _ _ hx
 rw [hl] at this
 exact this
theorem ZAr {w0:World} {ok:Nat->Prop} {y:Thread} {m:Nat}:∀ (n k:Nat) (a:Act) (w:World),m-k<=n->1<=k->k<=m->Holds T w0 ok 48 [] (rSt (repL m k y) k) a w ->
   Zd6 none Tryz.prog Zq1 (fun e a' w'=>e=.exit 0/\Holds T w0 ok 48 [] (rSt (repL m m y) m) a' w') a w:=by
 intro n
 induction n with
 | zero =>
   intro k a w h1 h2 h3 hh
   have hkm:k=m:=by omega
   subst hkm
   have hlen:(repL k k y).length=k:=Zpv (by omega)
   have ht:Zql rE (repL k k y,(k:Int))=some (false,repL k k y,(k:Int)):=by
     refine (rk1 _).trans ?_
     show Zot (repL k k y,(k:Int))=_
     unfold Zot
     rw [decide_eq_false (by show ¬((k:Int)<((repL k k y).length:Int));omega)];rfl
   unfold Zql at ht
   rw [Zwu]
   refine Zc6 (wpIn_seq (ZbM rG Stays.triv hh ht fun e σ' a' w' hh' h'=>?_))
   cases e with
   | goto l=>cases h'
   | ret=>cases h'
   | normal =>
     simp only at h'
     (repeat' (split at h')) <;> first | (cases h';done) | (have hb:=congrArg (Option.map Prod.fst) h';cases hb)
   | exit id =>
     cases id with
     | zero =>
       simp only at h'
       split at h'
       case h_2=>cases h'
       rename_i hd hn
       split at h'
       case h_2=>cases h'
       rename_i x hx
       have hx2:x=(repL k k y,(k:Int)):=congrArg Prod.snd (Option.some.inj h')
       subst hx2
       exact ⟨rfl,Zup hh' hn hx⟩
     | succ id=>cases h'
 | succ n ih =>
   intro k a w h1 h2 h3 hh
   have hlen:(repL m k y).length=m:=Zpv (by omega)
   by_cases hkm:k<m
   . have ht:Zql rE (repL m k y,(k:Int))=some (true,repL m k y,(k:Int)):=by
       refine (rk1 _).trans ?_
       show Zot (repL m k y,(k:Int))=_
       unfold Zot
       rw [decide_eq_true (by show (k:Int)<((repL m k y).length:Int);omega)];rfl
     unfold Zql at ht
     rw [Zwu]
     refine Zc6 (wpIn_seq (ZbM rG Stays.triv hh ht fun e σ' a' w' hh' h'=>?_))
     cases e with
     | goto l=>cases h'
     | ret=>cases h'
     | exit id =>
       cases id with
       | zero =>
         simp only at h'
         (repeat' (split at h')) <;> first | (cases h';done) | (have hb:=congrArg (Option.map Prod.fst) h';cases hb)
       | succ id=>cases h'
     | normal =>
       simp only at h'
       split at h'
       case h_2=>cases h'
       rename_i hd hn
       split at h'
       case h_2=>cases h'
       rename_i x hx
       have hx2:x=(repL m k y,(k:Int)):=congrArg Prod.snd (Option.some.inj h')
       subst hx2
       have h4:Holds T w0 ok 48 [] (rSt (repL m k y) k) a' w':=Zup hh' hn hx
       refine wpIn_block (Go.Code.wpIn_mono (fun e a2 w2 he=>?_) (rep9 (j:=min k (m-k)) hlen h2 hkm rfl h4))
       obtain ⟨rfl,h5⟩:=he
       show Zd6 _ _ _ _ a2 w2
       have hm:=Zx8 (y:=y) (show min k (m-k)<=k by omega) (show k+min k (m-k)<=m by omega)
       have h5:Holds T w0 ok 48 [] (rSt ((repL m k y).take k++(repL m k y).take (min k (m-k))++(repL m k y).drop (k+min k (m-k))) ((k+min k (m-k):Nat):Int)) a2 w2:=h5
       rw [hm] at h5
       exact Zwu ▸ ih (k+min k (m-k)) a2 w2 (by omega) (by omega) (by omega) h5
   . have hkm:k=m:=by omega
     subst hkm
     exact ih k a w (by omega) h2 (by omega) hh
theorem rep7 {w0 w:World} {ok:Nat->Prop} {a:Act} {y:Thread} {m:Nat} (hm1:1<=m) (hh:Holds T w0 ok 48 [] (build Ztv (rVA.enc ([y],List.replicate m Zaw))) a w) :
   (Code.region 7 rOps7 false).wpIn (Za4 none) 0 Tryz.prog (fun e a' w'=>e=.normal/\Holds T w0 ok 48 [] (rSt (repL m 1 y) (1:Nat)) a' w') a w:=by
 obtain ⟨mu,hr,_⟩:=hh
 have hob:(build Ztv (rVA.enc ([y],List.replicate m Zaw))).ob=[(65984,.row 57 .thread (List.replicate m Zaw))]:=by kernel_rfl
 have h7:=Zf8 hr 7 (x:=.own 65984) (by kernel_rfl)
 have h0:=Zf8 hr 0 (x:=.lst .thread [y]) (by kernel_rfl)
 have hs:=hr.size
 have hd:=hr.defers
 have hm:=hr.mem
 clear hr
 rw [hob] at h7 h0 hm
 have hL:(List.replicate m Zaw:List Ty.thread.den).length=m:=List.length_replicate
 have hrow:look [(65984,AV.row 57 .thread (List.replicate m Zaw:List Ty.thread.den))] 65984=.row 57 .thread (List.replicate m Zaw:List Ty.thread.den):=look_eq _ _ _
 obtain ⟨b,cap,cur,hmu,hat,hle,hcap,hds,hv⟩:=ZvW hm hrow h7 (fun e=>by rw [e] at hL;simp at hL;omega)
 rw [hL] at hle hds hv
 obtain ⟨A,n1,cap1,hu,hn1,hsrc⟩:=Src.of_dv (show (cx w [(65984,AV.row 57 .thread (List.replicate m Zaw:List Ty.thread.den))] mu ok).DV _ (a.eval (.tmp 0)) from h0)
 have hn1:n1=1:=hn1
 subst hn1
 obtain ⟨b',off,rfl,hcells⟩:=hsrc (by simp)
 obtain ⟨cs,hcs1,hcs2⟩:∃ cs:List Value,(cx w [(65984,AV.row 57 .thread (List.replicate m Zaw:List Ty.thread.den))] mu ok).DVs (([y]:List Ty.thread.den).map Ty.thread.enc).flatten cs/\∀ j v,cs[j]?=some v->w.cell? ⟨b',off+j,none⟩=some v:=by
   refine ⟨(List.range (([y]:List Ty.thread.den).map Ty.thread.enc).flatten.length).map fun j=>(w.cell? ⟨b',off+j,none⟩).getD undef,Cx.DVs.mk (by rw [List.length_map,List.length_range]) fun i d v hd' hv'=>?_,fun j v hj=>?_⟩
   . obtain ⟨u,k1,k2⟩:=hcells i d hd'
     have k1:w.cell? ⟨b',off+i,none⟩=some u:=k1
     have hi:i<(([y]:List Ty.thread.den).map Ty.thread.enc).flatten.length:=(List.getElem?_eq_some_iff.1 hd').1
     rw [List.getElem?_map,List.getElem?_range hi] at hv'
     simp only [Option.map_some,Option.some.injEq] at hv'
     rw [k1] at hv'
     obtain rfl:u=v:=hv'
     exact k2
   . have hi:j<(([y]:List Ty.thread.den).map Ty.thread.enc).flatten.length:=by
       have:=(List.getElem?_eq_some_iff.1 hj).1
       rw [List.length_map,List.length_range] at this
       exact this
     obtain ⟨u,k1,k2⟩:=hcells j _ (List.getElem?_eq_getElem hi)
     have k1:w.cell? ⟨b',off+j,none⟩=some u:=k1
     rw [List.getElem?_map,List.getElem?_range hi] at hj
     simp only [Option.map_some,Option.some.injEq] at hj
     rw [k1] at hj ⊢
     exact congrArg some hj
 have hcl:cs.length=Ty.thread.sz:=by rw [<- hcs1.length,Zbn];exact Nat.one_mul _
 have hone:∀ v∈cs,v.oneCell'=true:=by
   intro v hv'
   obtain ⟨i,hi,hiv⟩:=List.getElem_of_mem hv'
   have hg:cs[i]?=some v:=by rw [List.getElem?_eq_getElem hi,hiv]
   have hlt:i<((([y]:List Ty.thread.den).map Ty.thread.enc).flatten).length:=by rw [hcs1.length];exact hi
   obtain ⟨v',k1,k2⟩:=hcs1.get i _ (List.getElem?_eq_getElem hlt)
   rw [hg] at k1
   obtain rfl:=Option.some.inj k1
   exact k2.one
 have hcur:cur.size=cap*Ty.thread.sz:=hat.2
 have hheap:w.heap[b]?=some (.cells cur 57 (0,0)):=hat.1
 have hfit:0+cs.length<=cur.size:=by
   rw [hcl,hcur]
   have:1*Ty.thread.sz<=cap*Ty.thread.sz:=Nat.mul_le_mul_right _ (by omega)
   omega
 have hmin:Nat.min 1 m=1:=Nat.min_eq_left hm1
 have hcopy:=Zpx (P:=Tryz.prog) w 32 32 3 57 b 0 m cap ⟨b',off,none⟩ 1 cap1 cur 57 cs Ty.thread.sz ZoJ Zqt hheap (by rw [hcl,hmin];omega) (fun i v hi=>by
   have hadd:(⟨b',off,none⟩:Addr).add i=⟨b',off+i,none⟩:=by
     unfold Addr.add
     split <;> simp_all
   rw [hadd]
   exact hcs2 i v hi) hfit hone
 rw [hmin] at hcopy
 obtain ⟨hmono,hmem⟩:=Zsv (k:=0) (ys:=([y]:List Ty.thread.den)) hm hrow hmu hat (by rw [hL];exact hle) hcap (by rw [hL];exact hds) hcs1 (by rw [hL];show 0+1<=m;omega)
 have hz:0*Ty.thread.sz=0:=by omega
 rw [hz] at hmono hmem
 have hfl:((List.replicate m Zaw:List Ty.thread.den).take 0++([y]:List Ty.thread.den)++(List.replicate m Zaw:List Ty.thread.den).drop (0+([y]:List Ty.thread.den).length))=repL m 1 y:=ZxL hm1
 rw [hfl] at hmono hmem
 generalize w.setRow b (cur.toList.take 0++cs++cur.toList.drop (0+cs.length)).toArray=w2 at *
 have hown7:Mill.V (cx w2 ((65984,AV.row 57 .thread (repL m 1 y:List Ty.thread.den))::[(65984,AV.row 57 .thread (List.replicate m Zaw:List Ty.thread.den))]) mu ok) (.own 65984) (.slice (some ⟨b,0,none⟩) m cap):=by
   have:Mill.V (cx w [(65984,AV.row 57 .thread (List.replicate m Zaw:List Ty.thread.den))] mu ok) (.own 65984) (.slice (some ⟨b,0,none⟩) m cap):=by rw [<- hv];exact h7
   exact hmono.v _ _ this
 refine wpIn_region_list ?_
 have hl:rOps7.toList=[opN rOps7 0]++([opN rOps7 1]++([opN rOps7 2]++([opN rOps7 3]++[]))):=by kernel_rfl
 have p0:(opN rOps7 0).op=.move (.tmp 7):=by kernel_rfl
 have p1:(opN rOps7 1).op=.move (.tmp 0):=by kernel_rfl
 have p2:(opN rOps7 2).op=.call { callee:=.builtin .copy,args:=#[.tmp 31,.tmp 32],argTypes:=#[32,32] }:=by kernel_rfl
 have p3:(opN rOps7 3).op=.assign (.tmp 33):=by kernel_rfl
 have g0:(opN rOps7 0).guard=none:=by kernel_rfl
 have g1:(opN rOps7 1).guard=none:=by kernel_rfl
 have g2:(opN rOps7 2).guard=none:=by kernel_rfl
 have g3:(opN rOps7 3).guard=none:=by kernel_rfl
 have d0:(opN rOps7 0).dst=some 31:=by kernel_rfl
 have d1:(opN rOps7 1).dst=some 32:=by kernel_rfl
 have d2:(opN rOps7 2).dst=some 33:=by kernel_rfl
 have d3:(opN rOps7 3).dst=some 8:=by kernel_rfl
 have nd:∀ {o:Oper} {x:Go.Op},o.op=x->(∀ c,x≠Go.Op.defer c)->∀ c,o.op≠Go.Op.defer c:=fun h k c=>by rw [h];exact k c
 rw [hl]
 generalize opN rOps7 0=o0 at *
 generalize opN rOps7 1=o1 at *
 generalize opN rOps7 3=o3 at *
 have hty:(opN rOps7 2).type=3:=by kernel_rfl
 generalize opN rOps7 2=o2 at *
 refine Zde g0 (ZhH (u:=a.eval (.tmp 7)) (w':=w) (nd p0 (fun _ h=>by cases h)) (.inl (by simp [execOp,p0])) ?_)
 rw [d0]
 have x31:(a.put (some 31) (a.eval (.tmp 7))).eval (.tmp 31)=.slice (some ⟨b,0,none⟩) m cap:=(ZbO (by omega)).trans hv
 have x0:(a.put (some 31) (a.eval (.tmp 7))).eval (.tmp 0)=.slice (some ⟨b',off,none⟩) 1 cap1:=(ZaC (by omega)).trans hu
 have x7:(a.put (some 31) (a.eval (.tmp 7))).eval (.tmp 7)=.slice (some ⟨b,0,none⟩) m cap:=(ZaC (by omega)).trans hv
 have xs:(a.put (some 31) (a.eval (.tmp 7))).tmps.size=48:=put_size.trans hs
 have xd:(a.put (some 31) (a.eval (.tmp 7))).defers=[]:=hd
 generalize a.put (some 31) (a.eval (.tmp 7))=a1 at *
 refine Zde g1 (ZhH (u:=.slice (some ⟨b',off,none⟩) 1 cap1) (w':=w) (nd p1 (fun _ h=>by cases h)) (.inl (by simp [execOp,p1,x0])) ?_)
 rw [d1]
 have y31:(a1.put (some 32) (.slice (some ⟨b',off,none⟩) 1 cap1)).eval (.tmp 31)=.slice (some ⟨b,0,none⟩) m cap:=(ZaC (by omega)).trans x31
 have y32:(a1.put (some 32) (.slice (some ⟨b',off,none⟩) 1 cap1)).eval (.tmp 32)=.slice (some ⟨b',off,none⟩) 1 cap1:=ZbO (by omega)
 have y7:(a1.put (some 32) (.slice (some ⟨b',off,none⟩) 1 cap1)).eval (.tmp 7)=.slice (some ⟨b,0,none⟩) m cap:=(ZaC (by omega)).trans x7
 have ys:(a1.put (some 32) (.slice (some ⟨b',off,none⟩) 1 cap1)).tmps.size=48:=put_size.trans xs
 have yd:(a1.put (some 32) (.slice (some ⟨b',off,none⟩) 1 cap1)).defers=[]:=xd
 generalize a1.put (some 32) (.slice (some ⟨b',off,none⟩) 1 cap1)=a2 at *
 refine Zde g2 (ZhH (u:=.int .i64 1) (w':=w2) (nd p2 (fun _ h=>by cases h)) (.inl ?_) ?_)
 . refine ZdA (V:=rE) (o:=o2) (b:=.copy) p2 rfl ?_
   have hargs:(#[Operand.tmp 31,Operand.tmp 32]:Array Operand).map a2.eval=#[.slice (some ⟨b,0,none⟩) m cap,.slice (some ⟨b',off,none⟩) 1 cap1]:=by
     simp [y31,y32]
   show (builtin .copy #[32,32] o2.type _ ((#[Operand.tmp 31,Operand.tmp 32]:Array Operand).map a2.eval)).run Tryz.prog w=_
   rw [hargs,hty]
   simp only [builtin,Sem.run_bind,hcopy,Result.andThen_ok]
   rfl
 rw [d2]
 have z33:(a2.put (some 33) (.int .i64 1)).eval (.tmp 33)=.int .i64 1:=ZbO (by omega)
 have z7:(a2.put (some 33) (.int .i64 1)).eval (.tmp 7)=.slice (some ⟨b,0,none⟩) m cap:=(ZaC (by omega)).trans y7
 have zs:(a2.put (some 33) (.int .i64 1)).tmps.size=48:=put_size.trans ys
 have zd:(a2.put (some 33) (.int .i64 1)).defers=[]:=yd
 generalize a2.put (some 33) (.int .i64 1)=a3 at *
 refine Zde g3 (ZhH (u:=.int .i64 1) (w':=w2) (nd p3 (fun _ h=>by cases h)) (.inl (by simp [execOp,p3,z33])) ?_)
 rw [d3]
 refine ⟨rfl,ZyH hmem (Zr9 _ _ _) (put_size.trans zs) zd ?_ ?_⟩
 . rw [show (a3.put (some 8) (.int .i64 1)).eval (.tmp 7)=_ from (ZaC (by omega)).trans z7]
   exact hown7
 . rw [ZbO (by omega)]
   rfl
theorem ZC4:Tryz.f58.body=some (.seq rC0 (.seq rC1 (.seq rC3 (.seq rC4 (.seq rC6 (.seq (.region 7 rOps7 false) (.seq (.block 0 (.loop Zq1)) rEnd))))))):=by kernel_rfl
theorem Zz8 {xs:List Thread} {n:Int} {r:List Thread} (h:ZbF xs n=some r):∃ y m,xs=[y]/\1<=m/\r=List.replicate m y/\Zuw xs n=some (xs,List.replicate m Zaw):=by
 unfold ZbF at h
 split at h
 case h_2=>cases h
 rename_i y
 unfold Zuw
 rw [show ((([y]:List Thread).length:Nat):Int)=1 from rfl]
 cases h1:decide (n<(0:Int)) with
 | true=>rw [h1] at h;cases h
 | false =>
 rw [h1] at h
 simp only [cond_false] at h ⊢
 cases h2:ZdT (IntKind.u64.wrap 1,IntKind.u64.wrap n) with
 | none=>rw [h2] at h;cases h
 | some y1 =>
 rw [h2] at h
 simp only at h ⊢
 cases h3:decide (y1.fst>(0:Int)) with
 | true=>rw [h3] at h;cases h
 | false =>
 rw [h3] at h
 simp only [cond_false] at h ⊢
 cases h4:decide (y1.snd>(9223372036854775807:Int)) with
 | true=>rw [h4] at h;cases h
 | false =>
 rw [h4] at h
 simp only [cond_false] at h ⊢
 cases h5:decide ((1:Int)<=IntKind.i64.wrap y1.snd) with
 | false=>rw [h5] at h;cases h
 | true =>
 rw [h5] at h
 simp only [cond_true] at h
 have h5:=of_decide_eq_true h5
 cases h6:decide (IntKind.i64.wrap y1.snd<=Zbt) with
 | false=>rw [h6] at h;cases h
 | true =>
 rw [h6] at h
 simp only [cond_true,Option.some.injEq] at h
 refine ⟨y,(IntKind.i64.wrap y1.snd).toNat,rfl,by omega,h.symm,?_⟩
 rw [show (IntKind.i64.wrap y1.snd == IntKind.i64.wrap y1.snd)=true by simp,decide_eq_true (show (0:Int)<=IntKind.i64.wrap y1.snd by omega)]
 rfl
def ZuC (w:World) (ok:Nat->Prop) (y:List Thread) (e:Ending) (w':World):Prop:=∃ u,e=.returned u/\Below w.heap.size w w'/\Res w ok w' (rRes.enc y) u
set_option maxHeartbeats 1000000 in
theorem ok58:Zan Tryz.prog 58 s58:=by
 intro w ok avs vals x r hd hy hv
 obtain ⟨xs,n⟩:=x
 have hd:=(Zaa (Zap .thread) (Zad (Zae .i64))).law _ _ hd
 subst hd
 have hy:ZbF xs n=some r:=hy
 obtain ⟨y,m,rfl,hm1,rfl,hhead⟩:=Zz8 hy
 have hv:VL (pcx w ok) [.lst .thread [y],.i n] vals.toList:=hv
 obtain ⟨ok1,hok1⟩:∃ ok1:Nat->Prop,ok1=fun b=>ok b\/w.heap.size<=b:=⟨_,rfl⟩
 have hm:Mem w (cx w [] (fun _=>none) ok1) :=
   ⟨fun _=>rfl,fun _ _ _ h=>(by cases h),fun _ _ h=>(by cases h),Below.refl _ _,fun b hb=>.inl (by rw [hok1];exact .inr hb)⟩
 have hv':VL (cx w [] (fun _=>none) ok1) [.lst .thread [y],.i n] vals.toList:=by
   have hmono:Mono (pcx w ok) (cx w [] (fun _=>none) ok1):=Zdf (fun b hb=>⟨⟨by rw [hok1];exact .inl hb.1,hb.2.1,hb.2.2⟩,rfl⟩) (fun id=>.inl rfl) (fun _ _ h=>⟨h,rfl⟩)
   exact hmono.vl _ _ hv
 have hst:Holds T w ok1 48 [] ⟨ZbU 0 [.lst .thread [y],.i n],[]⟩ { tmps:=vals++Array.replicate (48-vals.size) undef,defers:=[] } w:=⟨_,Zfn hm hv' (by simp),trivial⟩
 have hnt:Tryz.f58.ntmps=48:=by kernel_rfl
 refine (show Calls rE.P 58 vals w (ZuC w ok (List.replicate m y)) from ?_)
 refine (callsIn_wide (n:=0)).1 (callsIn_of_wp_marks (F:=Fence.wide) (n:=0) Tryz.func58 ZC4 trivial ?_)
 rw [hnt]
 have h0:ZwH rE [y] n=some ([y],List.replicate m Zaw):=(rk0 [y] n).trans hhead
 unfold ZwH at h0
 refine wpIn_seq (ZbM rG Stays.triv hst h0 fun e1 σ1 a1 w1 hh1 h1=>?_)
 unfold rK0 at h1
 cases e1 with
 | exit id=>cases h1
 | goto id=>cases h1
 | ret=>cases h1
 | normal =>
 refine wpIn_seq (ZbM rG Stays.triv hh1 h1 fun e2 σ2 a2 w2 hh2 h2=>?_)
 unfold rK1 at h2
 cases e2 with
 | exit id=>cases h2
 | goto id=>cases h2
 | ret=>cases h2
 | normal =>
 refine wpIn_seq (ZbM rG Stays.triv hh2 h2 fun e3 σ3 a3 w3 hh3 h3=>?_)
 unfold rK3 at h3
 cases e3 with
 | exit id=>cases h3
 | goto id=>cases h3
 | ret=>cases h3
 | normal =>
 refine wpIn_seq (ZbM rG Stays.triv hh3 h3 fun e4 σ4 a4 w4 hh4 h4=>?_)
 unfold rK4 at h4
 cases e4 with
 | exit id=>cases h4
 | goto id=>cases h4
 | ret=>cases h4
 | normal =>
 refine wpIn_seq (ZbM rG Stays.triv hh4 h4 fun e6 σ6 a6 w6 hh6 h6=>?_)
 unfold rK6 at h6
 cases e6 with
 | exit id=>cases h6
 | goto id=>cases h6
 | ret=>cases h6
 | normal =>
 simp only at h6
 split at h6
 case h_2=>cases h6
 rename_i hd hn
 have hl:=rVA.law _ _ h6
 have hh7:=ZpK (J:=T) (fun _ _ _ _ _=>trivial) hh6 hn
 rw [hl] at hh7
 refine wpIn_seq (Go.Code.wpIn_mono (fun e a8 w8 he=>?_) (rep7 (y:=y) hm1 hh7))
 obtain ⟨rfl,hh8⟩:=he
 refine wpIn_seq (wpIn_block (Zgv (ZlX (ZAr (m-1) 1 a8 w8 (Nat.le_refl _) (Nat.le_refl _) hm1 hh8) fun e a9 w9 he=>?_)))
 obtain ⟨rfl,hh9⟩:=he
 show Exit.inBlock 0 _ (.exit 0) a9 w9
 unfold Exit.inBlock
 simp only [if_true]
 show rEnd.wpIn _ _ _ _ a9 w9
 rw [Zyt] at hh9
 have h9:rFin rE ((List.replicate m y,(m:Int)):List Thread×Int)=some (List.replicate m y):=rk2 _
 unfold rFin at h9
 refine ZbM rG Stays.triv hh9 h9 fun e10 σ10 a10 w10 hh10 h10=>?_
 cases e10 with
 | exit id=>cases h10
 | goto id=>cases h10
 | normal=>cases h10
 | ret =>
 obtain ⟨mu5,hr5,_⟩:=hh10
 obtain ⟨v,_,k1,k2⟩:=Rd.runK_val h10
 split at k2
 case h_2=>cases k2
 rename_i rr hx
 have hr:=rRes.law _ _ k2
 show LeavesInM Fence.wide 0 rE.P Tryz.f58 a10.tmps (ZuC w ok (List.replicate m y)) a10.defers .returning w10
 rw [<- Zqa,hr5.defers]
 refine Zjj (V:=rE) (n:=0) (fn:=Tryz.f58) (Rr:=ZuC w ok (List.replicate m y)) [] a10 w10 hr5 fun a6 w6 ht hr6 _=>?_
 obtain ⟨u,hu,huv⟩:=Zh6 hr6 k1
 rw [ht] at hu
 have key:Res w ok w6 rr u:=fun base=>by
   obtain ⟨ob2,os,mv⟩:=Zhj hx base
   obtain ⟨n,hfr⟩:=Zet base rr
   obtain ⟨mu2,hm2,hv2,_⟩:=Zjq hr6.mem mv hfr.2.2.2 (ob2:=Zay (ZbZ base rr).2 []) (fun p hp=>ZcX _ _ p hfr.2.2.2 hp) (fun i hi=>by rw [Zb3 _ _ _ hi];rfl)
   have h7:=(hv2 [u] ⟨huv,trivial⟩).1
   rw [hok1] at hm2 h7
   exact ⟨mu2,hm2,h7⟩
 rw [hr] at key
 exact ⟨u,hu,u,rfl,hr6.mem.ext,key⟩
end Go.Proofs.Mill
