/- A map of the call's own, of functions by numbers: made, written, looked up. -/
import Derived.Test.YtaopdopnecognaaGreatMillPrivFn
import Derived.Carry
import Derived.MapKept
set_option linter.all false
namespace Go.Proofs.Mill
open Go.RowKit Go.MapKept
def MapJ (m:Nat) (fs:List (Int×AV)) (c:Cx):Prop :=
 c.okb m/\∃ es clock,c.w.heap[m]?=some (.map es clock)/\es.toList.map (·.key)=fs.map (fun p=>Value.int .i64 p.1)/\VL c (fs.map (·.2)) (es.toList.map (·.val))
theorem MapJ.stays (m:Nat) (fs:List (Int×AV)):Stays (MapJ m fs):=by
 rintro c c' ⟨h1,es,clock,h2,h3,h4⟩ hm
 obtain ⟨k1,k2⟩:=hm.blk m h1
 exact ⟨k1,es,clock,k2.trans h2,h3,hm.vl _ _ h4⟩
theorem Zuj {P:Program} {w:World} {m:Nat} {es:Array MapEntry} {clock:Nat} (hb:w.heap[m]?=some (.map es clock)):(getObj m).run P w=.ok (.map es clock) w:=by
 simp [getObj,Sem.run,hb]
theorem ZkP {k:Int}:∀ (es:List MapEntry) (ks:List Int) (i:Nat),es.map (·.key)=ks.map (fun n=>Value.int .i64 n)->(ks.all fun n=>!(n == k))=true->Instr.findNow (.int .i64) (.int .i64 k) es i=some none
 | [],_,_,_,_=>rfl
 | e::es,[],_,h,_=>by simp at h
 | e :: es, n :: ks, i, h, hk => by
   simp only [List.map_cons,List.cons.injEq] at h
   simp only [List.all_cons,Bool.and_eq_true] at hk
   have hb:(k == n)=false:=by
     have h1:=hk.1
     simp only [Bool.not_eq_true',beq_eq_false_iff_ne,ne_eq] at h1
     simp only [beq_eq_false_iff_ne,ne_eq]
     exact fun e=>h1 e.symm
   unfold Instr.findNow
   rw [h.1]
   simp only [Instr.sameNow,if_true,hb]
   exact ZkP es ks (i+1) h.2 hk.2
theorem ZqM {k:Int}:∀ (es:List MapEntry) (ks:List Int) (i j:Nat),es.map (·.key)=ks.map (fun n=>Value.int .i64 n)->ks[j]?=some k->((ks.take j).all fun n=>!(n == k))=true ->
   ∃ e,es[j]?=some e/\Instr.findNow (.int .i64) (.int .i64 k) es i=some (some (i+j,e.val))
 | [],[],_,_,_,h,_=>by simp at h
 | [],_::_,_,_,h,_,_=>by simp at h
 | e::es,[],_,_,h,_,_=>by simp at h
 | e :: es, n :: ks, i, 0, h, hj, _ => by
   simp only [List.getElem?_cons_zero,Option.some.injEq] at hj
   subst hj
   simp only [List.map_cons,List.cons.injEq] at h
   refine ⟨e,rfl,?_⟩
   unfold Instr.findNow
   rw [h.1]
   simp [Instr.sameNow]
 | e :: es, n :: ks, i, j + 1, h, hj, hk => by
   simp only [List.getElem?_cons_succ] at hj
   simp only [List.map_cons,List.cons.injEq] at h
   simp only [List.take_succ_cons,List.all_cons,Bool.and_eq_true] at hk
   obtain ⟨e',h1,h2⟩:=ZqM es ks (i+1) j h.2 hj hk.2
   refine ⟨e',by simpa using h1,?_⟩
   have hb:(k == n)=false:=by
     have h1:=hk.1
     simp only [Bool.not_eq_true',beq_eq_false_iff_ne,ne_eq] at h1
     simp only [beq_eq_false_iff_ne,ne_eq]
     exact fun e=>h1 e.symm
   unfold Instr.findNow
   rw [h.1]
   simp only [Instr.sameNow,if_true,hb]
   rw [h2]
   congr 3
   omega
section
variable {V:Env} {w0 w:World} {ok:Nat->Prop} {nt:Nat} {σ:St} {a:Act} {m:Nat} {fs:List (Int×AV)} {K:Act->World->Prop} {Q:Exit->Act->World->Prop} {o:Oper}
theorem ZhH {P:Program} {u:Value} {w':World} (hd:∀ c,o.op≠.defer c) (h:(execOp a.eval o).run P w=.ok (.value u) w'\/((execOp a.eval o).run P w=.ok .skip w'/\u=undef)) (hk:K (a.put o.dst u) w'):o.wpIn (Za4 none) 0 P a w K Q:=by
 refine Zmw hd ?_
 unfold Oper.wp
 rcases h with h | ⟨h,rfl⟩
 . rw [h];exact hk
 . rw [h];exact hk
theorem Zzq {t:TypeId} {d:Nat} (hh:Holds T w0 ok nt [] σ a w) (ho:o.op=.makeMap t none) (hd:o.dst=some d) (hdn:d<nt)
   (hk:∀ m w',w0.heap.size<=m->Holds (MapJ m []) w0 ok nt [] ⟨(d,.cst (.map (some m)))::σ.tm,σ.ob⟩ (a.put (some d) (.map (some m))) w'->K (a.put (some d) (.map (some m))) w'):o.wpIn (Za4 none) 0 V.P a w K Q:=by
 obtain ⟨mu,hr,_⟩:=hh
 refine ZhH (u:=.map (some w.heap.size)) (w':=w.alloc (.map #[] 0)) (fun c e=>by rw [ho] at e;cases e) (.inl ?_) ?_
 . simp [execOp,ho,run_makeMap]
 . rw [hd]
   have hg:Turned w (w.alloc (.map #[] 0)) fun _=>False:=Zk6
   have hr1:=(hr.grow hg).set (dst:=some d) (v:=.cst (.map (some w.heap.size))) (u:=.map (some w.heap.size)) (by simpa [Zcv] using hdn) rfl
   refine hk w.heap.size _ hr.mem.ext.size ⟨mu,hr1,⟨hr.mem.new_ok (Nat.le_refl _),by simp,fun id e=>?_⟩,#[],0,heap_alloc_new w _,rfl,trivial⟩
   have:=hr.mem.lt e
   have:w.heap.size<w.heap.size:=this
   omega
theorem ZoK {t kt et:TypeId} {k:Int} {tm tv:Nat} {v:AV} {fs':List (Int×AV)} (hh:Holds (MapJ m fs) w0 ok nt [] σ a w) (hm0:w0.heap.size<=m) (ho:o.op=.insert t (.tmp tm) (.const (.int .i64 k)) (.tmp tv)) (hd:o.dst=none)
   (hu:V.P.underlying t=some (.map kt et)) (hkt:V.P.underlying kt=some (.int .i64)) (h1:look σ.tm tm=.cst (.map (some m))) (h2:look σ.tm tv=v) (hnew:(fs.all fun p=>!(p.1 == k))=true) (hfs:fs++[(k,v)]=fs')
   (hk:∀ w',Holds (MapJ m fs') w0 ok nt [] σ a w'->K a w'):o.wpIn (Za4 none) 0 V.P a w K Q:=by
 subst hfs
 obtain ⟨mu,hr,hokm,es,clock,hb,hkeys,hvals⟩:=hh
 have hb:w.heap[m]?=some (.map es clock):=hb
 have v1:a.eval (.tmp tm)=.map (some m):=by
   have:=ZaJ hr (.tmp tm)
   rw [show valOf σ (.tmp tm)=look σ.tm tm from rfl,h1] at this
   exact this
 have v2:=ZaJ hr (.tmp tv)
 rw [show valOf σ (.tmp tv)=look σ.tm tv from rfl,h2] at v2
 have hfind:Instr.findNow (.int .i64) (.int .i64 k) es.toList 0=some none:=ZkP es.toList (fs.map (·.1)) 0 (by rw [hkeys,List.map_map];rfl) (by rw [List.all_map];exact hnew)
 have hK:IsKey (.int .i64) (.int .i64 k):=rfl
 have hobj:=run_setObj_map (P:=V.P) (.map (es.push { key:=.int .i64 k,val:=a.eval (.tmp tv),born:=clock }) (clock+1)) hb
 refine ZhH (u:=undef) (w':=w.putObj m (.map (es.push { key:=.int .i64 k,val:=a.eval (.tmp tv),born:=clock }) (clock+1))) (fun c e=>by rw [ho] at e;cases e) (.inr ⟨?_,rfl⟩) ?_
 . have hc:a.eval (.const (.int .i64 k))=.int .i64 k:=rfl
   simp [execOp,ho,v1,hc,Instr.mapUpdate,run_underlying hu,Zuj hb,run_checkKey hkt hK,run_findKey hkt hfind,hobj,Result.andThen,World.putObj]
 . rw [hd]
   have ht:=ZcT w m (.map (es.push { key:=.int .i64 k,val:=a.eval (.tmp tv),born:=clock }) (clock+1))
   have hr1:=hr.turn ht hb rfl hm0 (fun _ h=>by cases h)
   have hmc:=ZhI (ob:=σ.ob) (mu:=mu) (ok:=ok) ht hb rfl
   have hlt:m<w.heap.size:=(Array.getElem?_eq_some_iff.1 hb).1
   refine hk _ ⟨mu,hr1,⟨hokm.1,by simpa using hokm.2.1,hokm.2.2⟩,_,_,World.putObj_heap_same hlt,?_,?_⟩
   . simp [hkeys]
   . rw [List.map_append]
     simp only [Array.toList_push,List.map_append,List.map_cons,List.map_nil]
     exact VL.append (hmc.vl _ _ hvals) ⟨hmc.v _ _ v2,trivial⟩
theorem Zli {t kt et:TypeId} {k:Int} {tm tk d j:Nat} {v:AV} (hh:Holds (MapJ m fs) w0 ok nt [] σ a w) (ho:o.op=.lookup t (.tmp tm) (.tmp tk) true) (hd:o.dst=some d) (hdn:d<nt)
   (hu:V.P.underlying t=some (.map kt et)) (hkt:V.P.underlying kt=some (.int .i64)) (h1:look σ.tm tm=.cst (.map (some m))) (h2:look σ.tm tk=.i k) (hj:fs[j]?=some (k,v)) (hne:((fs.take j).all fun p=>!(p.1 == k))=true)
   (hk:∀ a' w',Holds T w0 ok nt [] ⟨(d,.tup [v,.bool true])::σ.tm,σ.ob⟩ a' w'->K a' w'):o.wpIn (Za4 none) 0 V.P a w K Q:=by
 obtain ⟨mu,hr,hokm,es,clock,hb,hkeys,hvals⟩:=hh
 have hb:w.heap[m]?=some (.map es clock):=hb
 have v1:a.eval (.tmp tm)=.map (some m):=by
   have:=ZaJ hr (.tmp tm)
   rw [show valOf σ (.tmp tm)=look σ.tm tm from rfl,h1] at this
   exact this
 have v2:a.eval (.tmp tk)=.int .i64 k:=by
   have:=ZaJ hr (.tmp tk)
   rw [show valOf σ (.tmp tk)=look σ.tm tk from rfl,h2] at this
   exact this
 obtain ⟨e,he,hfind⟩:=ZqM (k:=k) es.toList (fs.map (·.1)) 0 j (by rw [hkeys,List.map_map];rfl) (by rw [List.getElem?_map,hj];rfl) (by rw [<- List.map_take,List.all_map];exact hne)
 have hK:IsKey (.int .i64) (.int .i64 k):=rfl
 refine ZhH (u:=.tuple #[e.val,.bool true]) (w':=w) (fun c e=>by rw [ho] at e;cases e) (.inl ?_) ?_
 . simp [execOp,ho,v1,v2,Instr.lookup,run_underlying hu,Zuj hb,run_checkKey hkt hK,run_findKey hkt hfind,Result.andThen]
 . rw [hd]
   have hv:Mill.V (cx w σ.ob mu ok) v e.val:=by
     obtain ⟨u,hu1,hu2⟩:=hvals.get j v (by rw [List.getElem?_map,hj];rfl)
     rw [List.getElem?_map,he] at hu1
     obtain rfl:=Option.some.inj hu1
     exact hu2
   exact hk _ _ ⟨mu,hr.set (dst:=some d) (v:=.tup [v,.bool true]) (by simpa [Zcv] using hdn) ⟨_,rfl,hv,rfl,trivial⟩,trivial⟩
theorem Zvy {t kt et:TypeId} {k:Int} {tm tk d:Nat} (hh:Holds (MapJ m fs) w0 ok nt [] σ a w) (ho:o.op=.lookup t (.tmp tm) (.tmp tk) true) (hd:o.dst=some d) (hdn:d<nt)
   (hu:V.P.underlying t=some (.map kt et)) (hkt:V.P.underlying kt=some (.int .i64)) (hz:(zeroValue et).run V.P w=.ok .nilFunc w) (h1:look σ.tm tm=.cst (.map (some m))) (h2:look σ.tm tk=.i k) (hne:(fs.all fun p=>!(p.1 == k))=true)
   (hk:∀ a' w',Holds T w0 ok nt [] ⟨(d,.tup [.cst .nilFunc,.bool false])::σ.tm,σ.ob⟩ a' w'->K a' w'):o.wpIn (Za4 none) 0 V.P a w K Q:=by
 obtain ⟨mu,hr,hokm,es,clock,hb,hkeys,hvals⟩:=hh
 have hb:w.heap[m]?=some (.map es clock):=hb
 have v1:a.eval (.tmp tm)=.map (some m):=by
   have:=ZaJ hr (.tmp tm)
   rw [show valOf σ (.tmp tm)=look σ.tm tm from rfl,h1] at this
   exact this
 have v2:a.eval (.tmp tk)=.int .i64 k:=by
   have:=ZaJ hr (.tmp tk)
   rw [show valOf σ (.tmp tk)=look σ.tm tk from rfl,h2] at this
   exact this
 have hfind:Instr.findNow (.int .i64) (.int .i64 k) es.toList 0=some none:=ZkP es.toList (fs.map (·.1)) 0 (by rw [hkeys,List.map_map];rfl) (by rw [List.all_map];exact hne)
 have hK:IsKey (.int .i64) (.int .i64 k):=rfl
 refine ZhH (u:=.tuple #[.nilFunc,.bool false]) (w':=w) (fun c e=>by rw [ho] at e;cases e) (.inl ?_) ?_
 . simp [execOp,ho,v1,v2,Instr.lookup,run_underlying hu,Zuj hb,run_checkKey hkt hK,run_findKey hkt hfind,hz,Result.andThen]
 . rw [hd]
   exact hk _ _ ⟨mu,hr.set (dst:=some d) (v:=.tup [.cst .nilFunc,.bool false]) (by simpa [Zcv] using hdn) ⟨_,rfl,rfl,rfl,trivial⟩,trivial⟩
end
end Go.Proofs.Mill
