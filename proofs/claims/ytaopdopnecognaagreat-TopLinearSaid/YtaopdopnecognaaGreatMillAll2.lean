/- Parts of the proof: MillCall, MillSlice, MillStep, MillWide, MillReg, MillSeq, MillTx, MillRun, MillBefore, MillDraw. -/
import Derived.Test.YtaopdopnecognaaGreatMillAll1
import Derived.OrdersIn
import Derived.TacticsIn
set_option linter.all false
namespace Go.Proofs.Mill
variable {ds:List Deferred}
open Go.RowKit
def pcx (w:World) (ok:Nat->Prop):Cx:=⟨w,fun _=>.undef,fun _=>none,ok⟩
def Res (w0:World) (ok:Nat->Prop) (w':World) (r:AV) (v:Value):Prop :=
 ∀ base, ∃ mu, Mem w0 (cx w' (Zay (ZbZ base r).2 []) mu fun b => ok b \/ w0.heap.size <= b) /\
   V (cx w' (Zay (ZbZ base r).2 []) mu fun b=>ok b\/w0.heap.size<=b) (ZbZ base r).1 v
def Zan (P:Program) (f:FuncId) (s:Spec):Prop :=
 ∀ (w0 : World) (ok : Nat -> Prop) (avs : List AV) (args : Array Value) (a : s.α) (b : s.β), s.dec avs = some a -> s.fn a = some b -> VL (pcx w0 ok) avs args.toList ->
   Calls P f args w0 fun e w'=>∃ v,e=.returned v/\Below w0.heap.size w0 w'/\Res w0 ok w' (s.enc b) v
def D.isFlat:D->Bool
 | .int _ _ | .bool _ | .str _=>true
 | _=>false
theorem ZzV {c c':Cx} {τ:Ty} (hf:τ.flat=true) (x:τ.den) {vs:List Value} (h:c.DVs (τ.enc x) vs):c'.DVs (τ.enc x) vs:=by
 have hi:∀ {k:IntKind} {n:Int} {v:Value},c.DV (.int k n) v->c'.DV (.int k n) v:=by intro k n v h;cases h;exact .int _ _
 have hb:∀ {n:Bool} {v:Value},c.DV (.bool n) v->c'.DV (.bool n) v:=by intro n v h;cases h;exact .bool _
 have hs:∀ {n:ByteArray} {v:Value},c.DV (.str n) v->c'.DV (.str n) v:=by intro n v h;cases h;exact .str _
 have key:∀ {ds:List D} {vs:List Value},(∀ d∈ds,(∃ k n,d=.int k n)\/(∃ b,d=.bool b)\/∃ s,d=.str s)->c.DVs ds vs->c'.DVs ds vs:=by
   intro ds
   induction ds with
   | nil=>intro vs _ h;cases vs <;> first | trivial | exact h.elim
   | cons d ds ih =>
     intro vs hd h
     cases vs with
     | nil=>exact h.elim
     | cons v vs =>
       refine ⟨?_,ih (fun d hd'=>hd d (by simp [hd'])) h.2⟩
       rcases hd d (by simp) with ⟨k,n,rfl⟩ | ⟨b,rfl⟩ | ⟨s,rfl⟩
       . exact hi h.1
       . exact hb h.1
       . exact hs h.1
 have hall:(τ.enc x).all D.isFlat=true:=by cases τ <;> first | rfl | (simp [Ty.flat] at hf)
 refine key ?_ h
 intro d hd
 have:=List.all_eq_true.1 hall d hd
 cases d with
 | int k n=>exact .inl ⟨k,n,rfl⟩
 | bool b=>exact .inr (.inl ⟨b,rfl⟩)
 | str s=>exact .inr (.inr ⟨s,rfl⟩)
 | fn f=>simp [D.isFlat] at this
 | lst sz rows=>simp [D.isFlat] at this
theorem ZnQ {c c':Cx} {τ:Ty} (hf:τ.flat=true):∀ (xs:List τ.den) {vs:List Value},c.DVs (xs.map τ.enc).flatten vs->c'.DVs (xs.map τ.enc).flatten vs
 | [],vs,h=>by cases vs <;> first | trivial | exact h.elim
 | x :: xs, vs, h => by
   simp only [List.map_cons,List.flatten_cons] at h ⊢
   obtain ⟨us,ws,rfl,h1,h2⟩:=h.split
   exact Cx.DVs.append (ZzV hf x h1) (ZnQ hf xs h2)
def Fresh (base:Nat) (ws:Wr) (next:Nat):Prop :=
 base<=next/\(∀ p∈ws,base<=p.1/\p.1<next)/\(∀ p∈ws,∃ e τ,∃ xs:List τ.den,p.2=.row e τ xs)/\(ws.map (·.1)).Nodup
theorem Fresh.nil (base:Nat):Fresh base [] base:=⟨Nat.le_refl _,fun _ h=>(by cases h),fun _ h=>(by cases h),by simp⟩
theorem Fresh.append {a b c:Nat} {ws ws':Wr} (h:Fresh a ws b) (k:Fresh b ws' c):Fresh a (ws++ws') c:=by
 obtain ⟨h1,h2,h3,h4⟩:=h
 obtain ⟨k1,k2,k3,k4⟩:=k
 refine ⟨Nat.le_trans h1 k1,fun p hp=>?_,fun p hp=>?_,?_⟩
 . rcases List.mem_append.1 hp with hp | hp
   . have:=h2 p hp;omega
   . have:=k2 p hp;omega
 . rcases List.mem_append.1 hp with hp | hp
   . exact h3 p hp
   . exact k3 p hp
 . rw [List.map_append,List.nodup_append]
   refine ⟨h4,k4,fun x hx y hy e=>?_⟩
   obtain ⟨p,hp,rfl⟩:=List.mem_map.1 hx
   obtain ⟨q,hq,rfl⟩:=List.mem_map.1 hy
   have:=h2 p hp
   have:=k2 q hq
   omega
theorem Zna (id:Nat) (v:AV):Fresh id (Zbm id v).2.1 (Zbm id v).2.2:=by
 unfold Zbm
 split
 . exact ⟨Nat.le_succ id,fun p hp=>by simp at hp;subst hp;simp,fun p hp=>by simp at hp;subst hp;exact ⟨_,_,_,rfl⟩,by simp⟩
 . exact Fresh.nil id
theorem Zeh:∀ (id:Nat) (vs:List AV),Fresh id (Zbj id vs).2.1 (Zbj id vs).2.2
 | id,[]=>Fresh.nil id
 | id,v::r=>(Zna id v).append (Zeh (Zbm id v).2.2 r)
theorem ZnX (id:Nat) (v:AV):Fresh id (ZcN id v).2.1 (ZcN id v).2.2:=by
 unfold ZcN
 split
 . exact Zeh _ _
 . exact Zna _ _
theorem Znn:∀ (id:Nat) (vs:List AV),Fresh id (Zfc id vs).2.1 (Zfc id vs).2.2
 | id,[]=>Fresh.nil id
 | id,v::r=>(ZnX id v).append (Znn (ZcN id v).2.2 r)
theorem Zet (id:Nat) (v:AV):∃ n,Fresh id (ZbZ id v).2 n:=by
 unfold ZbZ
 split
 . exact ⟨_,Znn _ _⟩
 . exact ⟨_,ZnX _ _⟩
theorem Zb3:∀ (ws:Wr) (ob:List (Nat×AV)) (id:Nat),(∀ p∈ws,p.1≠id)->look (Zay ws ob) id=look ob id
 | [],_,_,_=>rfl
 | p :: ws, ob, id, h => by
   show look (Zay ws (p::ob)) id=_
   rw [Zb3 ws _ id (fun q hq=>h q (by simp [hq]))]
   exact ZaQ _ _ (h p (by simp))
theorem ZcX:∀ (ws:Wr) (ob:List (Nat×AV)) (p:Nat×AV),(ws.map (·.1)).Nodup->p∈ws->look (Zay ws ob) p.1=p.2
 | [],_,_,_,h=>by cases h
 | q :: ws, ob, p, hn, h => by
   simp only [List.map_cons,List.nodup_cons] at hn
   show look (Zay ws (q::ob)) p.1=_
   rcases List.mem_cons.1 h with rfl | h
   . rw [Zb3 ws _ _ (fun r hr e=>hn.1 (List.mem_map.2 ⟨r,hr,e⟩))]
     exact look_eq _ _ _
   . exact ZcX ws _ p hn.2 h
theorem Mem.join {w0 w w':World} {ob:List (Nat×AV)} {mu mur:Nat->Option Nat} {ok okR:Nat->Prop} {ws:Wr}
   (hm:Mem w0 (cx w ob mu ok)) (hb:Below w.heap.size w w') (hres:Mem w (cx w' (Zay ws []) mur okR)) (hnd:(ws.map (·.1)).Nodup) (hfree:∀ p∈ws,look ob p.1=.undef)
   (hok:∀ b,okR b->b<w.heap.size->ok b/\∀ id,mu id≠some b) :
   ∃ mu',Mono (cx w ob mu ok) (cx w' (Zay ws ob) mu' ok)/\Mem w0 (cx w' (Zay ws ob) mu' ok)/\MonoB (cx w' (Zay ws []) mur okR) (cx w' (Zay ws ob) mu' ok):=by
 let mu':Nat->Option Nat:=fun id=>if ws.any (fun p=>p.1 == id) then mur id else mu id
 have hin:∀ id,(∃ p∈ws,p.1=id)->mu' id=mur id:=by
   rintro id ⟨p,hp,rfl⟩
   have:ws.any (fun q=>q.1 == p.1)=true:=List.any_eq_true.2 ⟨p,hp,by simp⟩
   simp [mu',this]
 have hout:∀ id,(∀ p∈ws,p.1≠id)->mu' id=mu id:=by
   intro id h
   have:ws.any (fun q=>q.1 == id)=false:=by
     rw [List.any_eq_false]
     intro q hq
     have:=h q hq
     simpa using this
   simp [mu',this]
 have hdec:∀ id,(∃ p∈ws,p.1=id)\/(∀ p∈ws,p.1≠id):=by
   intro id
   by_cases h:∃ p∈ws,p.1=id
   . exact .inl h
   . exact .inr fun p hp e=>h ⟨p,hp,e⟩
 have hobin:∀ id,(∃ p∈ws,p.1=id)->look (Zay ws ob) id=look (Zay ws []) id/\look ob id=.undef:=by
   rintro id ⟨p,hp,rfl⟩
   exact ⟨by rw [ZcX ws ob p hnd hp,ZcX ws [] p hnd hp],hfree p hp⟩
 have hobout:∀ id,(∀ p∈ws,p.1≠id)->look (Zay ws ob) id=look ob id/\look (Zay ws []) id=.undef:=by
   intro id h
   exact ⟨Zb3 ws ob id h,by rw [Zb3 ws [] id h];rfl⟩
 have hnew:∀ id b,mur id=some b->w.heap.size<=b:=fun id b h=>hres.base id b h
 have hmurout:∀ id,(∀ p∈ws,p.1≠id)->mur id=none:=by
   intro id h
   have:=hres.obj id
   unfold ObjOK at this
   rw [show (cx w' (Zay ws []) mur okR).ob id=.undef from (hobout id h).2] at this
   exact this
 have hmono1:Mono (cx w ob mu ok) (cx w' (Zay ws ob) mu' ok):=by
   refine Zdf (fun b hb'=>?_) (fun id=>?_) (fun b h2 h3=>⟨fun id=>?_,hb.block b h2⟩)
   rotate_right
   . show mu' id≠some b
     rcases hdec id with h | h
     . rw [hin id h]
       intro e
       have:=hnew id b e
       have:b<w.heap.size:=h2
       omega
     . rw [hout id h];exact h3 id
   . obtain ⟨h1,h2,h3⟩:=hb'
     refine ⟨⟨h1,Nat.lt_of_lt_of_le h2 hb.size,fun id=>?_⟩,hb.block b h2⟩
     show mu' id≠some b
     rcases hdec id with h | h
     . rw [hin id h]
       intro e
       have:=hnew id b e
       have:b<w.heap.size:=h2
       omega
     . rw [hout id h];exact h3 id
   . rcases hdec id with h | h
     . exact .inl (hobin id h).2
     . exact .inr (.inr (.inl ⟨(hobout id h).1,hout id h,fun b hb'=>hb.block b (hm.lt hb')⟩))
 have hmono2:MonoB (cx w' (Zay ws []) mur okR) (cx w' (Zay ws ob) mu' ok):=by
   refine Zfr (fun b hb'=>?_) (fun id=>?_)
   . obtain ⟨h1,h2,h3⟩:=hb'
     refine ⟨⟨?_,h2,fun id=>?_⟩,rfl⟩
     . by_cases hbs:b<w.heap.size
       . exact (hok b h1 hbs).1
       . exact hm.new_ok (Nat.le_of_not_lt hbs)
     . show mu' id≠some b
       rcases hdec id with h | h
       . rw [hin id h];exact h3 id
       . rw [hout id h]
         by_cases hbs:b<w.heap.size
         . exact (hok b h1 hbs).2 id
         . intro e
           exact hbs (hm.lt (id:=id) e)
   . rcases hdec id with h | h
     . exact .inr (.inr (.inl ⟨(hobin id h).1,hin id h,fun _ _=>rfl⟩))
     . exact .inl (hobout id h).2
 refine ⟨mu',hmono1,⟨fun id=>?_,fun i j b hi hj=>?_,fun id b hid=>?_,?_,hm.okn_of rfl hb.size fun b h1 h2 id e=>by
   have e:mu' id=some b:=e
   rcases hdec id with h | h
   . rw [hin id h] at e;have:=hnew id b e;have:b<w.heap.size:=h1;omega
   . rw [hout id h] at e;exact h2 id e⟩,hmono2⟩
 . rcases hdec id with h | h
   . exact (hres.obj id).keepB hmono2 (hobin id h).1 (hin id h) (fun _ _=>rfl)
   . exact (hm.obj id).keep hmono1 (hobout id h).1 (hout id h) (fun b hb'=>hb.block b (hm.lt hb'))
 . have hi:mu' i=some b:=hi
   have hj:mu' j=some b:=hj
   rcases hdec i with h | h <;> rcases hdec j with h' | h'
   . rw [hin i h] at hi;rw [hin j h'] at hj
     exact hres.inj i j b hi hj
   . rw [hin i h] at hi;rw [hout j h'] at hj
     have h1:=hnew i b hi
     have h2:b<w.heap.size:=hm.lt (id:=j) hj
     omega
   . rw [hout i h] at hi;rw [hin j h'] at hj
     have h1:=hnew j b hj
     have h2:b<w.heap.size:=hm.lt (id:=i) hi
     omega
   . rw [hout i h] at hi;rw [hout j h'] at hj
     exact hm.inj i j b hi hj
 . have hid:mu' id=some b:=hid
   rcases hdec id with h | h
   . rw [hin id h] at hid
     exact Nat.le_trans hm.ext.size (hnew id b hid)
   . rw [hout id h] at hid
     exact hm.base id b hid
 . have h1:=hm.ext
   exact ⟨hb.os.trans h1.os,hb.tape.trans h1.tape,hb.output.trans h1.output,Nat.le_trans h1.size hb.size,
     fun k hk=>(hb.block k (Nat.lt_of_lt_of_le hk h1.size)).trans (h1.block k hk)⟩
def AV.dat1:AV->Bool
 | .int _ _ | .bool _ | .str _ | .lst _ _ | .emp | .fn _ []=>true
 | _=>false
def AV.dat:AV->Bool
 | .agg cs=>cs.all AV.dat1
 | v=>v.dat1
theorem Zx6 {c c':Cx} (hok:∀ d v,c.DV d v->c'.DV d v) {x:AV} {u:Value} (hx:x.dat1=true) (h:V c x u):V c' x u:=by
 cases x <;> try (simp [AV.dat1] at hx;done)
 case int=>exact h
 case bool=>exact h
 case str=>exact h
 case lst=>exact hok _ _ h
 case emp=>exact h
 case fn f caps =>
   cases caps with
   | nil =>
     obtain ⟨vs,e,hv⟩:=h
     exact ⟨vs,e,by rw [Zbo hv];trivial⟩
   | cons a b=>simp [AV.dat1] at hx
theorem Zwa {c c':Cx} (hok:∀ d v,c.DV d v->c'.DV d v):∀ {xs:List AV} {us:List Value},xs.all AV.dat1=true->VL c xs us->VL c' xs us
 | [],us,_,h=>by rw [Zbo h];trivial
 | x :: xs, us, hx, h => by
   obtain ⟨u,us',rfl,h1,h2⟩:=Za6 h
   simp only [List.all_cons,Bool.and_eq_true] at hx
   exact ⟨Zx6 hok hx.1 h1,Zwa hok hx.2 h2⟩
theorem ZDN {c c':Cx} (hok:∀ d v,c.DV d v->c'.DV d v) {x:AV} {u:Value} (hx:x.dat=true) (h:V c x u):V c' x u:=by
 cases x <;> first
   | (exact Zx6 hok hx h)
   | (obtain ⟨vs,e,h⟩:=h;exact ⟨vs,e,Zwa hok hx h⟩)
theorem ZtB {c c':Cx} (hok:∀ d v,c.DV d v->c'.DV d v):∀ {xs:List AV} {us:List Value},xs.all AV.dat=true->VL c xs us->VL c' xs us
 | [],us,_,h=>by rw [Zbo h];trivial
 | x :: xs, us, hx, h => by
   obtain ⟨u,us',rfl,h1,h2⟩:=Za6 h
   simp only [List.all_cons,Bool.and_eq_true] at hx
   exact ⟨ZDN hok hx.1 h1,ZtB hok hx.2 h2⟩
def ZwU (ob:List (Nat×AV)) (v x:AV) (ws:Wr):Prop :=
 ∀ (c c':Cx) (u:Value),c.ob=look ob->Mono c c'->(∀ p∈ws,c'.ob p.1=p.2)->V c v u->V c' x u
theorem ZqI {α:Type} {κ:Kd} {v:AV} {k:AV->Wr->Rd α} {σ:St} {r:α} (h:(ZoM κ v k).val σ=some r) :
   ∃ x ws,(k x ws).val σ=some r/\Fz σ.ob ws/\x.dat1=true/\ZwU σ.ob v x ws:=by
 unfold ZoM at h
 split at h
 . rename_i τ
   cases v with
   | own id =>
     simp only [Rd.val] at h
     change (match σ.get (.m id) with | .row _ σ xs=>_ | .frz σ xs=>_ | _=>_:Rd α).val σ=some r at h
     cases hob:σ.get (.m id) with
     | row e ρ xs =>
       rw [hob] at h
       simp only at h
       split at h
       . rename_i hh _
         subst hh
         refine ⟨_,_,h,fun p hp=>⟨e,ρ,xs,?_,?_⟩,rfl,fun c c' u hc hm hw hv=>?_⟩
         . simp only [List.mem_singleton] at hp;subst hp;exact hob
         . simp only [List.mem_singleton] at hp;subst hp;rfl
         . have h1:=hm.own id u hv
           have h2:=hw _ (List.mem_singleton.2 rfl)
           unfold OwnV at h1
           rw [h2] at h1
           exact h1
       . simp [Rd.val] at h
     | frz ρ xs =>
       rw [hob] at h
       simp only at h
       split at h
       . rename_i hh _
         subst hh
         refine ⟨_,_,h,Fz.nil _,rfl,fun c c' u hc hm hw hv=>?_⟩
         have h1:OwnV c id u:=hv
         unfold OwnV at h1
         rw [hc,show look σ.ob id=.frz ρ xs from hob] at h1
         exact hm.dv _ _ h1
       . simp [Rd.val] at h
     | _=>rw [hob] at h;simp [Rd.val] at h
   | lst ρ xs =>
     simp only at h
     split at h
     . rename_i hh _
       subst hh
       exact ⟨_,_,h,Fz.nil _,rfl,fun c c' u _ hm _ hv=>hm.v _ _ hv⟩
     . simp [Rd.val] at h
   | emp=>exact ⟨_,_,h,Fz.nil _,rfl,fun c c' u _ hm _ hv=>by simp only [V] at hv;subst hv;exact DV.nil _ _ _ (fun _=>rfl)⟩
   | _=>simp [Rd.val] at h
 . cases v with
   | int _ _=>exact ⟨_,_,h,Fz.nil _,rfl,fun c c' u _ hm _ hv=>hm.v _ _ hv⟩
   | bool _=>exact ⟨_,_,h,Fz.nil _,rfl,fun c c' u _ hm _ hv=>hm.v _ _ hv⟩
   | str _=>exact ⟨_,_,h,Fz.nil _,rfl,fun c c' u _ hm _ hv=>hm.v _ _ hv⟩
   | _=>simp [Rd.val] at h
 . rename_i f
   split at h
   . rename_i g
     obtain ⟨hg,h⟩:=Zb7 h
     have hg:=Nat.eq_of_beq_eq_true hg
     subst hg
     exact ⟨_,_,h,Fz.nil _,rfl,fun c c' u _ hm _ hv=>hm.v _ _ hv⟩
   . simp [Rd.val] at h
 . split at h
   . exact ⟨_,_,h,Fz.nil _,rfl,fun c c' u _ hm _ hv=>hm.v _ _ hv⟩
   . simp [Rd.val] at h
 . simp [Rd.val] at h
def ArgsTo (ob:List (Nat×AV)) (vs xs:List AV) (ws:Wr):Prop :=
 ∀ (c c':Cx) (us:List Value),c.ob=look ob->Mono c c'->(∀ p∈ws,c'.ob p.1=p.2)->VL c vs us->VL c' xs us
theorem ArgsTo.cons {ob:List (Nat×AV)} {v x:AV} {vs xs:List AV} {ws ws':Wr} (h:ZwU ob v x ws) (k:ArgsTo ob vs xs ws'):ArgsTo ob (v::vs) (x::xs) (ws++ws'):=by
 intro c c' us hc hm hw hv
 obtain ⟨u,us',rfl,hv1,hv2⟩:=Za6 hv
 exact ⟨h c c' u hc hm (fun p hp=>hw p (List.mem_append_left _ hp)) hv1,k c c' us' hc hm (fun p hp=>hw p (List.mem_append_right _ hp)) hv2⟩
theorem Zpg {α:Type} {σ:St} {r:α}:∀ {ks:List Kd} {vs:List AV} {k:List AV->Wr->Rd α},(Zkz ks vs k).val σ=some r ->
   ∃ xs ws,(k xs ws).val σ=some r/\Fz σ.ob ws/\xs.all AV.dat1=true/\ArgsTo σ.ob vs xs ws
 | [],[],k,h=>⟨[],[],h,Fz.nil _,rfl,fun c c' us _ _ _ hv=>by rw [Zbo hv];trivial⟩
 | κ :: ks, v :: vs, k, h => by
   obtain ⟨x,ws,h1,h2,h3,h4⟩:=ZqI h
   obtain ⟨xs,ws',h5,h6,h7,h8⟩:=Zpg h1
   exact ⟨x::xs,ws++ws',h5,h2.append h6,by simp only [List.all_cons,h3,h7,Bool.and_true],ArgsTo.cons h4 h8⟩
 | [],_::_,k,h=>by simp [Zkz,Rd.val] at h
 | _::_,[],k,h=>by simp [Zkz,Rd.val] at h
theorem Zzd {α:Type} {κ:Kd} {v:AV} {k:AV->Wr->Rd α} {σ:St} {r:α} (h:(ZtR κ v k).val σ=some r) :
   ∃ x ws,(k x ws).val σ=some r/\Fz σ.ob ws/\x.dat=true/\ZwU σ.ob v x ws:=by
 unfold ZtR at h
 split at h
 . cases v with
   | agg cs =>
     obtain ⟨xs,ws,h1,h2,h3,h4⟩:=Zpg h
     refine ⟨_,_,h1,h2,h3,fun c c' u hc hm hw hv=>?_⟩
     obtain ⟨vs,e,hv⟩:=hv
     exact ⟨vs,e,h4 c c' _ hc hm hw hv⟩
   | _=>simp [Rd.val] at h
 . obtain ⟨x,ws,h1,h2,h3,h4⟩:=ZqI h
   refine ⟨x,ws,h1,h2,?_,h4⟩
   cases x <;> first | exact h3 | (simp [AV.dat1] at h3)
theorem ZqX {α:Type} {σ:St} {r:α}:∀ {ks:List Kd} {vs:List AV} {k:List AV->Wr->Rd α},(Zmg ks vs k).val σ=some r ->
   ∃ xs ws,(k xs ws).val σ=some r/\Fz σ.ob ws/\xs.all AV.dat=true/\ArgsTo σ.ob vs xs ws
 | [],[],k,h=>⟨[],[],h,Fz.nil _,rfl,fun c c' us _ _ _ hv=>by rw [Zbo hv];trivial⟩
 | κ :: ks, v :: vs, k, h => by
   obtain ⟨x,ws,h1,h2,h3,h4⟩:=Zzd h
   obtain ⟨xs,ws',h5,h6,h7,h8⟩:=ZqX h1
   exact ⟨x::xs,ws++ws',h5,h2.append h6,by simp only [List.all_cons,h3,h7,Bool.and_true],ArgsTo.cons h4 h8⟩
 | [],_::_,k,h=>by simp [Zmg,Rd.val] at h
 | _::_,[],k,h=>by simp [Zmg,Rd.val] at h
theorem Zi5 {α:Type} {σ:St} {r:α}:∀ {ws:Wr} {k:Rd α},(Zl6 ws k).val σ=some r->(∀ p∈ws,look σ.ob p.1=.undef)/\k.val σ=some r
 | [],k,h=>⟨fun _ h=>(by cases h),h⟩
 | (l, x) :: ws, k, h => by
   obtain ⟨h1,h2⟩:=Zid h
   obtain ⟨h3,h4⟩:=Zi5 h2
   refine ⟨fun p hp=>?_,h4⟩
   rcases List.mem_cons.1 hp with rfl | hp
   . exact h1
   . exact h3 p hp
def Zd9 (P:Program) (f:FuncId):Prop:=∃ fn,P.funcs[f]?=some fn/\fn.body.isNone=false/\(fn.name == "runtime.NumGoroutine")=false
theorem Zh4 {P:Program} {f:FuncId} {args:Array Value} {w:World} (h:Zd9 P f):(callFunc f args).run P w=.ok (.enter f args) w:=by
 obtain ⟨fn,h1,h2,h3⟩:=h
 have h2':fn.body≠none:=by intro e;rw [e] at h2;simp at h2
 have h3':¬fn.name = "runtime.NumGoroutine" := by simpa using h3
 simp [callFunc,h1,h2',h3']
theorem ZhB {V:Env} {o:Oper} {a:Act} {c:Go.Call} {f:Operand} {g:FuncId} {caps:Array Value} {w:World} (ho:o.op=.call c) (hb:c.callee=.value f)
   (hf:a.eval f=.func (.func g) #[] caps) (he:Zd9 V.P g):(execOp a.eval o).run V.P w=.ok (.enter g (c.args.map a.eval++caps)) w:=by
 simp [execOp,ho,resolve,hb,hf,Deferred.ofValue,invoke,Zh4 he]
theorem Zsd {V:Env} {o:Oper} {a:Act} {c:Go.Call} {f:Operand} {g:FuncId} {fs:Array Value} {w:World} (ho:o.op=.call c) (hb:c.callee=.value f)
   (hf:a.eval f=.func (.func g) fs #[]) (he:Zd9 V.P g):(execOp a.eval o).run V.P w=.ok (.enter g (fs++c.args.map a.eval)) w:=by
 simp [execOp,ho,resolve,hb,hf,Deferred.ofValue,invoke,Zh4 he]
theorem Zwb {w':World} {ob:List (Nat×AV)} {mu:Nat->Option Nat} {okA okB:Nat->Prop} {base:Nat} {r:AV} {v:Value} (hr:r.lends=false)
   (hob:∀ p∈(Zbm base r).2.1,look ob p.1=p.2) (h:V (cx w' ob mu okA) (Zbm base r).1 v):V (cx w' ob mu okB) (Zbm base r).1 v:=by
 cases r <;> simp [AV.lends] at hr
 case int=>exact h
 case bool=>exact h
 case str=>exact h
 case emp=>exact h
 case ownv e τ xs =>
   have h1:=hob (base,.row e τ xs) (by simp [Zbm])
   have h:OwnV (cx w' ob mu okA) base v:=h
   show OwnV (cx w' ob mu okB) base v
   unfold OwnV at h ⊢
   rw [show (cx w' ob mu okA).ob base=.row e τ xs from h1] at h
   rw [show (cx w' ob mu okB).ob base=.row e τ xs from h1]
   exact h
theorem ZtS {w':World} {ob:List (Nat×AV)} {mu:Nat->Option Nat} {okA okB:Nat->Prop}:∀ {rs:List AV} {base:Nat} {vs:List Value},rs.any AV.lends=false ->
   (∀ p∈(Zbj base rs).2.1,look ob p.1=p.2)->VL (cx w' ob mu okA) (Zbj base rs).1 vs->VL (cx w' ob mu okB) (Zbj base rs).1 vs
 | [], _, vs, _, _, h => by
   have h:VL (cx w' ob mu okA) [] vs:=h
   rw [Zbo h];trivial
 | r :: rs, base, vs, hr, hob, h => by
   simp only [List.any_cons,Bool.or_eq_false_iff] at hr
   have h:VL (cx w' ob mu okA) ((Zbm base r).1::(Zbj (Zbm base r).2.2 rs).1) vs:=h
   obtain ⟨u,us,rfl,h1,h2⟩:=Za6 h
   exact ⟨Zwb hr.1 (fun p hp=>hob p (List.mem_append_left _ hp)) h1,ZtS hr.2 (fun p hp=>hob p (List.mem_append_right _ hp)) h2⟩
def AV.lends1:AV->Bool
 | .agg cs=>cs.any AV.lends
 | v=>v.lends
theorem ZuY {w':World} {ob:List (Nat×AV)} {mu:Nat->Option Nat} {okA okB:Nat->Prop} {base:Nat} {r:AV} {v:Value} (hr:r.lends1=false)
   (hob:∀ p∈(ZcN base r).2.1,look ob p.1=p.2) (h:V (cx w' ob mu okA) (ZcN base r).1 v):V (cx w' ob mu okB) (ZcN base r).1 v:=by
 by_cases ha:∃ cs,r=.agg cs
 . obtain ⟨cs,rfl⟩:=ha
   obtain ⟨vs,e,h⟩:=h
   exact ⟨vs,e,ZtS hr hob h⟩
 . have e1:ZcN base r=Zbm base r:=by cases r <;> first | rfl | exact (ha ⟨_,rfl⟩).elim
   have e2:r.lends1=r.lends:=by cases r <;> first | rfl | exact (ha ⟨_,rfl⟩).elim
   rw [e1] at hob h ⊢
   exact Zwb (by rw [<- e2];exact hr) hob h
theorem Zr7 {w':World} {ob:List (Nat×AV)} {mu:Nat->Option Nat} {okA okB:Nat->Prop}:∀ {rs:List AV} {base:Nat} {vs:List Value},rs.any AV.lends1=false ->
   (∀ p∈(Zfc base rs).2.1,look ob p.1=p.2)->VL (cx w' ob mu okA) (Zfc base rs).1 vs->VL (cx w' ob mu okB) (Zfc base rs).1 vs
 | [], _, vs, _, _, h => by
   have h:VL (cx w' ob mu okA) [] vs:=h
   rw [Zbo h];trivial
 | r :: rs, base, vs, hr, hob, h => by
   simp only [List.any_cons,Bool.or_eq_false_iff] at hr
   have h:VL (cx w' ob mu okA) ((ZcN base r).1::(Zfc (ZcN base r).2.2 rs).1) vs:=h
   obtain ⟨u,us,rfl,h1,h2⟩:=Za6 h
   exact ⟨ZuY hr.1 (fun p hp=>hob p (List.mem_append_left _ hp)) h1,Zr7 hr.2 (fun p hp=>hob p (List.mem_append_right _ hp)) h2⟩
def Zk7 (ws:Wr):Prop:=∀ p∈ws,∃ e τ,∃ xs:List τ.den,p.2=.row e τ xs/\τ.flat=true
theorem Zr8 {base:Nat} {r:AV} (hr:r.lends=false):Zk7 (Zbm base r).2.1:=by
 intro p hp
 cases r <;> simp [AV.lends] at hr <;> simp [Zbm] at hp
 case ownv e τ xs=>subst hp;exact ⟨e,τ,xs,rfl,hr⟩
theorem Zqp:∀ {rs:List AV} {base:Nat},rs.any AV.lends=false->Zk7 (Zbj base rs).2.1
 | [],_,_=>fun _ h=>by cases h
 | r :: rs, base, hr => fun p hp => by
   simp only [List.any_cons,Bool.or_eq_false_iff] at hr
   rcases List.mem_append.1 hp with hp | hp
   . exact Zr8 hr.1 p hp
   . exact Zqp hr.2 p hp
theorem ZtX {base:Nat} {r:AV} (hr:r.lends1=false):Zk7 (ZcN base r).2.1:=by
 by_cases ha:∃ cs,r=.agg cs
 . obtain ⟨cs,rfl⟩:=ha
   exact Zqp hr
 . have e1:ZcN base r=Zbm base r:=by cases r <;> first | rfl | exact (ha ⟨_,rfl⟩).elim
   have e2:r.lends1=r.lends:=by cases r <;> first | rfl | exact (ha ⟨_,rfl⟩).elim
   rw [e1]
   exact Zr8 (by rw [<- e2];exact hr)
theorem ZsH:∀ {rs:List AV} {base:Nat},rs.any AV.lends1=false->Zk7 (Zfc base rs).2.1
 | [],_,_=>fun _ h=>by cases h
 | r :: rs, base, hr => fun p hp => by
   simp only [List.any_cons,Bool.or_eq_false_iff] at hr
   rcases List.mem_append.1 hp with hp | hp
   . exact ZtX hr.1 p hp
   . exact ZsH hr.2 p hp
theorem Zpj (r:AV):r.lendsAny=match r with | .tup vs=>vs.any AV.lends1 | v=>v.lends1:=by
 cases r <;> rfl
theorem Res.strip {w w':World} {okA:Nat->Prop} {r:AV} {v:Value} (h:Res w okA w' r v) (hr:r.lendsAny=false):Res w (fun _=>False) w' r v:=by
 intro base
 obtain ⟨mu,hm,hv⟩:=h base
 obtain ⟨n,hfr⟩:=Zet base r
 have hflat:Zk7 (ZbZ base r).2:=by
   rw [Zpj] at hr
   unfold ZbZ
   split
   . exact ZsH hr
   . rename_i hnt
     have:r.lends1=false:=by cases r <;> first | exact hr | exact (hnt _ rfl).elim
     exact ZtX this
 have hin:∀ p∈(ZbZ base r).2,look (Zay (ZbZ base r).2 []) p.1=p.2:=fun p hp=>ZcX _ _ p hfr.2.2.2 hp
 refine ⟨mu,⟨fun id=>?_,hm.inj,hm.base,hm.ext,fun b hb=>.inl (.inr hb)⟩,?_⟩
 . have ho:=hm.obj id
   unfold ObjOK at ho ⊢
   by_cases hid:∃ p∈(ZbZ base r).2,p.1=id
   . obtain ⟨p,hp,rfl⟩:=hid
     obtain ⟨e,τ,xs,he,hf⟩:=hflat p hp
     have hl:look (Zay (ZbZ base r).2 []) p.1=.row e τ xs:=(hin p hp).trans he
     rw [show (cx w' (Zay (ZbZ base r).2 []) mu fun b=>okA b\/w.heap.size<=b).ob p.1=.row e τ xs from hl] at ho
     rw [show (cx w' (Zay (ZbZ base r).2 []) mu fun b=>False\/w.heap.size<=b).ob p.1=.row e τ xs from hl]
     rcases ho with ho | ⟨b,cap,cur,h1,h2,h3,h4,h5⟩
     . exact .inl ho
     . exact .inr ⟨b,cap,cur,h1,h2,h3,h4,ZnQ hf xs h5⟩
   . have hl:look (Zay (ZbZ base r).2 []) id=.undef:=by
       rw [Zb3 _ _ _ (fun p hp e=>hid ⟨p,hp,e⟩)];rfl
     rw [show (cx w' (Zay (ZbZ base r).2 []) mu fun b=>okA b\/w.heap.size<=b).ob id=.undef from hl] at ho
     rw [show (cx w' (Zay (ZbZ base r).2 []) mu fun b=>False\/w.heap.size<=b).ob id=.undef from hl]
     exact ho
 . rw [Zpj] at hr
   revert hin hv
   generalize Zay (ZbZ base r).2 []=ob
   unfold ZbZ
   split
   . intro hv hin
     obtain ⟨vs,e,hv⟩:=hv
     exact ⟨vs,e,Zr7 hr hin hv⟩
   . rename_i hnt
     intro hv hin
     have:r.lends1=false:=by cases r <;> first | exact hr | exact (hnt _ rfl).elim
     exact ZuY this hin hv
theorem Zk3 {α β:Type} {x:Option β} {k:β->Rd α} {σ:St} {r:α} (h:(Rd.call x k).val σ=some r):∃ y,x=some y/\(k y).val σ=some r:=by
 cases x with
 | none=>exact absurd h (by intro h;cases h)
 | some y=>exact ⟨y,rfl,h⟩
mutual
theorem Zrn {c c':Cx} (hok:∀ d v,c.DV d v->c'.DV d v):∀ (x:AV) (u:Value),x.still=true->V c x u->V c' x u
 | .int _ _,_,_,h=>h
 | .bool _,_,_,h=>h
 | .str _,_,_,h=>h
 | .lst _ _,_,_,h=>hok _ _ h
 | .emp,_,_,h=>h
 | .cst _,_,_,h=>h
 | .agg cs,_,hs,⟨vs,e,h⟩=>⟨vs,e,Zjx hok cs vs.toList hs h⟩
 | .fn _ cs,_,hs,⟨vs,e,h⟩=>⟨vs,e,Zjx hok cs vs.toList hs h⟩
 | .undef,_,hs,_=>by cases hs
 | .own _,_,hs,_=>by cases hs
 | .ownv _ _ _,_,hs,_=>by cases hs
 | .ptr _ _,_,hs,_=>by cases hs
 | .eptr _ _ _,_,hs,_=>by cases hs
 | .lptr _ _ _ _,_,hs,_=>by cases hs
 | .cptr _ _,_,hs,_=>by cases hs
 | .tup _,_,hs,_=>by cases hs
 | .ifc _ _,_,hs,_=>by cases hs
 | .box _,_,hs,_=>by cases hs
 | .row _ _ _,_,hs,_=>by cases hs
 | .frz _ _,_,hs,_=>by cases hs
 | .dead,_,hs,_=>by cases hs
 | .gone _,_,hs,_=>by cases hs
theorem Zjx {c c':Cx} (hok:∀ d v,c.DV d v->c'.DV d v):∀ (xs:List AV) (us:List Value),AV.stills xs=true->VL c xs us->VL c' xs us
 | [],[],_,_=>trivial
 | x :: xs, u :: us, hs, ⟨a, b⟩ => by
   unfold AV.stills at hs
   cases hx:x.still with
   | false=>rw [hx] at hs;cases hs
   | true=>rw [hx] at hs;exact ⟨Zrn hok x u hx a,Zjx hok xs us hs b⟩
end
def Ztp (P:Program) (pr:FuncId->Nat->List AV->Option (AV×Wr)):Prop :=
 ∀ f fid args v ws, pr f fid args = some (v, ws) -> Zd9 P f /\ (ws.map (·.1)).Nodup /\ ∀ (w : World) (ok : Nat -> Prop) (vals : Array Value), VL (pcx w ok) args vals.toList ->
   Calls P f vals w fun e w'=>∃ u mu,e=.returned u/\Mem w (cx w' (Zay ws []) mu fun b=>ok b\/w.heap.size<=b)/\V (cx w' (Zay ws []) mu fun b=>ok b\/w.heap.size<=b) v u
mutual
theorem ZhE {c c':Cx} (hb:∀ b,c.okb b->c'.okb b/\c'.w.heap[b]?=c.w.heap[b]?):∀ (v:AV) (u:Value),v.frozen=true->V c v u->V c' v u
 | .int _ _,_,_,h=>h
 | .bool _,_,_,h=>h
 | .str _,_,_,h=>h
 | .lst _ _,_,_,h=>DV.mono (fun b h=>(hb b h).1) (fun b h=>(hb b h).2) h
 | .emp,_,_,h=>h
 | .cst _,_,_,h=>h
 | .fn _ cs,_,hf,⟨vs,e,h⟩=>⟨vs,e,Zio hb cs vs.toList hf h⟩
 | .cptr cs _,_,hf,⟨b,cur,e,h1,h2,h3,h4⟩=>⟨b,cur,e,h1,(hb b h2).1,((hb b h2).2).trans h3,Zio hb cs cur.toList hf h4⟩
 | .undef,_,hf,_=>by cases hf
 | .lstn _ _,_,hf,_=>by cases hf
 | .own _,_,hf,_=>by cases hf
 | .ownv _ _ _,_,hf,_=>by cases hf
 | .ptr _ _,_,hf,_=>by cases hf
 | .eptr _ _ _,_,hf,_=>by cases hf
 | .lptr _ _ _ _,_,hf,_=>by cases hf
 | .agg _,_,hf,_=>by cases hf
 | .tup _,_,hf,_=>by cases hf
 | .bfn _ _,_,hf,_=>by cases hf
 | .ifc _ _,_,hf,_=>by cases hf
 | .box _,_,hf,_=>by cases hf
 | .row _ _ _,_,hf,_=>by cases hf
 | .frz _ _,_,hf,_=>by cases hf
 | .dead,_,hf,_=>by cases hf
 | .gone _,_,hf,_=>by cases hf
theorem Zio {c c':Cx} (hb:∀ b,c.okb b->c'.okb b/\c'.w.heap[b]?=c.w.heap[b]?):∀ (vs:List AV) (us:List Value),AV.frozens vs=true->VL c vs us->VL c' vs us
 | [],[],_,_=>trivial
 | v :: vs, u :: us, hf, ⟨h1, h2⟩ => by
   unfold AV.frozens at hf
   cases hv:v.frozen with
   | false=>rw [hv] at hf;cases hf
   | true=>rw [hv] at hf;exact ⟨ZhE hb v u hv h1,Zio hb vs us hf h2⟩
end
theorem Zwd {w:World} {ob:List (Nat×AV)} {mu:Nat->Option Nat} {ok:Nat->Prop}:∀ b,(cx w ob mu ok).okb b->(pcx w fun _=>True).okb b/\(pcx w fun _=>True).w.heap[b]?=(cx w ob mu ok).w.heap[b]? :=
 fun _ h=>⟨⟨trivial,h.2.1,fun _=>by simp [pcx]⟩,rfl⟩
theorem Zmt {α:Type} {w:World} {σ:St} {c:Cx} {r:α} {g:AV->(AV->Rd α)->Rd α} (hg:∀ {v u k},(g v k).val σ=some r->V c v u->∃ x,(k x).val σ=some r/\V (pcx w fun _=>True) x u) :
   ∀ {vs:List AV} {us:List Value} {k:List AV->Rd α},(Zrc g vs k).val σ=some r->VL c vs us->∃ xs,(k xs).val σ=some r/\VL (pcx w fun _=>True) xs us
 | [],[],k,h,_=>⟨[],h,trivial⟩
 | [],_::_,_,_,hv=>hv.elim
 | _::_,[],_,_,hv=>hv.elim
 | v :: vs, u :: us, k, h, ⟨hv, hvs⟩ => by
   obtain ⟨x,h1,h2⟩:=hg h hv
   obtain ⟨xs,h3,h4⟩:=Zmt hg h1 hvs
   exact ⟨x::xs,h3,h2,h4⟩
theorem ZpY {α:Type} {w0 w:World} {ok:Nat->Prop} {σ:St} {mu:Nat->Option Nat} {r:α} (hm:Mem w0 (cx w σ.ob mu ok)):∀ (d:Nat) {v:AV} {u:Value} {k:AV->Rd α},
   (Zkg d v k).val σ=some r->V (cx w σ.ob mu ok) v u->∃ x,(k x).val σ=some r/\V (pcx w fun _=>True) x u
 | 0,_,_,_,h,_=>by simp [Zkg,Rd.val] at h
 | d + 1, v, u, k, h, hv => by
   have hdv:∀ d x,(cx w σ.ob mu ok).DV d x->(pcx w fun _=>True).DV d x:=fun d x hd=>DV.mono (fun b hb=>(Zwd b hb).1) (fun _ _=>rfl) hd
   have still:(bif v.still then k v else .fail:Rd α).val σ=some r->∃ x,(k x).val σ=some r/\V (pcx w fun _=>True) x u:=by
     intro h
     obtain ⟨hst,h⟩:=Zb7 h
     exact ⟨v,h,Zrn hdv _ _ hst hv⟩
   cases v with
   | ptr id off =>
     simp only [Zkg,Rd.val] at h
     change (match σ.get (.m id) with | .box cs=>_ | _=>_:Rd α).val σ=some r at h
     have hv:PtrV (cx w σ.ob mu ok) id off u:=hv
     unfold PtrV at hv
     have ho:=hm.obj id
     unfold ObjOK at ho
     rw [show (cx w σ.ob mu ok).ob id=σ.get (.m id) from rfl] at hv ho
     cases hob:σ.get (.m id) <;> rw [hob] at h hv ho <;> try (simp [Rd.val] at h;done)
     case box cs =>
       obtain ⟨b,hb,rfl⟩:=hv
       obtain ⟨b',cur,e,hb',hh,hc⟩:=ho
       rw [hb] at hb';cases hb'
       obtain ⟨xs,h1,h2⟩:=Zmt (c:=cx w σ.ob mu ok) (fun h hv=>ZpY hm d h hv) h hc
       exact ⟨_,h1,b,cur,e,rfl,⟨trivial,(Array.getElem?_eq_some_iff.1 hh).1,fun _=>by simp [pcx]⟩,hh,h2⟩
   | fn f cs =>
     simp only [Zkg] at h
     obtain ⟨vs,rfl,hc⟩:=hv
     obtain ⟨xs,h1,h2⟩:=Zmt (c:=cx w σ.ob mu ok) (fun h hv=>ZpY hm d h hv) h hc
     exact ⟨_,h1,vs,rfl,h2⟩
   | own id =>
     simp only [Zkg,Rd.val] at h
     change (match σ.get (.m id) with | .row _ τ xs=>_ | .frz τ xs=>_ | _=>_:Rd α).val σ=some r at h
     have hv:OwnV (cx w σ.ob mu ok) id u:=hv
     unfold OwnV at hv
     have ho:=hm.obj id
     unfold ObjOK at ho
     rw [show (cx w σ.ob mu ok).ob id=σ.get (.m id) from rfl] at hv ho
     cases hob:σ.get (.m id) <;> rw [hob] at h hv ho <;> try (simp [Rd.val] at h;done)
     case row e τ xs =>
       refine ⟨_,h,?_⟩
       show (pcx w fun _=>True).DV (.lst τ.sz (xs.map τ.enc)) u
       rcases hv with ⟨hn,rfl,A,rfl⟩ | ⟨b,cap,cur,h1,h2,h3,rfl⟩
       . exact DV.nil _ _ _ (fun _=>rfl)
       . rcases ho with ⟨hn,_⟩ | ⟨b',cap',cur',h1',h2',_,_,hd⟩
         . rw [h1] at hn;cases hn
         . rw [h1] at h1';cases h1'
           have e1:=h2.1.symm.trans h2'.1
           simp only [Option.some.injEq,Obj.cells.injEq,and_true] at e1
           subst e1
           exact Zsx (c:=pcx w fun _=>True) ⟨h2.1,h2.2⟩ h3 (Cx.DVs.imp hdv hd) ⟨trivial,(Array.getElem?_eq_some_iff.1 h2.1).1,fun _=>by simp [pcx]⟩
     case frz τ xs=>exact ⟨_,h,hdv _ _ hv⟩
   | cptr cs off =>
     simp only [Zkg] at h
     obtain ⟨hst,h⟩:=Zb7 h
     exact ⟨_,h,ZhE Zwd (.cptr cs off) u (by simp only [AV.frozen];exact hst) hv⟩
   | undef=>exact still h
   | int _ _=>exact still h
   | bool _=>exact still h
   | str _=>exact still h
   | lst _ _=>exact still h
   | lstn _ _=>exact still h
   | emp=>exact still h
   | ownv _ _ _=>exact still h
   | eptr _ _ _=>exact still h
   | lptr _ _ _ _=>exact still h
   | agg _=>exact still h
   | tup _=>exact still h
   | bfn _ _=>exact still h
   | cst _=>exact still h
   | ifc _ _=>exact still h
   | box _=>exact still h
   | row _ _ _=>exact still h
   | frz _ _=>exact still h
   | dead=>exact still h
   | gone _=>exact still h
theorem ZpB {α:Type} {w0 w:World} {ok:Nat->Prop} {σ:St} {mu:Nat->Option Nat} {r:α} (hm:Mem w0 (cx w σ.ob mu ok)) {vs:List AV} {us:List Value} {k:List AV->Rd α}
   (h:(Zp5 vs k).val σ=some r) (hv:VL (cx w σ.ob mu ok) vs us):∃ vs',(k vs').val σ=some r/\VL (pcx w fun _=>True) vs' us :=
 Zmt (c:=cx w σ.ob mu ok) (fun h hv=>ZpY hm 8 h hv) h hv
theorem Mem.none {w w':World} (h:Below w.heap.size w w'):Mem w (cx w' [] (fun _=>Option.none) fun b=>False\/w.heap.size<=b) :=
 ⟨fun id=>(by unfold ObjOK;rfl),fun _ _ _ h=>(by cases h),fun _ _ h=>(by cases h),h,fun b hb=>.inl (.inr hb)⟩
def YOK (P:Program) (Y:FuncId->Option YSpec):Prop:=∀ g s,Y g=some s->Zd9 P g/\∀ cs a b,s.dec cs=some a->s.fn a=some b ->
 ∀ (w0 w : World) (ok : Nat -> Prop) (ob : List (Nat × AV)) (mu : Nat -> Option Nat) (id : Nat) (vals : Array Value), Mem w0 (cx w ob mu ok) -> look ob id = .box cs -> VL (cx w ob mu ok) [.ptr id 0] vals.toList ->
   Calls P g vals w fun e w'=>∃ u mu',e=.returned u/\Mem w0 (cx w' (Zay [(id,.box (s.enc b).2)] ob) mu' ok)/\Mono (cx w ob mu ok) (cx w' (Zay [(id,.box (s.enc b).2)] ob) mu' ok)/\V (cx w' (Zay [(id,.box (s.enc b).2)] ob) mu' ok) (s.enc b).1 u
theorem Zyr {V:Env} {w0 w:World} {ok:Nat->Prop} {nt fid:Nat} {σ:St} {a:Act} {mu:Nat->Option Nat} {o:Oper} {v:AV} {ws:Wr} {c:Go.Call} {f:Operand}
    {next:Act->World->Prop} {Q:Exit->Act->World->Prop} (hG:∀ f s,V.G f=some s->Zan V.P f s/\Zd9 V.P f) (hP:Ztp V.P V.pure) (hY:YOK V.P V.Y)
    (ho:o.op=.call c) (hb:c.callee=.value f) (h:(ZaM V fid o).val σ=some (v,ws)) (hr:R w0 ok nt ds σ a w mu)
    (hn:∀ u w',Post w0 ok w σ.ob mu v ws u w'->next (a.put o.dst u) w'):o.wp V.P a w next Q:=by
  simp only [ZaM,ho,hb] at h
  have h:=ZbH h
  have hf:=ZaJ hr f
  cases hfv:valOf σ f with
  | fn g caps =>
    rw [hfv] at h hf
    obtain ⟨cv,hf,hcv⟩:=hf
    simp only at h
    cases hg:V.G g with
    | none =>
      rw [hg] at h
      simp only at h
      have h:=ZdX h
      cases hst:AV.stills (c.args.toList.map (valOf σ)++caps) with
      | false =>
        rw [hst] at h
        simp only [cond_false] at h
        have hargs:VL (cx w σ.ob mu ok) (c.args.toList.map (valOf σ)++caps) (c.args.map a.eval++cv).toList:=by
          rw [Array.toList_append]
          exact (Zfh hr).append hcv
        obtain ⟨vs',h,hpc⟩:=ZpB hr.mem h hargs
        obtain ⟨⟨v1,ws1⟩,hp,h⟩:=Zk3 h
        obtain ⟨hent,hnd,hcall⟩:=hP _ _ _ _ _ hp
        have hrun:=ZhB (w:=w) ho hb hf hent
        unfold Oper.wp
        rw [hrun,Oper.upon_enter]
        have hone:(∃ k n,v1=.int k n/\(v,ws)=(.int k n,[]))\/∃ b,v1=.bool b/\(v,ws)=(.bool b,[]):=by
          cases v1 <;> first
            | exact .inl ⟨_,_,rfl,(ZaB h).symm⟩
            | exact .inr ⟨_,rfl,(ZaB h).symm⟩
            | simp [Rd.val] at h
        refine (hcall w _ _ hpc).mono fun e w' he=>?_
        obtain ⟨u,mur,rfl,hmr,hvr⟩:=he
        obtain ⟨mu',k1,k2,k3⟩:=hr.mem.join (ws:=[]) hmr.ext (Mem.none hmr.ext) (by simp) (fun p hp=>by cases hp) (fun b hb hbs=>by
          rcases hb with hb | hb
          . exact hb.elim
          . omega)
        have hv2:Mill.V (cx w' (Zay [] σ.ob) mu' ok) v u:=by
          rcases hone with ⟨k,n,rfl,he⟩ | ⟨b,rfl,he⟩
          . injection he with he _
            subst he
            exact hvr
          . injection he with he _
            subst he
            exact hvr
        have hws:ws=[]:=by
          rcases hone with ⟨k,n,_,he⟩ | ⟨b,_,he⟩ <;> (injection he with _ he)
        subst hws
        exact hn _ _ ⟨mu',k2,k1,hv2⟩
      | true =>
      rw [hst] at h
      simp only [cond_true] at h
      obtain ⟨⟨v1,ws1⟩,hp,h⟩:=Zk3 h
      obtain ⟨hfree,h⟩:=Zi5 h
      have h2:=ZaB h
      injection h2 with h2 h3
      subst h2 h3
      obtain ⟨hent,hnd,hcall⟩:=hP _ _ _ _ _ hp
      have hargs:VL (cx w σ.ob mu ok) (c.args.toList.map (valOf σ)++caps) (c.args.map a.eval++cv).toList:=by
        rw [Array.toList_append]
        exact (Zfh hr).append hcv
      have hrun:=ZhB (w:=w) ho hb hf hent
      unfold Oper.wp
      rw [hrun,Oper.upon_enter]
      have hpc:VL (pcx w (cx w σ.ob mu ok).okb) (c.args.toList.map (valOf σ)++caps) (c.args.map a.eval++cv).toList :=
        Zjx (c:=cx w σ.ob mu ok) (c':=pcx w (cx w σ.ob mu ok).okb) (fun d v hd=>DV.mono (fun b hb=>⟨hb,hb.2.1,fun _=>by simp [pcx]⟩) (fun _ _=>rfl) hd) _ _ hst hargs
      refine (hcall w _ _ hpc).mono fun e w' he=>?_
      obtain ⟨u,mur,rfl,hmr,hvr⟩:=he
      obtain ⟨mu',k1,k2,k3⟩:=hr.mem.join hmr.ext hmr hnd hfree (fun b hb hbs=>by
        rcases hb with hb | hb
        . exact ⟨hb.1,hb.2.2⟩
        . omega)
      exact hn _ _ ⟨mu',k2,k1,k3.v _ _ hvr⟩
    | some s =>
      rw [hg] at h
      simp only at h
      obtain ⟨hspec,hent⟩:=hG g s hg
      have h:=ZdX h
      cases hln:s.lend with
      | true =>
          rw [hln] at h
          simp only [cond_true] at h
          have hargs:VL (cx w σ.ob mu ok) (c.args.toList.map (valOf σ)++caps) (c.args.map a.eval++cv).toList:=by
            rw [Array.toList_append]
            exact (Zfh hr).append hcv
          obtain ⟨vs',h,hpc⟩:=ZpB hr.mem h hargs
          obtain ⟨av,hdec,h⟩:=Za2 h
          obtain ⟨b,hfn,h⟩:=Zk3 h
          have hrun:=ZhB (w:=w) ho hb hf hent
          unfold Oper.wp
          rw [hrun,Oper.upon_enter]
          obtain ⟨hl,h⟩:(s.enc b).lendsAny=false/\_:=by
            cases hl:(s.enc b).lendsAny with
            | true=>rw [hl] at h;simp [Rd.val] at h
            | false=>rw [hl] at h;exact ⟨rfl,h⟩
          simp only [cond_false] at h
          obtain ⟨hfree,h⟩:=Zi5 h
          have h2:=ZaB h
          injection h2 with h2 h3
          subst h2 h3
          obtain ⟨n,hfr⟩:=Zet ((fid*1024+o.dst.getD 1023)*64) (s.enc b)
          refine (hspec w _ _ _ av b hdec hfn hpc).mono fun e w' he=>?_
          obtain ⟨u,rfl,hbel,hres⟩:=he
          obtain ⟨mur,hmr,hvr⟩:=hres.strip hl ((fid*1024+o.dst.getD 1023)*64)
          obtain ⟨mu',k1,k2,k3⟩:=hr.mem.join hbel hmr hfr.2.2.2 hfree (fun b hb hbs=>by
            rcases hb with hb | hb
            . exact hb.elim
            . omega)
          exact hn _ _ ⟨mu',k2,k1,k3.v _ _ hvr⟩
      | false =>
        rw [hln] at h
        simp only [cond_false] at h
        cases caps with
        | cons=>simp [Rd.val] at h
        | nil =>
        simp only at h
        have hcv:cv=#[]:=Array.ext' (Zbo hcv)
        subst hcv
        obtain ⟨xs,ws1,h,hfz,hdat,hto⟩:=ZqX h
        obtain ⟨av,hdec,h⟩:=Za2 h
        obtain ⟨b,hfn,h⟩:=Zk3 h
        obtain ⟨hfree,h⟩:=Zi5 h
        have h2:=ZaB h
        injection h2 with h2 h3
        subst h2 h3
        have hargs:=Zfh (c:=c) hr
        obtain ⟨mu1,hm1,hmono1,hws,hothers⟩:=Zgy hfz hr.mem
        have hargs1:=hto _ _ _ rfl hmono1 hws hargs
        have hrun:=ZhB (w:=w) ho hb hf hent
        rw [Array.append_empty] at hrun
        unfold Oper.wp
        rw [hrun]
        rw [Oper.upon_enter]
        obtain ⟨n,hfr⟩:=Zet ((fid*1024+o.dst.getD 1023)*64) (s.enc b)
        cases hl:(s.enc b).lendsAny with
        | true =>
          rw [hl] at hn
          simp only [cond_true] at hn
          have hpc:VL (pcx w (cx w (Zay ws1 σ.ob) mu1 ok).okb) xs (c.args.map a.eval).toList :=
            ZtB (c:=cx w (Zay ws1 σ.ob) mu1 ok) (c':=pcx w (cx w (Zay ws1 σ.ob) mu1 ok).okb) (fun d v hd=>DV.mono (fun b hb=>⟨hb,hb.2.1,fun _=>by simp [pcx]⟩) (fun _ _=>rfl) hd) hdat hargs1
          refine (hspec w _ xs _ av b hdec hfn hpc).mono fun e w' he=>?_
          obtain ⟨u,rfl,hbel,hres⟩:=he
          obtain ⟨mur,hmr,hvr⟩:=hres ((fid*1024+o.dst.getD 1023)*64)
          obtain ⟨mu',k1,k2,k3⟩:=hm1.join hbel hmr hfr.2.2.2 (fun p hp=>by
            have:=hfree p hp
            rw [(hothers p.1 (fun q hq e=>by
              obtain ⟨_,_,_,h1,_⟩:=hfz q hq
              rw [e,this] at h1
              cases h1)).1]
            exact this) (fun b hb hbs=>by
              rcases hb with hb | hb
              . exact ⟨hb.1,hb.2.2⟩
              . omega)
          exact hn _ _ (Post.after hmono1 ⟨mu',k2,k1,k3.v _ _ hvr⟩)
        | false =>
          rw [hl] at hn
          simp only [cond_false,List.nil_append] at hn
          have hpc:VL (pcx w (fun _=>True)) xs (c.args.map a.eval).toList :=
            ZtB (c:=cx w (Zay ws1 σ.ob) mu1 ok) (c':=pcx w (fun _=>True)) (fun d v hd=>DV.mono (fun b hb=>⟨trivial,hb.2.1,fun _=>by simp [pcx]⟩) (fun _ _=>rfl) hd) hdat hargs1
          refine (hspec w _ xs _ av b hdec hfn hpc).mono fun e w' he=>?_
          obtain ⟨u,rfl,hbel,hres⟩:=he
          obtain ⟨mur,hmr,hvr⟩:=hres.strip hl ((fid*1024+o.dst.getD 1023)*64)
          obtain ⟨mu',k1,k2,k3⟩:=hr.mem.join hbel hmr hfr.2.2.2 hfree (fun b hb hbs=>by
            rcases hb with hb | hb
            . exact hb.elim
            . omega)
          exact hn _ _ ⟨mu',k2,k1,k3.v _ _ hvr⟩
  | bfn g first =>
    rw [hfv] at h hf
    obtain ⟨fs,hfe,hfl⟩:=hf
    split at h
    . rename_i heq;cases heq
    . rename_i g' id heq
      injection heq with e1 e2
      subst e1 e2
      cases hs:V.Y g with
      | none=>rw [hs] at h;simp [Rd.val] at h
      | some s =>
        rw [hs] at h
        obtain ⟨hsz,h⟩:=Zb7 h
        have hsz:=Nat.eq_of_beq_eq_true hsz
        simp only [Rd.val] at h
        change (match look σ.ob id with | .box cs=>_ | _=>_:Rd (AV×Wr)).val σ=some (v,ws) at h
        cases hl:look σ.ob id with
        | box cs =>
          rw [hl] at h
          obtain ⟨av,hdec,h⟩:=Za2 h
          obtain ⟨b,hp,h⟩:=Zk3 h
          have h2:=ZaB h
          injection h2 with h2 h3
          subst h2 h3
          obtain ⟨hent,hspec⟩:=hY g s hs
          have hrun:=Zsd (w:=w) ho hb hfe hent
          have hargs:c.args.map a.eval=#[]:=by
            apply Array.ext'
            rw [Array.toList_map]
            have:c.args.toList=[]:=List.length_eq_zero_iff.1 (by rw [Array.length_toList];exact hsz)
            rw [this];rfl
          rw [hargs,Array.append_empty] at hrun
          unfold Oper.wp
          rw [hrun,Oper.upon_enter]
          refine (hspec cs _ _ hdec hp w0 w ok σ.ob mu id fs hr.mem hl hfl).mono fun e w' he=>?_
          obtain ⟨u,mu',rfl,k1,k2,k3⟩:=he
          exact hn _ _ ⟨mu',k1,k2,k3⟩
        | _=>rw [hl] at h;simp [Rd.val] at h
    . simp [Rd.val] at h
  | _=>rw [hfv] at h;simp [Rd.val] at h
end Go.Proofs.Mill
namespace Go.Proofs.Mill
variable {ds:List Deferred}
open Go.RowKit
section
variable {V:Env} {w0 w:World} {ok:Nat->Prop} {nt fid:Nat} {σ:St} {a:Act} {mu:Nat->Option Nat} {o:Oper} {v:AV} {ws:Wr}
theorem ZuU {α:Type} {x:Option Operand} {k:Option AV->Rd α} {σ:St} {r:α} (h:(opdo x k).val σ=some r):(k (x.map (valOf σ))).val σ=some r:=by
 cases x with
 | none=>exact h
 | some x=>exact ZbH h
theorem Zlj {P:Program} {w:World} {v:Value} {x:AV} {y:Nat} {code:BoundsCode} {c:Cx} (hv:Mill.V c x v) (h0:0<=bnd 0 (some x)) (h1:bnd 0 (some x)<=y) :
   (Instr.sliceBound v y code).run P w=.ok (bnd 0 (some x)).toNat w:=by
 cases x <;> simp only [bnd] at h0 h1 ⊢ <;> try omega
 simp only [Mill.V] at hv
 subst hv
 simp [Instr.sliceBound,asIntOf,h0,h1]
theorem Zkj {P:Program} (hr:R w0 ok nt ds σ a w mu) (lo hi:Option Operand) (isSlice:Bool) (len cap:Nat) (hc:len<=cap)
   (h0:0<=bnd 0 (lo.map (valOf σ))) (h1:bnd 0 (lo.map (valOf σ))<=bnd len (hi.map (valOf σ))) (h2:bnd len (hi.map (valOf σ))<=(len:Int)) :
   (Instr.sliceBounds isSlice len cap (lo.map a.eval) (hi.map a.eval) none).run P w=.ok ((bnd 0 (lo.map (valOf σ))).toNat,(bnd len (hi.map (valOf σ))).toNat,cap) w:=by
 have hb:∀ (x:AV) (d:Int),bnd d (some x)=bnd 0 (some x):=fun x d=>by cases x <;> rfl
 cases lo with
 | none =>
   cases hi with
   | none=>simp [Instr.sliceBounds,bnd]
   | some hi =>
     simp only [Option.map_some,Option.map_none] at h0 h1 h2 ⊢
     rw [hb] at h1 h2 ⊢
     have hz:bnd 0 (none:Option AV)=0:=rfl
     rw [hz] at h1 ⊢
     have e1:=fun code=>Zlj (P:=P) (w:=w) (code:=code) (y:=cap) (ZaJ hr hi) h1 (by omega)
     cases isSlice <;> simp [Instr.sliceBounds,e1]
 | some lo =>
   cases hi with
   | none =>
     simp only [Option.map_some,Option.map_none] at h0 h1 h2 ⊢
     have e1:=fun code=>Zlj (P:=P) (w:=w) (code:=code) (y:=len) (ZaJ hr lo) h0 (by simpa [bnd] using h1)
     cases isSlice <;> simp [Instr.sliceBounds,e1,bnd]
   | some hi =>
     simp only [Option.map_some] at h0 h1 h2 ⊢
     rw [hb _ (len:Int)] at h1 h2 ⊢
     have e1:=fun code=>Zlj (P:=P) (w:=w) (code:=code) (y:=cap) (ZaJ hr hi) (by omega) (by omega)
     have e2:=fun code=>Zlj (P:=P) (w:=w) (code:=code) (y:=(bnd 0 (some (valOf σ hi))).toNat) (ZaJ hr lo) h0 (by omega)
     cases isSlice <;> simp [Instr.sliceBounds,e1,e2]
theorem ZpF:∀ (rows:List (List D)) (n:Nat) (j:Nat) (d:D),(rows.take n).flatten[j]?=some d->rows.flatten[j]?=some d
 | rows, n, j, d, h => by
   have e:rows.flatten=(rows.take n).flatten++(rows.drop n).flatten:=by rw [<- List.flatten_append,List.take_append_drop]
   rw [e,List.getElem?_append_left (List.getElem?_eq_some_iff.1 h).1]
   exact h
theorem Zpm {sz:Nat}:∀ (rows:List (List D)),(∀ r∈rows,r.length=sz)->rows.flatten.length=rows.length*sz
 | [],_=>by simp
 | r :: rs, h => by
   rw [List.flatten_cons,List.length_append,h r (by simp),Zpm rs (fun r hr=>h r (by simp [hr])),List.length_cons,Nat.succ_mul,Nat.add_comm]
theorem ZpZ {sz:Nat} (rows:List (List D)) (hs:∀ r∈rows,r.length=sz) (l:Nat) (hl:l<=rows.length) (j:Nat) (d:D) (h:(rows.drop l).flatten[j]?=some d) :
   rows.flatten[l*sz+j]?=some d:=by
 have e:rows.flatten=(rows.take l).flatten++(rows.drop l).flatten:=by rw [<- List.flatten_append,List.take_append_drop]
 have hlen:(rows.take l).flatten.length=l*sz:=by
   rw [Zpm (sz:=sz) _ (fun r hr=>hs r (List.mem_of_mem_take hr)),List.length_take,Nat.min_eq_left hl]
 rw [e,List.getElem?_append_right (by omega),hlen,Nat.add_sub_cancel_left]
 exact h
theorem ZCH {c:Cx} {τ:Ty} {xs:List τ.den} {v:Value} (h:c.DV (.lst τ.sz (xs.map τ.enc)) v) (l r:Nat) (hlr:l<=r) (hr:r<=xs.length) :
   ∃ A cap,v=.slice A xs.length cap/\xs.length<=cap/\c.DV (.lst τ.sz (((xs.take r).drop l).map τ.enc)) (.slice (if cap=l then A else A.map (·.add (l*τ.sz))) (r-l) (cap-l)):=by
 generalize hd:D.lst τ.sz (xs.map τ.enc)=d at h
 cases h with
 | nil sz A k hA =>
   injection hd with h1 h2
   have:xs=[]:=by simpa using h2
   subst this
   simp only [List.length_nil,Nat.le_zero_eq] at hr
   subst hr
   obtain rfl:l=0:=by omega
   exact ⟨A,k,rfl,by simp,by simpa using (show c.DV _ _ from DV.nil _ _ _ (fun h0=>by
     by_cases hk:k=0
     . omega
     . rw [if_neg hk] at h0
       cases A with
       | none=>exact absurd (hA rfl) hk
       | some a=>simp at h0))⟩
 | lst sz rows b off k u hc hsz hcell hdv hb =>
   injection hd with h1 h2
   subst h1 h2
   have hn:xs.length<=k:=by simpa using hc
   refine ⟨some ⟨b,off,none⟩,k,by simp,hn,?_⟩
   by_cases hlr':l=r
   . subst hlr'
     have:(xs.take l).drop l=[]:=by simp
     rw [this,Nat.sub_self]
     exact DV.nil _ _ _ (fun h0=>by split at h0 <;> cases h0)
   . have hk:¬k=l:=by omega
     rw [if_neg hk]
     have hlen:(((xs.take r).drop l).map τ.enc).length=r-l:=by simp [Nat.min_eq_left hr]
     have hget:∀ j d,(((xs.take r).drop l).map τ.enc).flatten[j]?=some d->(xs.map τ.enc).flatten[l*τ.sz+j]?=some d:=by
       intro j d hj
       rw [List.map_drop,List.map_take] at hj
       refine ZpF _ r _ _ ?_
       exact ZpZ (sz:=τ.sz) _ (fun r hr=>hsz r (List.mem_of_mem_take hr)) l (by simp;omega) j d hj
     have key:=DV.lst (w:=c.w) (ok:=c.okb) τ.sz (((xs.take r).drop l).map τ.enc) b (off+l*τ.sz) (k-l) (fun j=>u (l*τ.sz+j))
       (by rw [hlen];omega) (fun r' hr'=>hsz r' (by
         obtain ⟨x,hx,rfl⟩:=List.mem_map.1 hr'
         exact List.mem_map_of_mem (List.mem_of_mem_take (List.mem_of_mem_drop hx))))
       (fun j d hj=>by
         have:=hcell _ d (hget j d hj)
         rw [Nat.add_assoc]
         exact this)
       (fun j d hj=>hdv _ d (hget j d hj)) hb
     rw [hlen] at key
     have ha:Option.map (fun x:Addr=>x.add (l*τ.sz)) (some ⟨b,off,none⟩)=some ⟨b,off+l*τ.sz,none⟩:=by simp [Zd1]
     rw [ha]
     exact key
 | _=>cases hd
theorem ZwI {nid:Nat} {t:TypeId} {x:Operand} {lo hi:Option Operand} {X:AV} (ho:o.op=.slice t x lo hi none)
   (h:(Zrv V nid t X (lo.map (valOf σ)) (hi.map (valOf σ))).val σ=some (v,ws)) (hr:R w0 ok nt ds σ a w mu) (hx:Mill.V (cx w σ.ob mu ok) X (a.eval x)) :
   Does V.P w0 ok o a w σ.ob mu v ws:=by
 obtain ⟨rfl,k0,n,hhi,h⟩:lo=none/\∃ k n,hi.map (valOf σ)=some (.int k n)/\(sliceTo V nid t X n).val σ=some (v,ws):=by
   unfold Zrv at h
   split at h
   . rename_i k n h1 h2
     exact ⟨by cases lo <;> simp_all,_,_,h2,h⟩
   . simp [Rd.val] at h
 have hbn:∀ d:Int,bnd d (hi.map (valOf σ))=n:=fun d=>by rw [hhi];rfl
 cases X with
 | emp =>
   simp only [sliceTo] at h
   split at h
   case h_2=>simp [Rd.val] at h
   rename_i e he
   split at h
   case h_2=>simp [Rd.val] at h
   rename_i n hs
   obtain ⟨_,i,hi',_⟩:=ZeF hs
   obtain ⟨h0,h⟩:=Zcy h
   have h0:=of_decide_eq_true h0
   have h3:=ZaB h
   injection h3 with h3 h4
   subst h3 h4
   simp only [Mill.V] at hx
   have hu:=Zjl he
   have hb:=Zkj (P:=V.P) hr none hi true 0 0 (Nat.le_refl _) (by simp [bnd]) (by simp only [Option.map_none];show bnd 0 none<=_;rw [hbn,h0];exact Int.le_refl _) (by rw [hbn,h0];exact Int.le_refl _)
   rw [hbn,h0] at hb
   refine .mk (u:=.slice none 0 0) (w':=w) ?_ (Post.pure hr.mem rfl)
   have hsl:(Instr.slice t (.slice none 0 0) ((none:Option Operand).map a.eval) (hi.map a.eval) none).run V.P w=.ok (.slice none 0 0) w:=by
     simp [Instr.slice,run_underlying hu,sizeOf,typeInfo,hi'] at hb ⊢
     simp [hb,bnd]
   simp only [execOp,ho,Sem.run_bind,hx,Option.map_none,Instr.sliceAt,run_underlying hu,Result.andThen_ok] at hsl ⊢
   simp only [hsl,Result.andThen_ok]
   rfl
 | own id =>
   simp only [sliceTo,Rd.val] at h
   change (match σ.get (.m id) with | .row _ τ xs=>_ | _=>_:Rd (AV×Wr)).val σ=some (v,ws) at h
   cases hob:σ.get (.m id) with
   | row e τ xs =>
     rw [hob] at h
     obtain ⟨hs,h⟩:=Zb7 h
     obtain ⟨hid,h⟩:=Zid h
     obtain ⟨h1,h⟩:=Zcy h
     obtain ⟨h2,h⟩:=Zcy h
     have h1:=of_decide_eq_true h1
     have h2:=of_decide_eq_true h2
     have h3:=ZaB h
     injection h3 with h3 h4
     subst h3 h4
     obtain ⟨e',i,hu,hi',hsz⟩:=ZmA hs
     have hrow:look σ.ob id=.row e τ xs:=hob
     obtain ⟨k,rfl⟩:∃ k:Nat,n=k:=⟨n.toNat,by omega⟩
     have hk:=hbn (xs.length:Int)
     have hkl:k<=xs.length:=by omega
     rw [Int.toNat_natCast]
     have hrun:∀ {A:Option Addr} {cap:Nat},xs.length<=cap->a.eval x=.slice A xs.length cap->(execOp a.eval o).run V.P w=.ok (.value (.slice (if cap=0 then A else A.map (·.add 0)) k cap)) w:=by
       intro A cap hcap hxe
       have hb:=Zkj (P:=V.P) hr none hi true xs.length cap hcap (by simp [bnd]) (by rw [hk];simpa [bnd] using h1) (by rw [hk];exact h2)
       rw [hk] at hb
       simp only [Option.map_none,bnd,Int.toNat_zero,Int.toNat_natCast] at hb
       have hsl:(Instr.slice t (.slice A xs.length cap) none (hi.map a.eval) none).run V.P w=.ok (.slice (if cap=0 then A else A.map (·.add 0)) k cap) w:=by
         simp [Instr.slice,run_underlying hu,hb,sizeOf,typeInfo,hi']
       simp only [execOp,ho,Sem.run_bind,hxe,Option.map_none,Instr.sliceAt,run_underlying hu,hsl,Result.andThen_ok]
       rfl
     have hxo:OwnV (cx w σ.ob mu ok) id (a.eval x):=hx
     have hlenk:(xs.take k).length=k:=by rw [List.length_take];omega
     have hpass:∀ (o:AV),∃ mu',mu' nid=mu id/\Mono (cx w σ.ob mu ok) (cx w ((nid,o)::Zay [(id,.dead)] σ.ob) mu' ok) /\
         (ObjOK (cx w ((nid,o)::Zay [(id,.dead)] σ.ob) mu' ok) nid->Mem w0 (cx w ((nid,o)::Zay [(id,.dead)] σ.ob) mu' ok)):=by
       intro o
       have:=hr.mem.pass (w':=w) (o:=o) (blk:=mu id) (.inl rfl) hid (by rw [hrow];simp) (Turned.refl _ _) (fun b hb=>⟨.inl hb,hr.mem.lt hb⟩)
       exact ⟨_,Zbw _ _ _,this.1,this.2⟩
     obtain ⟨mu',hm1,hm2,hm3⟩:=hpass (.row e τ (xs.take k))
     have hl:(cx w ((nid,.row e τ (xs.take k))::Zay [(id,.dead)] σ.ob) mu' ok).ob nid=.row e τ (xs.take k):=look_eq _ _ _
     have ho':=hr.mem.obj id
     unfold OwnV at hxo
     unfold ObjOK at ho'
     rw [show (cx w σ.ob mu ok).ob id=.row e τ xs from hrow] at hxo ho'
     rcases hxo with ⟨hmu,rfl,B,hxe⟩ | ⟨b0,cap0,cur0,hmu,hr0,hl0,hxe⟩
     . have hk0:k=0:=by simpa using hkl
       subst hk0
       have:=hrun (A:=B) (cap:=0) (by simp) hxe
       rw [if_pos rfl] at this
       refine .mk this ⟨mu',hm3 ?_,hm2,?_⟩
       . unfold ObjOK
         rw [hl]
         exact .inl ⟨hm1.trans hmu,rfl⟩
       . show OwnV (cx w ((nid,.row e τ _)::Zay [(id,.dead)] σ.ob) mu' ok) nid _
         unfold OwnV
         rw [hl]
         exact .inl ⟨hm1.trans hmu,rfl,B,rfl⟩
     . rcases ho' with ⟨hn,_⟩ | ⟨b',cap',cur',hmu',hr',hl',hcm',hd'⟩
       . rw [hmu] at hn;cases hn
       rw [hmu] at hmu';obtain rfl:=Option.some.inj hmu'
       have e1:=hr0.1.symm.trans hr'.1
       simp only [Option.some.injEq,Obj.cells.injEq,and_true] at e1
       subst e1
       have hcap:cap0=cap':=Nat.eq_of_mul_eq_mul_right τ.sz_pos (hr0.2.symm.trans hr'.2)
       subst hcap
       have:=hrun (A:=some ⟨b0,0,none⟩) (cap:=cap0) hl0 hxe
       have haddr:(if cap0=0 then (some ⟨b0,0,none⟩:Option Addr) else Option.map (fun x:Addr=>x.add 0) (some ⟨b0,0,none⟩))=some ⟨b0,0,none⟩:=by
         split
         . rfl
         . simp [Zd1]
       rw [haddr] at this
       refine .mk this ⟨mu',hm3 ?_,hm2,?_⟩
       . unfold ObjOK
         rw [hl]
         refine .inr ⟨b0,cap0,cur0,hm1.trans hmu,hr0,by rw [hlenk];omega,hcm',?_⟩
         rw [hlenk]
         have hsplit:(xs.map τ.enc).flatten=((xs.take k).map τ.enc).flatten++((xs.drop k).map τ.enc).flatten:=by
           rw [<- List.flatten_append,<- List.map_append,List.take_append_drop]
         rw [hsplit] at hd'
         obtain ⟨us,ws',hus,hd1,hd2⟩:=Cx.DVs.split hd'
         have hlu:us.length=k*τ.sz:=by
           have:=hd1.length
           rw [Zbn,hlenk] at this
           exact this.symm
         have htk:cur0.toList.take (k*τ.sz)=us:=by
           have:(cur0.toList.take (xs.length*τ.sz)).take (k*τ.sz)=us:=by rw [hus,<- hlu,List.take_left'];rfl
           rw [List.take_take] at this
           rw [<- this]
           congr 1
           have:=Nat.mul_le_mul_right τ.sz hkl
           omega
         rw [htk]
         exact Cx.DVs.imp hm2.dv hd1
       . show OwnV (cx w ((nid,.row e τ _)::Zay [(id,.dead)] σ.ob) mu' ok) nid _
         unfold OwnV
         rw [hl]
         exact .inr ⟨b0,cap0,cur0,hm1.trans hmu,hr0,by rw [hlenk];omega,by rw [hlenk]⟩
   | _=>rw [hob] at h;simp [Rd.val] at h
 | _=>simp [sliceTo,Rd.val] at h
theorem Zq7 {t:TypeId} {x:Operand} {lo hi:Option Operand} (ho:o.op=.slice t x lo hi none) (h:(ZaM V fid o).val σ=some (v,ws)) (hr:R w0 ok nt ds σ a w mu) :
   Does V.P w0 ok o a w σ.ob mu v ws:=by
 simp only [ZaM,ho] at h
 have h:=ZbH (ZuU (ZuU h))
 have hx:=ZaJ hr x
 generalize e1:valOf σ x=X at h hx
 cases hmv:V.mv fid with
 | true=>rw [hmv] at h;exact ZwI ho h hr hx
 | false =>
 rw [hmv] at h
 simp only [cond_false] at h
 have rest:∀ {X:AV},Mill.V (cx w σ.ob mu ok) X (a.eval x)->(Zhr X fun v ws=>match v with
   | .lst τ xs=>bif ZgJ V t τ.sz then
       .ask (decide (0<=bnd 0 (lo.map (valOf σ)))) (.ask (decide (bnd 0 (lo.map (valOf σ))<=bnd xs.length (hi.map (valOf σ)))) (.ask (decide (bnd xs.length (hi.map (valOf σ))<=(xs.length:Int)))
         (.ret (.lst τ ((xs.take (bnd xs.length (hi.map (valOf σ))).toNat).drop (bnd 0 (lo.map (valOf σ))).toNat),ws)) .fail) .fail) .fail
     else .fail
   | _=>.fail:Rd (AV×Wr)).val σ=some (v,ws)->Does V.P w0 ok o a w σ.ob mu v ws:=by
   intro X hx h
   obtain ⟨y,ws1,h,hfz,hone,hto⟩:=Zpf h
   cases y with
   | lst τ xs =>
     simp only at h
     obtain ⟨hs,h⟩:=Zb7 h
     obtain ⟨h0,h⟩:=Zcy h
     obtain ⟨h1,h⟩:=Zcy h
     obtain ⟨h2,h⟩:=Zcy h
     have h0:=of_decide_eq_true h0
     have h1:=of_decide_eq_true h1
     have h2:=of_decide_eq_true h2
     have h3:=ZaB h
     injection h3 with h3 h4
     subst h3 h4
     obtain ⟨mu1,hm1,hmono1,hws,hothers⟩:=Zgy hfz hr.mem
     have hv:(cx w (Zay ws1 σ.ob) mu1 ok).DV _ _:=hto _ _ _ rfl hmono1 hws hx
     obtain ⟨A,cap,hxe,hcap,hsub⟩:=ZCH hv (bnd 0 (lo.map (valOf σ))).toNat (bnd xs.length (hi.map (valOf σ))).toNat (by omega) (by omega)
     obtain ⟨e,i,hu,hi',hsz⟩:=ZmA hs
     have hb:=Zkj (P:=V.P) hr lo hi true xs.length cap hcap h0 h1 h2
     refine .mk (w':=w) ?_ ⟨mu1,hm1,hmono1,hsub⟩
     have hsl:(Instr.slice t (.slice A xs.length cap) (lo.map a.eval) (hi.map a.eval) none).run V.P w=.ok (.slice (if cap=(bnd 0 (lo.map (valOf σ))).toNat then A else A.map (·.add ((bnd 0 (lo.map (valOf σ))).toNat*τ.sz))) ((bnd xs.length (hi.map (valOf σ))).toNat-(bnd 0 (lo.map (valOf σ))).toNat) (cap-(bnd 0 (lo.map (valOf σ))).toNat)) w:=by
       simp [Instr.slice,run_underlying hu,hb,sizeOf,typeInfo,hi',hsz]
     simp only [execOp,ho,Sem.run_bind,hxe,Option.map_none,Instr.sliceAt,run_underlying hu,hsl,Result.andThen_ok]
     rfl
   | _=>simp [Rd.val] at h
 cases X with
 | str s =>
   simp only [ZyE] at h
   split at h
   case h_2=>simp [Rd.val] at h
   rename_i hu
   obtain ⟨h0,h⟩:=Zcy h
   obtain ⟨h1,h⟩:=Zcy h
   obtain ⟨h2,h⟩:=Zcy h
   have h0:=of_decide_eq_true h0
   have h1:=of_decide_eq_true h1
   have h2:=of_decide_eq_true h2
   have h3:=ZaB h
   injection h3 with h3 h4
   subst h3 h4
   simp only [Mill.V] at hx
   have hb:=Zkj (P:=V.P) hr lo hi false s.size s.size (Nat.le_refl _) h0 h1 h2
   refine .mk (u:=.string (s.extract (bnd 0 (lo.map (valOf σ))).toNat (bnd s.size (hi.map (valOf σ))).toNat)) (w':=w) ?_ (Post.pure hr.mem (ZAR _ _))
   simp only [execOp,ho,Sem.run_bind,hx,Instr.sliceAt,Instr.slice,run_underlying hu,Result.andThen_ok,Option.map_none]
   simp [hb]
 | _=>exact rest hx h
end
end Go.Proofs.Mill
namespace Go.Proofs.Mill
variable {ds:List Deferred}
open Go.RowKit
theorem Does.wp {P:Program} {w0 w:World} {ok:Nat->Prop} {o:Oper} {a:Act} {ob:List (Nat×AV)} {mu:Nat->Option Nat} {v:AV} {ws:Wr}
    {next:Act->World->Prop} {Q:Exit->Act->World->Prop} (h:Does P w0 ok o a w ob mu v ws) (hn:∀ u w',Post w0 ok w ob mu v ws u w'->next (a.put o.dst u) w'):o.wp P a w next Q:=by
  obtain ⟨u,w',h,hp⟩:=h
  unfold Oper.wp
  rcases h with h | ⟨h,rfl⟩
  . rw [h];exact hn u w' hp
  . rw [h];exact hn undef w' hp
def XOK (P:Program) (X:FuncId->Option XSpec):Prop:=∀ f s,X f=some s->Zd9 P f/\∀ fid args ob y post,s.pre fid args ob=some (some y,post) ->
 ∀ (w0 : World) (ok : Nat -> Prop) (w : World) (mu : Nat -> Option Nat) (vals : Array Value), Mem w0 (cx w ob mu ok) -> VL (cx w ob mu ok) args vals.toList ->
   Calls P f vals w fun e w'=>∃ u mu',e=.returned u/\Mem w0 (cx w' (post y).2 mu' ok)/\Mono (cx w ob mu ok) (cx w' (post y).2 mu' ok)/\V (cx w' (post y).2 mu' ok) (post y).1 u
def Zai (V:Env):Prop:=(∀ f s,V.G f=some s->Zan V.P f s/\Zd9 V.P f)/\V.P.follows .mixedOrders=true/\(∀ f,V.ent f=true->Zd9 V.P f)/\Ztp V.P V.pure/\XOK V.P V.X/\YOK V.P V.Y
theorem Zz5 {V:Env} {w0 w:World} {ok:Nat->Prop} {nt fid:Nat} {σ:St} {a:Act} {mu:Nat->Option Nat} {o:Oper} {v:AV} {ws:Wr}
    {next:Act->World->Prop} {Q:Exit->Act->World->Prop} (hG:Zai V)
    (h:(ZaM V fid o).val σ=some (v,ws)) (hr:R w0 ok nt ds σ a w mu)
    (hn:∀ u w',Post w0 ok w σ.ob mu v ws u w'->next (a.put o.dst u) w'):o.wp V.P a w next Q:=by
  cases ho:o.op with
  | move x=>exact (Zlk (.inl ho) h hr).wp hn
  | assign x=>exact (Zlk (.inr ho) h hr).wp hn
  | pick c x y=>exact (ZsA ho h hr).wp hn
  | alloc e=>exact (Zq9 ho h hr).wp hn
  | box e x=>exact (ZuX ho h hr).wp hn
  | build t ps=>exact (Zqz ho h hr).wp hn
  | buildSlice t n ps=>exact (Zln ho h hr).wp hn
  | load t x=>exact (ZsB ho h hr).wp hn
  | store t x y=>exact (Zqd ho h hr).wp hn
  | binOp op t x y s=>exact (Zqe ho h hr).wp hn
  | nilCheck x=>exact (Zns ho h hr).wp hn
  | typeAssert x s t b=>exact (Zlx ho h hr).wp hn
  | unOp op t x=>exact (Zst ho h hr).wp hn
  | convert s t x=>exact (ZnY ho h hr).wp hn
  | fieldAddr s x f=>exact (Zmr ho h hr).wp hn
  | field s x f=>exact (ZqT ho h hr).wp hn
  | indexAddr t x y=>exact (Zl1 ho h hr).wp hn
  | index t x y=>exact (Zra ho h hr).wp hn
  | slice t x lo hi mx =>
    cases mx with
    | none=>exact (Zq7 ho h hr).wp hn
    | some _=>simp [ZaM,ho,Rd.val] at h
  | extract x i=>exact (ZnW ho h hr).wp hn
  | makeFunc fn first caps=>exact (Zm9 ho h hr).wp hn
  | makeInterface t x=>exact (Zjn ho h hr).wp hn
  | makeSlice t x y=>exact (Zmo ho h hr).wp hn
  | call c =>
    cases hb:c.callee with
    | value f=>exact Zyr hG.1 hG.2.2.2.1 hG.2.2.2.2.2 ho hb h hr hn
    | invoke r m=>simp [ZaM,ho,hb,Rd.val] at h
    | builtin b =>
      cases b with
      | len=>exact (Zzn ho hb h hr).wp hn
      | max=>exact (ZzN ho hb h hr).wp hn
      | cap=>exact (ZzZ ho hb h hr).wp hn
      | min=>exact (ZzH ho hb h hr).wp hn
      | append=>exact (ZvA ho hb h hr).wp hn
      | _=>simp [ZaM,ho,hb,Rd.val] at h
  | _=>simp [ZaM,ho,Rd.val] at h
end Go.Proofs.Mill
namespace Go.Proofs.Mill
open Go.RowKit
abbrev Za4 (ro:Option Nat):Fence:={ Fence.wide with round:=ro }
theorem Zqa:Za4 none=Fence.wide:=rfl
theorem Zvv {ro:Option Nat} {n:Nat} {P:Program} {row:String} {args:Array Value} {w:World} {R:Value->World->Prop} (h:Rows P row args w R):RowsIn (Za4 ro) n P row args w R:=by
 intro c cs _
 obtain ⟨v,w',hr,hs⟩:=h c cs
 exact ⟨v,w',hr,stepsIn_wide.2 hs⟩
theorem ZjO {ro:Option Nat} {n:Nat} {P:Program} {f:FuncId} {args:Array Value} {w:World} {R:Ending->World->Prop} (h:Calls P f args w R):CallsIn (Za4 ro) n P f args w R :=
 (callsIn_wide (n:=n)).2 h
theorem Zmw {ro:Option Nat} {n:Nat} {P:Program} {o:Oper} {a:Act} {w:World} {K:Act->World->Prop} {Q:Exit->Act->World->Prop} (hd:∀ c,o.op≠.defer c) (h:o.wp P a w K Q) :
   o.wpIn (Za4 ro) n P a w K Q:=by
 refine ⟨fun f _=>trivial,?_⟩
 have e:Oper.semAt ro a.eval o=execOp a.eval o:=by
   cases ro with
   | none=>rfl
   | some l=>exact Oper.semAt_some l _ _ hd
 show o.uponIn (Za4 ro) n P a K Q ((Oper.semAt ro a.eval o).run P w)
 rw [e]
 unfold Oper.wp at h
 generalize (execOp a.eval o).run P w=r at h ⊢
 cases r with
 | ok nx w' =>
   cases nx with
   | value v=>exact h
   | skip=>exact h
   | defer d=>exact h
   | enter f args=>exact ⟨fun hd=>(by cases hd),ZjO h⟩
   | row row args=>exact ⟨fun hd=>(by cases hd),Zvv h⟩
   | _=>exact h.elim
 | halt hl w' =>
   cases hl with
   | panic v=>exact h
   | _=>exact h.elim
theorem ZsW {V:Env} {fid:Nat} {o:Oper} {σ:St} {p:AV×Wr} (h:(ZaM V fid o).val σ=some p):∀ c,o.op≠.defer c:=by
 intro c e
 unfold ZaM at h
 rw [e] at h
 simp [Rd.val] at h
end Go.Proofs.Mill
namespace Go.Proofs.Mill
variable {ds:List Deferred}
open Go.RowKit
def St.like (σ τ:St):Prop:=∀ l,σ.get l=τ.get l
theorem St.like.refl (σ:St):σ.like σ:=fun _=>rfl
theorem St.like.symm {σ τ:St} (h:σ.like τ):τ.like σ:=fun l=>(h l).symm
theorem St.like.trans {σ τ υ:St} (h:σ.like τ) (k:τ.like υ):σ.like υ:=fun l=>(h l).trans (k l)
theorem St.like.tm {σ τ:St} (h:σ.like τ) (t:Nat):look σ.tm t=look τ.tm t:=h (.t t)
theorem St.like.ob {σ τ:St} (h:σ.like τ):look σ.ob=look τ.ob:=funext fun n=>h (.m n)
section
variable {V:Env} {w0 w w':World} {ok:Nat->Prop} {nt fid:Nat} {σ τ:St} {a:Act} {mu mu':Nat->Option Nat} {o:Oper} {v:AV} {ws:Wr} {u:Value}
theorem R.like (hr:R w0 ok nt ds σ a w mu) (h:σ.like τ):R w0 ok nt ds τ a w mu:=by
 obtain ⟨h1,h2,h3,h4,h5,h6⟩:=hr
 have e:=h.ob
 refine ⟨by rw [<- e];exact h1,fun t ht=>?_,fun t ht=>?_,h4,h5,by rw [<- e];exact h6⟩
 . rw [<- e,<- h.tm t];exact h2 t ht
 . rw [<- h.tm t];exact h3 t ht
theorem Zzu {d:Nat} (h:Zcv nt (some d)=true):d<nt:=by simpa [Zcv] using h
theorem R.go {ob':List (Nat×AV)} (hr:R w0 ok nt ds σ a w mu) (hm:Mem w0 (cx w' ob' mu' ok)) (hmono:Mono (cx w σ.ob mu ok) (cx w' ob' mu' ok)):R w0 ok nt ds ⟨σ.tm,ob'⟩ a w' mu' :=
 ⟨hm,fun t ht=>hmono.v _ _ (hr.tm t ht),hr.far,hr.size,hr.defers,hmono.marks hr.marks⟩
theorem R.set {dst:Option Nat} (hr:R w0 ok nt ds σ a w mu) (hd:Zcv nt dst=true) (hv:Mill.V (cx w σ.ob mu ok) v u):R w0 ok nt ds (σ.put dst v []) (a.put dst u) w mu:=by
 cases dst with
 | none=>exact hr
 | some d =>
   have hd:=Zzu hd
   refine ⟨hr.mem,fun t ht=>?_,fun t ht=>?_,?_,hr.defers,hr.marks⟩
   . show Mill.V (cx w σ.ob mu ok) (look ((d,v)::σ.tm) t) ((a.tmps.setIfInBounds d u).getD t undef)
     by_cases e:d=t
     . subst e
       rw [look_eq]
       have:(a.tmps.setIfInBounds d u).getD d undef=u:=by
         have hs:d<a.tmps.size:=by rw [hr.size];exact hd
         simp [Array.getD,hs]
       rw [this];exact hv
     . rw [ZaQ _ _ e]
       have:(a.tmps.setIfInBounds d u).getD t undef=a.tmps.getD t undef:=by
         simp [Array.getD_eq_getD_getElem?,Array.getElem?_setIfInBounds_ne e]
       rw [this];exact hr.tm t ht
   . show look ((d,v)::σ.tm) t=.undef
     rw [ZaQ _ _ (by omega)];exact hr.far t ht
   . show (a.tmps.setIfInBounds d u).size=nt
     simp [hr.size]
theorem put_eq (σ:St) (dst:Option Nat) (v:AV) (ws:Wr):σ.put dst v ws=St.put ⟨σ.tm,Zay ws σ.ob⟩ dst v []:=by cases dst <;> rfl
def opRd (V:Env) (fid:Nat) (ops:Array Oper) (o:Oper):Rd (AV×Wr) :=
 match o.guard with
 | none=>ZaM V fid o
 | some (j, want) => match (ops[j]?).bind (·.dst) with
   | some d => .rd (.t d) fun
     | .bool b=>bif b == want then ZaM V fid o else .ret (.tup [],[])
     | .tup []=>.ret (.tup [],[])
     | _=>.fail
   | none=>.fail
def Zlu (ro:Option Nat) (P:Program) (ops:Array Oper) (o:Oper) (Q:Exit->Act->World->Prop) (K:Act->World->Prop) (a:Act) (w:World):Prop :=
 if Region.wanted o (yielded ops a.tmps) then o.wpIn (Za4 ro) 0 P a w K Q else (∀ f,o.about P w a.eval=some f->(Za4 ro).fn f)/\K (a.put o.dst undef) w
theorem Zik {ro:Option Nat} {P:Program} {ops:Array Oper} {Q:Exit->Act->World->Prop} {K:Act->World->Prop} (h:¬Region.wanted o (yielded ops a.tmps)=true) (hk:K (a.put o.dst undef) w):Zlu ro P ops o Q K a w:=by
 unfold Zlu
 rw [if_neg h]
 exact ⟨fun _ _=>trivial,hk⟩
theorem Zgn {ro:Option Nat} {P:Program} {ops:Array Oper} {Q:Exit->Act->World->Prop} {K:Act->World->Prop} (h:Region.wanted o (yielded ops a.tmps)=true) (hk:o.wpIn (Za4 ro) 0 P a w K Q):Zlu ro P ops o Q K a w:=by
 unfold Zlu
 rw [if_pos h]
 exact hk
theorem Zha {ro:Option Nat} {P:Program} {ops:Array Oper} {Q:Exit->Act->World->Prop} {rest:List Oper}:wpListIn (Za4 ro) 0 P ops Q (o::rest) a w=Zlu ro P ops o Q (wpListIn (Za4 ro) 0 P ops Q rest) a w:=rfl
theorem ZAp {d:Nat} {b:Bool} (hr:R w0 ok nt ds σ a w mu) (h:look σ.tm d=.bool b):d<nt/\a.tmps[d]?=some (.bool b):=by
 have hd:d<nt:=by
   apply Classical.byContradiction
   intro hn
   rw [hr.far d (Nat.le_of_not_lt hn)] at h
   cases h
 have:=hr.tm d hd
 rw [h] at this
 have hs:d<a.tmps.size:=by rw [hr.size];exact hd
 refine ⟨hd,?_⟩
 have e:a.tmps.getD d undef=.bool b:=this
 simpa [Array.getD,hs] using e
theorem Zmv {ops:Array Oper} {j d:Nat} {b:Bool} (hr:R w0 ok nt ds σ a w mu) (hj:(ops[j]?).bind (·.dst)=some d) (h:look σ.tm d=.bool b):yielded ops a.tmps j=some b:=by
 unfold yielded
 rw [hj]
 show (match a.tmps[d]? with | some (.bool b)=>some b | _=>none)=some b
 rw [(ZAp hr h).2]
theorem ZC2 {c:Cx}:Mill.V c (.tup []) undef:=⟨#[],rfl,trivial⟩
theorem Zos {ops:Array Oper} {j d:Nat} (hr:R w0 ok nt ds σ a w mu) (hj:(ops[j]?).bind (·.dst)=some d) (h:look σ.tm d=.tup []):yielded ops a.tmps j=none:=by
 have hd:d<nt:=by
   apply Classical.byContradiction
   intro hn
   rw [hr.far d (Nat.le_of_not_lt hn)] at h
   cases h
 have:=hr.tm d hd
 rw [h] at this
 obtain ⟨vs,e,hv⟩:=this
 have hs:d<a.tmps.size:=by rw [hr.size];exact hd
 have e2:a.tmps[d]?=some (.tuple vs):=by simpa [Array.getD,hs] using e
 unfold yielded
 rw [hj]
 show (match a.tmps[d]? with | some (.bool b)=>some b | _=>none)=none
 rw [e2]
end
end Go.Proofs.Mill
namespace Go.Proofs.Mill
variable {ds:List Deferred}
open Go.RowKit
def Holds (J:Cx->Prop) (w0:World) (ok:Nat->Prop) (nt:Nat) (ds:List Deferred) (σ:St) (a:Act) (w:World):Prop :=
 ∃ mu,R w0 ok nt ds σ a w mu/\J (cx w σ.ob mu ok)
def T:Cx->Prop:=fun _=>True
def Stays (J:Cx->Prop):Prop:=∀ c c',J c->Mono c c'->J c'
def Zgb {ρ:Type} (V:Env) (inl:Inl ρ):Prop :=
 ∀ (f : FuncId) (fid : Nat) (args : List AV) (ob : List (Nat × AV)) (k : AV -> List (Nat × AV) -> Option ρ) (r : ρ), inl f fid args ob k = some r ->
   Zd9 V.P f/\∀ (w0:World) (ok:Nat->Prop) (w:World) (mu:Nat->Option Nat) (vals:Array Value),Mem w0 (cx w ob mu ok)->VL (cx w ob mu ok) args vals.toList ->
     Calls V.P f vals w fun e w'=>∃ v u ob' mu',e=.returned u/\Mem w0 (cx w' ob' mu' ok)/\Mono (cx w ob mu ok) (cx w' ob' mu' ok)/\Mill.V (cx w' ob' mu' ok) v u/\k v ob'=some r
section
variable {V:Env} {J:Cx->Prop} {w0 w:World} {ok:Nat->Prop} {nt fid:Nat} {σ τ:St} {a:Act} {o:Oper} {v:AV} {ws:Wr} {ro:Option Nat}
theorem Holds.like (h:Holds J w0 ok nt ds σ a w) (e:σ.like τ):Holds J w0 ok nt ds τ a w:=by
 obtain ⟨mu,hr,hj⟩:=h
 have e2:=e.ob
 refine ⟨mu,hr.like e,?_⟩
 show J ⟨w,look τ.ob,mu,ok⟩
 rw [<- e2]
 exact hj
theorem ZkC (σ:St) (dst:Option Nat) (v:AV) (ws:Wr):(σ.put dst v ws).ob=Zay ws σ.ob:=by cases dst <;> rfl
theorem Holds.put {w':World} {mu:Nat->Option Nat} {u:Value} (hJ:Stays J) (hr:R w0 ok nt ds σ a w mu) (hj:J (cx w σ.ob mu ok)) (hd:Zcv nt o.dst=true)
   (hp:Post w0 ok w σ.ob mu v ws u w'):Holds J w0 ok nt ds (σ.put o.dst v ws) (a.put o.dst u) w':=by
 obtain ⟨mu',hm,hmono,hv⟩:=hp
 refine ⟨mu',?_,?_⟩
 . rw [put_eq];exact (hr.go hm hmono).set hd hv
 . rw [ZkC];exact hJ _ _ hj hmono
theorem Holds.skip (h:Holds J w0 ok nt ds σ a w) (hd:Zcv nt o.dst=true):Holds J w0 ok nt ds (σ.put o.dst (.tup []) []) (a.put o.dst undef) w:=by
 obtain ⟨mu,hr,hj⟩:=h
 refine ⟨mu,hr.set hd ZC2,?_⟩
 rw [ZkC];exact hj
theorem Zph {K:Act->World->Prop} {Q:Exit->Act->World->Prop} (hG:Zai V) (hJ:Stays J) (hh:Holds J w0 ok nt ds σ a w) (hd:Zcv nt o.dst=true)
   (h:(ZaM V fid o).val σ=some (v,ws)) (hn:∀ a' w',Holds J w0 ok nt ds (σ.put o.dst v ws) a' w'->K a' w'):o.wpIn (Za4 ro) 0 V.P a w K Q:=by
 obtain ⟨mu,hr,hj⟩:=hh
 refine Zmw (ZsW h) ?_
 exact Zz5 hG h hr fun u w' hp=>hn _ _ (Holds.put hJ hr hj hd hp)
theorem ZxH {f:FuncId} {args:List AV} (h:Zrp V σ o=some (f,args)) :
   ∃ c x,o.op=.call c/\c.callee=.value x/\((∃ caps,valOf σ x=.fn f caps/\args=c.args.toList.map (valOf σ)++caps)\/∃ fs,valOf σ x=.bfn f fs/\args=fs++c.args.toList.map (valOf σ)):=by
 unfold Zrp at h
 split at h
 . rename_i c hc
   split at h
   . rename_i x hx
     split at h
     . rename_i g caps hg
       split at h
       . cases hb:V.walk g with
         | false=>rw [hb] at h;cases h
         | true =>
           rw [hb] at h
           injection h with h
           injection h with h1 h2
           subst h1
           exact ⟨c,x,hc,hx,.inl ⟨_,hg,h2.symm⟩⟩
       . injection h with h
         injection h with h1 h2
         subst h1
         exact ⟨c,x,hc,hx,.inl ⟨_,hg,h2.symm⟩⟩
     . rename_i g first hg
       split at h
       . cases h
       injection h with h
       injection h with h1 h2
       subst h1
       exact ⟨c,x,hc,hx,.inr ⟨_,hg,h2.symm⟩⟩
     . cases h
   . cases h
 . cases h
theorem Zrr {ρ:Type} {inl:Inl ρ} {k:St->Option ρ} {r:ρ} {K:Act->World->Prop} {Q:Exit->Act->World->Prop} (hG:Zai V) (hI:Zgb V inl) (hJ:Stays J)
   (hh:Holds J w0 ok nt ds σ a w) (h:actK V inl fid nt o σ k=some r) (hn:∀ σ' a' w',Holds J w0 ok nt ds σ' a' w'->k σ'=some r->K a' w'):o.wpIn (Za4 ro) 0 V.P a w K Q:=by
 unfold actK at h
 cases hd:Zcv nt o.dst with
 | false=>rw [hd] at h;cases h
 | true =>
   rw [hd] at h
   simp only [cond_true] at h
   split at h
   . rename_i f args hi
     obtain ⟨c,x,hc,hx,hcase⟩:=ZxH hi
     obtain ⟨hent,hcall⟩:=hI _ _ _ _ _ _ h
     obtain ⟨mu,hr,hj⟩:=hh
     have hf:=ZaJ hr x
     refine Zmw (fun c' e=>by rw [hc] at e;cases e) ?_
     unfold Oper.wp
     rcases hcase with ⟨caps,hv,rfl⟩ | ⟨fs,hv,rfl⟩
     . rw [hv] at hf
       obtain ⟨vs,hfe,hcv⟩:=hf
       rw [ZhB (w:=w) hc hx hfe hent,Oper.upon_enter]
       refine (hcall w0 ok w mu (c.args.map a.eval++vs) hr.mem (by rw [Array.toList_append];exact (Zfh hr).append hcv)).mono fun e w' he=>?_
       obtain ⟨v,u,ob',mu',rfl,hm,hmono,hv,hk⟩:=he
       refine hn _ _ _ ⟨mu',(hr.go hm hmono).set hd hv,?_⟩ hk
       rw [ZkC]
       exact hJ _ _ hj hmono
     . rw [hv] at hf
       obtain ⟨vs,hfe,hcv⟩:=hf
       rw [Zsd (w:=w) hc hx hfe hent,Oper.upon_enter]
       refine (hcall w0 ok w mu (vs++c.args.map a.eval) hr.mem (by rw [Array.toList_append];exact hcv.append (Zfh hr))).mono fun e w' he=>?_
       obtain ⟨v,u,ob',mu',rfl,hm,hmono,hv,hk⟩:=he
       refine hn _ _ _ ⟨mu',(hr.go hm hmono).set hd hv,?_⟩ hk
       rw [ZkC]
       exact hJ _ _ hj hmono
   . obtain ⟨p,log,h1,h2⟩:=Rd.runK_val h
     exact Zph hG hJ hh hd h1 fun a' w' hh'=>hn _ _ _ hh' h2
theorem Zm2 {d:Nat} {b:Bool} (h:look σ.tm d=.bool b):σ.like ⟨(d,.bool b)::σ.tm,σ.ob⟩:=by
 intro l
 cases l with
 | m n=>rfl
 | t n =>
   show look σ.tm n=look ((d,.bool b)::σ.tm) n
   by_cases e:d=n
   . subst e;rw [look_eq];exact h
   . rw [ZaQ _ _ e]
theorem ZuZ {ρ:Type} {inl:Inl ρ} {k:St->Option ρ} {r:ρ} {K:Act->World->Prop} {Q:Exit->Act->World->Prop} {ops:Array Oper} (hG:Zai V) (hI:Zgb V inl) (hJ:Stays J)
   (hh:Holds J w0 ok nt ds σ a w) (h:opK V inl fid nt ops o σ k=some r) (hn:∀ σ' a' w',Holds J w0 ok nt ds σ' a' w'->k σ'=some r->K a' w'):Zlu ro V.P ops o Q K a w:=by
 unfold opK at h
 split at h
 . rename_i hg
   exact Zgn (by simp [Region.wanted,hg]) (Zrr hG hI hJ hh h hn)
 . rename_i j want hg
   split at h
   . rename_i d hj
     split at h
     . rename_i b hb
       obtain ⟨mu,hr,hj'⟩:=hh
       have hy:=Zmv hr hj hb
       have hh':Holds J w0 ok nt ds ⟨(d,.bool b)::σ.tm,σ.ob⟩ a w:=Holds.like ⟨mu,hr,hj'⟩ (Zm2 hb)
       cases b <;> cases want <;> simp only [cond_true,cond_false] at h
       . exact Zgn (by simp [Region.wanted,hg,hy]) (Zrr hG hI hJ hh' h hn)
       . refine Zik (by simp [Region.wanted,hg,hy]) ?_
         cases hd:Zcv nt o.dst with
         | false=>rw [hd] at h;cases h
         | true=>rw [hd] at h;exact hn _ _ _ (hh'.skip hd) h
       . refine Zik (by simp [Region.wanted,hg,hy]) ?_
         cases hd:Zcv nt o.dst with
         | false=>rw [hd] at h;cases h
         | true=>rw [hd] at h;exact hn _ _ _ (hh'.skip hd) h
       . exact Zgn (by simp [Region.wanted,hg,hy]) (Zrr hG hI hJ hh' h hn)
     . rename_i hb
       obtain ⟨mu,hr,hj'⟩:=hh
       have hy:=Zos hr hj hb
       refine Zik (by simp [Region.wanted,hg,hy]) ?_
       cases hd:Zcv nt o.dst with
       | false=>rw [hd] at h;cases h
       | true=>rw [hd] at h;exact hn _ _ _ (Holds.skip ⟨mu,hr,hj'⟩ hd) h
     . cases h
   . cases h
theorem ZfU {ρ:Type} {inl:Inl ρ} {r:ρ} {Q:Exit->Act->World->Prop} {ops:Array Oper} (hG:Zai V) (hI:Zgb V inl) (hJ:Stays J) :
   ∀ (l : List Oper) {σ : St} {a : Act} {w : World} {k : St -> Option ρ}, Holds J w0 ok nt ds σ a w -> opsK V inl fid nt ops l σ k = some r ->
     (∀ σ' a' w',Holds J w0 ok nt ds σ' a' w'->k σ'=some r->Q .normal a' w')->wpListIn (Za4 ro) 0 V.P ops Q l a w
 | [],_,_,_,_,hh,h,hn=>hn _ _ _ hh h
 | o :: l, _, _, _, _, hh, h, hn => by
   rw [Zha]
   exact ZuZ hG hI hJ hh h fun σ' a' w' hh' h'=>ZfU hG hI hJ l hh' h' hn
end
end Go.Proofs.Mill
namespace Go.Proofs.Mill
open Go.RowKit
theorem Loc.beq_eq {a b:Loc}:Loc.beq a b=true↔a=b:=by
 cases a <;> cases b <;> simp [Loc.beq]
theorem Loc.mem_iff (l:Loc):∀ (L:List Loc),l.mem L=true↔l∈L
 | []=>by simp [Loc.mem]
 | a :: L => by
   unfold Loc.mem
   cases h:Loc.beq a l with
   | true=>simp [Loc.beq_eq.1 h]
   | false =>
     have hne:l≠a:=fun e=>by
       rw [e] at h
       have:=Loc.beq_eq.2 (rfl:a=a)
       rw [h] at this;cases this
     simp [Loc.mem_iff l L,hne]
theorem Rd.runK_log {α ρ:Type} {k:α->List Loc->Option ρ} {σ:St} {r:ρ}:∀ {x:Rd α} {log:List Loc},x.runK σ log k=some r ->
   ∃ a log',k a log'=some r/\(∀ l∈log,l∈log')/\∀ τ:St,(∀ l∈log',τ.get l=σ.get l)->x.val τ=some a
 | .ret a,log,h=>⟨a,log,h,fun _ h=>h,fun _ _=>rfl⟩
 | .rd l f, log, h => by
   obtain ⟨a,log',h1,h2,h3⟩:=Rd.runK_log (x:=f (σ.get l)) h
   refine ⟨a,log',h1,fun x hx=>h2 x (List.mem_cons_of_mem _ hx),fun τ hτ=>?_⟩
   show (f (τ.get l)).val τ=some a
   rw [hτ l (h2 l (by simp))]
   exact h3 τ hτ
 | .ask b t e, log, h => by
   cases b
   . exact Rd.runK_log (x:=e) h
   . exact Rd.runK_log (x:=t) h
 | .call x f, log, h => by
   cases x with
   | none=>simp [Rd.runK] at h
   | some y=>exact Rd.runK_log (x:=f y) h
 | .fail,log,h=>by simp [Rd.runK] at h
def Tx.put (x:Tx) (σ:St):St:=σ.put x.dst x.v x.ws
theorem Zl3:∀ (ws:Wr) (ob ob':List (Nat×AV)) (id:Nat),(look ob id=look ob' id\/∃ p∈ws,p.1=id)->look (Zay ws ob) id=look (Zay ws ob') id
 | [], _, _, _, h => by
   rcases h with h | ⟨p,hp,_⟩
   . exact h
   . cases hp
 | p :: ws, ob, ob', id, h => by
   show look (Zay ws (p::ob)) id=look (Zay ws (p::ob')) id
   refine Zl3 ws _ _ id ?_
   by_cases e:p.1=id
   . left;subst e;obtain ⟨i,o⟩:=p;rw [look_eq,look_eq]
   . rcases h with h | ⟨q,hq,he⟩
     . left;obtain ⟨i,o⟩:=p;rw [ZaQ _ _ e,ZaQ _ _ e];exact h
     . rcases List.mem_cons.1 hq with rfl | hq
       . exact (e he).elim
       . exact .inr ⟨q,hq,he⟩
theorem Tx.put_in (x:Tx) (l:Loc) (h:l∈x.wl) (σ τ:St):(x.put σ).get l=(x.put τ).get l:=by
 obtain ⟨rs,dst,v,ws⟩:=x
 cases l with
 | m n =>
   have hm:∃ p∈ws,p.1=n:=by
     cases dst <;> simp [Tx.wl] at h <;> obtain ⟨b,hb⟩:=h <;> exact ⟨_,hb,rfl⟩
   show look (St.put σ dst v ws).ob n=look (St.put τ dst v ws).ob n
   rw [ZkC,ZkC]
   exact Zl3 _ _ _ _ (.inr hm)
 | t n =>
   cases dst with
   | none=>simp [Tx.wl] at h
   | some d =>
     simp [Tx.wl] at h
     subst h
     show look ((n,v)::σ.tm) n=look ((n,v)::τ.tm) n
     rw [look_eq,look_eq]
theorem Tx.put_out (x:Tx) (l:Loc) (h:l∉x.wl) (σ:St):(x.put σ).get l=σ.get l:=by
 obtain ⟨rs,dst,v,ws⟩:=x
 cases l with
 | m n =>
   have hm:∀ p∈ws,p.1≠n:=by
     rintro ⟨i,o⟩ hp rfl
     apply h
     cases dst <;> simp [Tx.wl] <;> exact ⟨_,hp⟩
   show look (St.put σ dst v ws).ob n=look σ.ob n
   rw [ZkC]
   exact Zb3 _ _ _ hm
 | t n =>
   cases dst with
   | none=>rfl
   | some d =>
     have hn:d≠n:=by rintro rfl;apply h;simp [Tx.wl]
     show look ((d,v)::σ.tm) n=look σ.tm n
     rw [ZaQ _ _ hn]
theorem Tx.put_like (x:Tx) {σ τ:St} (h:σ.like τ):(x.put σ).like (x.put τ):=by
 intro l
 by_cases hl:l∈x.wl
 . exact x.put_in l hl σ τ
 . rw [x.put_out l hl,x.put_out l hl];exact h l
def app (L:List (Nat×Tx)) (σ:St):St:=L.foldl (fun σ p=>p.2.put σ) σ
theorem ZwN (L L':List (Nat×Tx)) (σ:St):app (L++L') σ=app L' (app L σ):=by simp [app]
theorem ZiR (l:Loc):∀ (L:List (Nat×Tx)) (σ τ:St),σ.get l=τ.get l->(app L σ).get l=(app (L.filter fun p=>l.mem p.2.wl) τ).get l
 | [],_,_,h=>h
 | p :: L, σ, τ, h => by
   show (app L (p.2.put σ)).get l=_
   cases hw:l.mem p.2.wl with
   | true =>
     rw [List.filter_cons_of_pos (by simpa using hw)]
     exact ZiR l L _ (p.2.put τ) (p.2.put_in l ((Loc.mem_iff _ _).1 hw) σ τ)
   | false =>
     rw [List.filter_cons_of_neg (by simp [hw])]
     refine ZiR l L _ τ ?_
     rw [p.2.put_out l (fun hm=>by rw [(Loc.mem_iff _ _).2 hm] at hw;cases hw)]
     exact h
theorem ZAc (l:Loc) (L:List (Nat×Tx)) (σ:St) (h:∀ p∈L,l∉p.2.wl):(app L σ).get l=σ.get l:=by
 rw [ZiR l L σ σ rfl]
 have:L.filter (fun p=>l.mem p.2.wl)=[]:=by
   rw [List.filter_eq_nil_iff]
   intro p hp hm
   exact h p hp ((Loc.mem_iff _ _).1 hm)
 rw [this];rfl
theorem apart_spec {x y:Tx} (h:x.apart y=true):(∀ l∈x.wl,l∉y.rs)/\(∀ l∈y.wl,l∉x.rs)/\(∀ l∈x.wl,l∉y.wl):=by
 simp only [Tx.apart,Bool.and_eq_true,Zqi,List.all_eq_true] at h
 have key:∀ {L:List Loc} {l:Loc},(!l.mem L)=true->l∉L:=by
   intro L l h hm
   rw [(Loc.mem_iff _ _).2 hm] at h
   cases h
 exact ⟨fun l hl=>key (h.1.1 l hl),fun l hl=>key (h.1.2 l hl),fun l hl=>key (h.2 l hl)⟩
structure TxRun (V:Env) (fid nt:Nat) (ops:Array Oper) (bef:List Nat) (n:Nat) (σ0:St) (txs:List (Nat×Tx)):Prop where
  len:txs.length=n
  idx:∀ (i:Nat) (p:Nat×Tx),txs[i]?=some p->p.1=i
  op:∀ (i:Nat) (p:Nat×Tx),txs[i]?=some p->∃ o,ops[i]?=some o/\Zcv nt o.dst=true/\p.2.dst=o.dst /\
    ∀ τ:St,(∀ l∈p.2.rs,τ.get l=(app (txs.take i) σ0).get l)->(opRd V fid ops o).val τ=some (p.2.v,p.2.ws)
  free:∀ (i j:Nat) (p q:Nat×Tx),j<i->txs[i]?=some p->txs[j]?=some q->(bef.getD i 0).testBit j=true\/q.2.apart p.2=true
section
variable {V:Env} {fid nt n:Nat} {ops:Array Oper} {bef:List Nat} {σ0:St} {txs:List (Nat×Tx)}
def ZpV (bef:List Nat) (S:Nat->Bool):Prop:=∀ i j,S i=true->(bef.getD i 0).testBit j=true->S j=true
def canon (txs:List (Nat×Tx)) (σ0:St) (S:Nat->Bool):St:=app (txs.filter fun p=>S p.1) σ0
theorem Zpy:∀ (L:List (Nat×Tx)) (i0 m:Nat),(∀ k p,L[k]?=some p->p.1=i0+k)->L.filter (fun p=>decide (p.1<i0+m))=L.take m
 | [],_,_,_=>by simp
 | p :: L, i0, m, h => by
   have h0:=h 0 p rfl
   have hL:∀ k q,L[k]?=some q->q.1=(i0+1)+k:=fun k q hq=>by have:=h (k+1) q (by simpa using hq);omega
   cases m with
   | zero =>
     rw [List.take_zero,List.filter_eq_nil_iff]
     intro q hq
     obtain ⟨k,hk⟩:=List.getElem?_of_mem hq
     have:=h k q hk
     simp;omega
   | succ m =>
     rw [List.filter_cons_of_pos (by simp;omega),List.take_succ_cons]
     have:=Zpy L (i0+1) m hL
     rw [<- this]
     congr 1
     apply List.filter_congr
     intro q hq
     have:(q.1<i0+(m+1))↔(q.1<i0+1+m):=by omega
     simp [this]
theorem Zvs (h:TxRun V fid nt ops bef n σ0 txs) {S:Nat->Bool} (hS:ZpV bef S) {i:Nat} {p:Nat×Tx} (hp:txs[i]?=some p) (hi:S i=false)
   (hb:∀ j,(bef.getD i 0).testBit j=true->S j=true) {l:Loc} (hl:l∈p.2.rs):(canon txs σ0 S).get l=(app (txs.take i) σ0).get l:=by
 have ht:=Zpy txs 0 i (fun k q hq=>by simpa using h.idx k q hq)
 rw [Nat.zero_add] at ht
 rw [<- ht,canon,ZiR l _ σ0 σ0 rfl,ZiR l (txs.filter fun p=>decide (p.1<i)) σ0 σ0 rfl,List.filter_filter,List.filter_filter]
 congr 2
 apply List.filter_congr
 intro q hq
 obtain ⟨j,hj⟩:=List.getElem?_of_mem hq
 have hqi:=h.idx j q hj
 cases hw:l.mem q.2.wl with
 | false=>simp
 | true =>
   have hw:=(Loc.mem_iff _ _).1 hw
   simp only [Bool.true_and]
   rw [hqi]
   rcases Nat.lt_trichotomy j i with hlt | heq | hgt
   . rcases h.free i j p q hlt hp hj with hf | hf
     . rw [hb j hf];simp [hlt]
     . exact ((apart_spec hf).1 l hw hl).elim
   . subst heq;rw [hi];simp
   . have hS':S j=false:=by
       rcases h.free j i q p hgt hj hp with hf | hf
       . cases hs:S j with
         | false=>rfl
         | true=>rw [hS j i hs hf] at hi;cases hi
       . exact ((apart_spec hf).2.1 l hw hl).elim
     rw [hS']
     have:¬j<i:=by omega
     simp [this]
theorem Zw6 (h:TxRun V fid nt ops bef n σ0 txs) {S S':Nat->Bool} (hS:ZpV bef S) {i:Nat} {p:Nat×Tx} (hp:txs[i]?=some p) (hi:S i=false)
   (hS':∀ j,j<n->S' j=(S j || decide (j=i))):(p.2.put (canon txs σ0 S)).like (canon txs σ0 S'):=by
 intro l
 have hmem:∀ q∈txs,q.1=i->q=p:=by
   intro q hq he
   obtain ⟨j,hj⟩:=List.getElem?_of_mem hq
   have:=h.idx j q hj
   have hji:j=i:=by omega
   subst hji
   rw [hj] at hp
   exact Option.some.inj hp
 have hlt:∀ q∈txs,q.1<n:=by
   intro q hq
   obtain ⟨j,hj⟩:=List.getElem?_of_mem hq
   have h1:=h.idx j q hj
   have h2:=(List.getElem?_eq_some_iff.1 hj).1
   have:=h.len
   omega
 by_cases hw:l∈p.2.wl
 . obtain ⟨hil,hpe⟩:=List.getElem?_eq_some_iff.1 hp
   have hsplit:txs=txs.take i++p::txs.drop (i+1):=by
     rw [<- hpe,List.getElem_cons_drop,List.take_append_drop]
   have hpost:∀ q∈txs.drop (i+1),∃ j,i<j/\txs[j]?=some q:=by
     intro q hq
     obtain ⟨k,hk⟩:=List.getElem?_of_mem hq
     rw [List.getElem?_drop] at hk
     exact ⟨i+1+k,by omega,hk⟩
   have hpp:p.1=i:=h.idx i p hp
   have e:canon txs σ0 S'=app ((txs.drop (i+1)).filter fun q=>S' q.1) (p.2.put (app ((txs.take i).filter fun q=>S' q.1) σ0)):=by
     unfold canon
     conv=>lhs;rw [hsplit]
     rw [List.filter_append,List.filter_cons_of_pos (by rw [hpp,hS' i (by have:=h.len;omega)];simp),ZwN]
     rfl
   rw [e,ZAc]
   . exact p.2.put_in l hw _ _
   . intro q hq hm
     rw [List.mem_filter] at hq
     obtain ⟨j,hij,hj⟩:=hpost q hq.1
     have hqj:=h.idx j q hj
     have hjn:j<n:=by
       have:=(List.getElem?_eq_some_iff.1 hj).1
       have:=h.len
       omega
     have hsj:S' j=true:=by simpa [hqj] using hq.2
     rw [hS' j hjn] at hsj
     have hne:¬j=i:=by omega
     simp [hne] at hsj
     rcases h.free j i q p hij hj hp with hf | hf
     . rw [hS j i hsj hf] at hi;cases hi
     . exact (apart_spec hf).2.2 l hw hm
 . rw [p.2.put_out l hw,canon,canon,ZiR l _ σ0 σ0 rfl,ZiR l (txs.filter fun p=>S' p.1) σ0 σ0 rfl,List.filter_filter,List.filter_filter]
   congr 2
   apply List.filter_congr
   intro q hq
   rw [hS' q.1 (hlt q hq)]
   by_cases hqi:q.1=i
   . have:=hmem q hq hqi
     subst this
     have:l.mem q.2.wl=false:=by
       cases hh:l.mem q.2.wl with
       | false=>rfl
       | true=>exact (hw ((Loc.mem_iff _ _).1 hh)).elim
     simp [this]
   . simp [hqi]
end
end Go.Proofs.Mill
namespace Go.Proofs.Mill
open Go.RowKit
section
variable {V:Env} {fid nt n:Nat} {ops:Array Oper} {bef:List Nat} {σ0:St} {txs:List (Nat×Tx)}
theorem ZC1 {ρ:Type} {o:Oper} {i:Nat} {done:List (Nat×Tx)} {σ:St} {k:List (Nat×Tx)->St->Option ρ} {r:ρ} (h:txK V fid nt ops bef o i done σ k=some r) :
   ∃ x : Tx, Zcv nt o.dst = true /\ x.dst = o.dst /\ txOk bef done i x = true /\ (∀ τ : St, (∀ l ∈ x.rs, τ.get l = σ.get l) -> (opRd V fid ops o).val τ = some (x.v, x.ws)) /\
     ∃ σ',σ'.like (x.put σ)/\k ((i,x)::done) σ'=some r:=by
 unfold txK at h
 cases hd:Zcv nt o.dst with
 | false=>rw [hd] at h;cases h
 | true =>
   rw [hd] at h
   simp only [cond_true] at h
   have act:∀ {σ1:St} {log:List Loc},σ.like σ1->((ZaM V fid o).runK σ1 log fun p rs =>
       bif txOk bef done i ⟨rs,o.dst,p.1,p.2⟩ then k ((i,⟨rs,o.dst,p.1,p.2⟩)::done) (σ1.put o.dst p.1 p.2) else none)=some r ->
       ∃ x : Tx, x.dst = o.dst /\ (∀ l ∈ log, l ∈ x.rs) /\ txOk bef done i x = true /\ (∀ τ : St, (∀ l ∈ x.rs, τ.get l = σ.get l) -> (ZaM V fid o).val τ = some (x.v, x.ws)) /\
         ∃ σ',σ'.like (x.put σ)/\k ((i,x)::done) σ'=some r:=by
     intro σ1 log hl h
     obtain ⟨⟨v,ws⟩,rs,h1,h2,h3⟩:=Rd.runK_log h
     simp only at h1
     cases ht:txOk bef done i ⟨rs,o.dst,v,ws⟩ with
     | false=>rw [ht] at h1;cases h1
     | true =>
       rw [ht] at h1
       refine ⟨⟨rs,o.dst,v,ws⟩,rfl,h2,ht,fun τ hτ=>h3 τ fun l hl'=>(hτ l hl').trans (hl l),_,?_,h1⟩
       exact (Tx.put_like ⟨rs,o.dst,v,ws⟩ hl).symm
   have skip:∀ {σ1:St} {log:List Loc},σ.like σ1->(bif txOk bef done i ⟨log,o.dst,.tup [],[]⟩ then k ((i,⟨log,o.dst,.tup [],[]⟩)::done) (σ1.put o.dst (.tup []) []) else none)=some r ->
       txOk bef done i ⟨log,o.dst,.tup [],[]⟩=true/\∃ σ',σ'.like (Tx.put ⟨log,o.dst,.tup [],[]⟩ σ)/\k ((i,⟨log,o.dst,.tup [],[]⟩)::done) σ'=some r:=by
     intro σ1 log hl h
     cases ht:txOk bef done i ⟨log,o.dst,.tup [],[]⟩ with
     | false=>rw [ht] at h;cases h
     | true =>
       rw [ht] at h
       exact ⟨rfl,_,(Tx.put_like ⟨log,o.dst,.tup [],[]⟩ hl).symm,h⟩
   unfold opRd
   cases hg:o.guard with
   | none =>
     rw [hg] at h
     obtain ⟨x,h1,_,h2,h3,h4⟩:=act (St.like.refl σ) h
     exact ⟨x,rfl,h1,h2,h3,h4⟩
   | some g =>
     obtain ⟨j,want⟩:=g
     rw [hg] at h
     simp only at h ⊢
     cases hj:(ops[j]?).bind (·.dst) with
     | none=>rw [hj] at h;cases h
     | some d =>
       rw [hj] at h
       simp only at h ⊢
       cases hb:look σ.tm d with
       | bool b =>
         rw [hb] at h
         simp only at h
         have pin:=Zm2 hb
         have rdg:∀ {x:Tx},.t d∈x.rs->(b == want)=true->(∀ τ:St,(∀ l∈x.rs,τ.get l=σ.get l)->(ZaM V fid o).val τ=some (x.v,x.ws)) ->
             ∀ τ:St,(∀ l∈x.rs,τ.get l=σ.get l)->(Rd.rd (.t d) fun | .bool b=>bif b == want then ZaM V fid o else .ret (.tup [],[]) | .tup []=>.ret (.tup [],[]) | _=>.fail:Rd (AV×Wr)).val τ=some (x.v,x.ws):=by
           intro x hm hbw hx τ hτ
           have e:τ.get (.t d)=.bool b:=(hτ _ hm).trans hb
           simp only [Rd.val,e,hbw,cond_true]
           exact hx τ hτ
         have rds:(b == want)=false->∀ τ:St,(∀ l∈[Loc.t d],τ.get l=σ.get l) ->
             (Rd.rd (.t d) fun | .bool b=>bif b == want then ZaM V fid o else .ret (.tup [],[]) | .tup []=>.ret (.tup [],[]) | _=>.fail:Rd (AV×Wr)).val τ=some (.tup [],[]):=by
           intro hbw τ hτ
           have e:τ.get (.t d)=.bool b:=(hτ _ (by simp)).trans hb
           simp only [Rd.val,e,hbw,cond_false]
         cases b <;> cases want <;> simp only [cond_true,cond_false] at h
         . obtain ⟨x,h1,h0,h2,h3,h4⟩:=act pin h
           exact ⟨x,trivial,h1,h2,rdg (h0 _ (by simp)) rfl h3,h4⟩
         . obtain ⟨h2,h4⟩:=skip pin h
           exact ⟨⟨[.t d],o.dst,.tup [],[]⟩,trivial,rfl,h2,rds rfl,h4⟩
         . obtain ⟨h2,h4⟩:=skip pin h
           exact ⟨⟨[.t d],o.dst,.tup [],[]⟩,trivial,rfl,h2,rds rfl,h4⟩
         . obtain ⟨x,h1,h0,h2,h3,h4⟩:=act pin h
           exact ⟨x,trivial,h1,h2,rdg (h0 _ (by simp)) rfl h3,h4⟩
       | tup vs =>
         rw [hb] at h
         cases vs with
         | cons=>cases h
         | nil =>
           obtain ⟨h2,h4⟩:=skip (St.like.refl σ) h
           refine ⟨⟨[.t d],o.dst,.tup [],[]⟩,trivial,rfl,h2,fun τ hτ=>?_,h4⟩
           have e:τ.get (.t d)=.tup []:=(hτ _ (by simp)).trans hb
           simp only [Rd.val,e]
       | _=>rw [hb] at h;cases h
theorem Zyg {done:List (Nat×Tx)} {i:Nat} {x:Tx} (h:txOk bef done i x=true):∀ q∈done,(bef.getD i 0).testBit q.1=true\/q.2.apart x=true:=by
 intro q hq
 have:=List.all_eq_true.1 h q hq
 simpa using this
theorem Zuu {ρ:Type}:∀ (l:List Oper) (i:Nat) (done:List (Nat×Tx)) (σ τ:St) (k:St->Option ρ) (r:ρ),txsK V fid nt ops bef l i done σ k=some r->σ.like τ ->
   ∃ (txs : List (Nat × Tx)) (σn : St), txs.length = l.length /\ k σn = some r /\ σn.like (app txs τ) /\
     ∀ (j : Nat) (p : Nat × Tx), txs[j]? = some p -> p.1 = i + j /\ (∃ o, l[j]? = some o /\ Zcv nt o.dst = true /\ p.2.dst = o.dst /\
       ∀ τ':St,(∀ l∈p.2.rs,τ'.get l=(app (txs.take j) τ).get l)->(opRd V fid ops o).val τ'=some (p.2.v,p.2.ws)) /\
       (∀ q∈done,(bef.getD (i+j) 0).testBit q.1=true\/q.2.apart p.2=true) /\
       ∀ (j':Nat) (q:Nat×Tx),j'<j->txs[j']?=some q->(bef.getD (i+j) 0).testBit (i+j')=true\/q.2.apart p.2=true
 | [],i,done,σ,τ,k,r,h,hl=>⟨[],σ,rfl,h,hl,fun j p hp=>by simp at hp⟩
 | o :: l, i, done, σ, τ, k, r, h, hl => by
   obtain ⟨x,hd,hxd,hok,hval,σ',hl',hk⟩:=ZC1 h
   obtain ⟨txs,σn,hlen,hkn,hln,hall⟩:=Zuu l (i+1) ((i,x)::done) σ' (x.put τ) k r hk (hl'.trans (x.put_like hl))
   refine ⟨(i,x)::txs,σn,by simp [hlen],hkn,hln,fun j p hp=>?_⟩
   cases j with
   | zero =>
     simp only [List.getElem?_cons_zero,Option.some.injEq] at hp
     subst hp
     exact ⟨rfl,⟨o,rfl,hd,hxd,fun τ' hτ=>hval τ' fun l hl'=>(hτ l hl').trans (hl l).symm⟩,Zyg hok,fun j' q hj=>by omega⟩
   | succ j =>
     obtain ⟨h1,⟨o',ho',h2,h3,h4⟩,h5,h6⟩:=hall j p (by simpa using hp)
     have e:i+1+j=i+(j+1):=by omega
     rw [e] at h1 h5 h6
     refine ⟨h1,⟨o',by simpa using ho',h2,h3,fun τ' hτ=>h4 τ' hτ⟩,fun q hq=>h5 q (List.mem_cons_of_mem _ hq),fun j' q hj hq=>?_⟩
     cases j' with
     | zero =>
       simp only [List.getElem?_cons_zero,Option.some.injEq] at hq
       subst hq
       exact h5 (i,x) (by simp)
     | succ j' =>
       have:=h6 j' q (by omega) (by simpa using hq)
       rw [show i+1+j'=i+(j'+1) by omega] at this
       exact this
theorem Zuq {ρ:Type} {σ:St} {k:St->Option ρ} {r:ρ} (hn:n<=ops.size) (h:txsK V fid nt ops bef (ops.toList.take n) 0 [] σ k=some r) :
   ∃ (txs:List (Nat×Tx)) (σn:St),TxRun V fid nt ops bef n σ txs/\k σn=some r/\σn.like (app txs σ):=by
 obtain ⟨txs,σn,hlen,hk,hl,hall⟩:=Zuu _ _ _ _ _ _ _ h (St.like.refl σ)
 have hlen':txs.length=n:=by rw [hlen];simp [Nat.min_eq_left hn]
 refine ⟨txs,σn,⟨hlen',fun i p hp=>by simpa using (hall i p hp).1,fun i p hp=>?_,fun i j p q hji hp hq=>by simpa using (hall i p hp).2.2.2 j q hji hq⟩,hk,hl⟩
 obtain ⟨o,ho,h1,h2,h3⟩:=(hall i p hp).2.1
 have hin:i<n:=by have:=(List.getElem?_eq_some_iff.1 hp).1;omega
 rw [List.getElem?_take_of_lt hin] at ho
 exact ⟨o,by simpa using ho,h1,h2,h3⟩
end
end Go.Proofs.Mill
namespace Go.Proofs.Mill
open Go.RowKit Go.CheckFast
def befA (l:List Oper) (A:Array Nat):Array Nat:=l.foldl (fun acc o=>acc.push (one (fun i=>acc.getD i 0) o)) A
theorem Zsq:∀ (l:List Oper) (A:Array Nat),(befA l A).size=A.size+l.length
 | [],A=>by simp [befA]
 | o :: l, A => by
   show (befA l (A.push _)).size=_
   rw [Zsq l]
   simp;omega
theorem ZpX:∀ (l:List Oper) (A:Array Nat) (j:Nat),j<A.size->(befA l A).getD j 0=A.getD j 0
 | [],A,j,_=>rfl
 | o :: l, A, j, h => by
   show (befA l (A.push _)).getD j 0=_
   rw [ZpX l _ j (by simp;omega)]
   simp [Array.getD_eq_getD_getElem?,Array.getElem?_push,Nat.ne_of_lt h]
theorem Zv7:∀ (l:List Oper) (A:Array Nat) (k:Nat) (o:Oper),l[k]?=some o->(befA l A).getD (A.size+k) 0=one (fun e=>if e<A.size+k then (befA l A).getD e 0 else 0) o
 | [],_,_,_,h=>by simp at h
 | o :: l, A, 0, o', h => by
   simp only [List.getElem?_cons_zero,Option.some.injEq] at h
   subst h
   have e:(fun e=>if e<A.size+0 then (befA (o::l) A).getD e 0 else 0)=fun e=>A.getD e 0:=by
     funext e
     by_cases he:e<A.size
     . rw [if_pos (by omega),ZpX _ _ _ he]
     . rw [if_neg (by omega)]
       simp [Array.getD,he]
   rw [e]
   show (befA l (A.push _)).getD _ 0=_
   rw [ZpX l _ _ (by simp)]
   simp [Array.getD_eq_getD_getElem?]
 | o :: l, A, k + 1, o', h => by
   have:=Zv7 l (A.push (one (fun i=>A.getD i 0) o)) k o' (by simpa using h)
   simp only [Array.size_push] at this
   rw [show A.size+1+k=A.size+(k+1) by omega] at this
   exact this
theorem Zog (l:List Oper):beforeL l 0 []=(befA l #[]).toList:=by
 have:=beforeL_eq l #[]
 simpa [befA] using this
theorem ZCi {look:Nat->Nat} {o:Oper} {j:Nat} (h:(one look o).testBit j=true):∃ e∈o.after.toList,Region.binds .any e=true/\(j=e.on\/(look e.on).testBit j=true):=by
 unfold one at h
 rw [<- Array.foldl_toList] at h
 have key:∀ (l:List Edge) (s:Nat),(l.foldl (fun s e=>if Region.binds .any e then s ||| 2 ^ e.on ||| look e.on else s) s).testBit j=true ->
     s.testBit j=true\/∃ e∈l,Region.binds .any e=true/\(j=e.on\/(look e.on).testBit j=true):=by
   intro l
   induction l with
   | nil=>intro s h;exact .inl h
   | cons e l ih =>
     intro s h
     rw [List.foldl_cons] at h
     rcases ih _ h with h | ⟨e',he',h⟩
     . cases hb:Region.binds .any e with
       | false=>rw [hb] at h;exact .inl (by simpa using h)
       | true =>
         rw [hb] at h
         simp only [if_true,Nat.testBit_or,Bool.or_eq_true] at h
         rcases h with (h | h) | h
         . exact .inl h
         . refine .inr ⟨e,by simp,hb,.inl ?_⟩
           rw [Nat.testBit_two_pow] at h
           exact (of_decide_eq_true h).symm
         . exact .inr ⟨e,by simp,hb,.inr h⟩
     . exact .inr ⟨e',by simp [he'],h⟩
 rcases key _ 0 h with h | h
 . simp at h
 . exact h
def EdgesIn (ops:Array Oper) (S:Nat->Bool):Prop:=∀ i o,S i=true->ops[i]?=some o->∀ e∈o.after.toList,Region.binds .any e=true->S e.on=true
theorem ZCI (ops:Array Oper) {i:Nat} {o:Oper} (h:ops[i]?=some o) :
   (beforeL ops.toList 0 []).getD i 0=one (fun e=>if e<i then (beforeL ops.toList 0 []).getD e 0 else 0) o:=by
 have h1:=Zv7 ops.toList #[] i o (by simpa using h)
 have e:∀ j,(beforeL ops.toList 0 []).getD j 0=(befA ops.toList #[]).getD j 0:=by
   intro j
   rw [Zog]
   simp [List.getD_eq_getElem?_getD,Array.getD_eq_getD_getElem?]
 rw [e]
 simp only [Nat.zero_add,List.size_toArray,List.length_nil] at h1
 rw [h1]
 congr 1
 funext j
 rw [e]
theorem Zty (ops:Array Oper) {i:Nat} (h:ops[i]?=none):(beforeL ops.toList 0 []).getD i 0=0:=by
 have h1:ops.size<=i:=by simpa using h
 rw [Zog,List.getD_eq_getElem?_getD,List.getElem?_eq_none (by
   have:=Zsq ops.toList #[]
   simp at this
   simp;omega)]
 rfl
theorem ZmN {ops:Array Oper} {S:Nat->Bool} (hS:EdgesIn ops S):∀ (i:Nat) (o:Oper),ops[i]?=some o->(∀ e∈o.after.toList,Region.binds .any e=true->S e.on=true) ->
   ∀ j,((beforeL ops.toList 0 []).getD i 0).testBit j=true->S j=true:=by
 intro i
 induction i using Nat.strongRecOn with
 | _ i ih =>
   intro o ho he j hj
   rw [ZCI ops ho] at hj
   obtain ⟨e,hem,hb,h⟩:=ZCi hj
   rcases h with rfl | h
   . exact he e hem hb
   . by_cases hlt:e.on<i
     . rw [if_pos hlt] at h
       cases hoe:ops[e.on]? with
       | none=>rw [Zty ops hoe] at h;simp at h
       | some o'=>exact ih e.on hlt o' hoe (hS e.on o' (he e hem hb) hoe) j h
     . rw [if_neg hlt] at h;simp at h
theorem EdgesIn.closed {ops:Array Oper} {S:Nat->Bool} (hS:EdgesIn ops S):ZpV (beforeL ops.toList 0 []) S:=by
 intro i j hi hj
 cases ho:ops[i]? with
 | none=>rw [Zty ops ho] at hj;simp at hj
 | some o=>exact ZmN hS i o ho (hS i o hi ho) j hj
theorem ZeS:∀ (l:List Oper) (i:Nat),Zev i l=true->∀ k o,l[k]?=some o->∀ e∈o.after.toList,Region.binds .any e=true->e.on<i+k
 | [],_,_,_,_,h=>by simp at h
 | o :: l, i, hb, k, o', h => by
   unfold Zev at hb
   cases hc:(o.after.toList.all fun e=>!(Region.binds .any e) || Nat.blt e.on i) with
   | false=>rw [hc] at hb;cases hb
   | true =>
     rw [hc] at hb
     cases k with
     | zero =>
       simp only [List.getElem?_cons_zero,Option.some.injEq] at h
       subst h
       intro e he hbi
       have:=List.all_eq_true.1 hc e he
       rw [hbi] at this
       have:Nat.blt e.on i=true:=by simpa using this
       rw [Nat.blt_eq] at this
       omega
     | succ k =>
       intro e he hbi
       have:=ZeS l (i+1) hb k o' (by simpa using h) e he hbi
       omega
theorem Zj4 (bef:List Nat):∀ (n m:Nat),ZeR bef n<=m->m<n->Zep bef m=true
 | 0,_,_,h=>by omega
 | n + 1, m, h1, h2 => by
   unfold ZeR at h1
   cases hw:Zep bef n with
   | true =>
     rw [hw] at h1
     by_cases e:m=n
     . rw [e];exact hw
     . exact Zj4 bef n m h1 (by omega)
   | false =>
     rw [hw] at h1
     simp only [cond_false] at h1
     omega
theorem ZlQ (bef:List Nat):∀ (n:Nat),ZeR bef n<=n
 | 0=>Nat.le_refl _
 | n + 1 => by
   unfold ZeR
   cases Zep bef n
   . exact Nat.le_refl _
   . exact Nat.le_succ_of_le (ZlQ bef n)
end Go.Proofs.Mill
namespace Go.Proofs.Mill
variable {ds:List Deferred}
open Go.RowKit Go.CheckFast
section
variable {V:Env} {J:Cx->Prop} {w0 w:World} {ok:Nat->Prop} {nt fid n:Nat} {σ τ:St} {a:Act} {o:Oper} {v:AV} {ws:Wr} {ops:Array Oper} {ro:Option Nat}
theorem ZxB {K:Act->World->Prop} {Q:Exit->Act->World->Prop} (hG:Zai V) (hJ:Stays J) (hh:Holds J w0 ok nt ds σ a w) (hd:Zcv nt o.dst=true)
   (h:(opRd V fid ops o).val σ=some (v,ws)) (hn:∀ a' w',Holds J w0 ok nt ds (σ.put o.dst v ws) a' w'->K a' w'):Zlu ro V.P ops o Q K a w:=by
 have go:∀ (h:(ZaM V fid o).val σ=some (v,ws)),o.wpIn (Za4 ro) 0 V.P a w K Q:=fun h=>Zph hG hJ hh hd h hn
 unfold opRd at h
 split at h
 . rename_i hg
   exact Zgn (by simp [Region.wanted,hg]) (go h)
 . rename_i j want hg
   split at h
   . rename_i d hj
     simp only [Rd.val] at h
     change (match look σ.tm d with | .bool b=>_ | .tup []=>_ | _=>_:Rd (AV×Wr)).val σ=_ at h
     split at h
     . rename_i b hb
       obtain ⟨mu,hr,hj'⟩:=hh
       have hy:=Zmv hr hj hb
       cases hbw:b == want with
       | true =>
         rw [hbw] at h
         exact Zgn (by simpa [Region.wanted,hg,hy] using hbw) (go h)
       | false =>
         rw [hbw] at h
         refine Zik (by simpa [Region.wanted,hg,hy] using hbw) ?_
         have h2:=ZaB (show (Rd.ret (AV.tup [],([]:Wr))).val σ=some (v,ws) from h)
         injection h2 with h2 h3
         subst h2 h3
         exact hn _ _ (Holds.skip ⟨mu,hr,hj'⟩ hd)
     . rename_i hb
       obtain ⟨mu,hr,hj'⟩:=hh
       have hy:=Zos hr hj hb
       refine Zik (by simp [Region.wanted,hg,hy]) ?_
       have h2:=ZaB (show (Rd.ret (AV.tup [],([]:Wr))).val σ=some (v,ws) from h)
       injection h2 with h2 h3
       subst h2 h3
       exact hn _ _ (Holds.skip ⟨mu,hr,hj'⟩ hd)
     . simp [Rd.val] at h
   . simp [Rd.val] at h
theorem Holds.drawn (hJ:Stays J) (hh:Holds J w0 ok nt ds σ a w) (d:Nat):Holds J w0 ok nt ds σ a { w with drawn:=d }:=by
 obtain ⟨mu,hr,hj⟩:=hh
 have hm:Mono (cx w σ.ob mu ok) (cx { w with drawn:=d } σ.ob mu ok):=Zdf (fun b hb=>⟨hb,rfl⟩) (fun id=>.inr (.inr (.inl ⟨rfl,rfl,fun _ _=>rfl⟩))) (fun _ _ h=>⟨h,rfl⟩)
 refine ⟨mu,⟨⟨fun id=>(hr.mem.obj id).keep hm rfl rfl (fun _ _=>rfl),hr.mem.inj,hr.mem.base,?_,hr.mem.okn⟩,fun t ht=>hm.v _ _ (hr.tm t ht),hr.far,hr.size,hr.defers,hm.marks hr.marks⟩,hJ _ _ hj hm⟩
 obtain ⟨h1,h2,h3,h4,h5⟩:=hr.mem.ext
 exact ⟨h1,h2,h3,h4,h5⟩
def Za1 (listed:Array Bool) (j:Nat):Bool:=listed.getD j false
theorem ZgR {listed:Array Bool} (hs:listed.size=ops.size) {i:Nat} (h:i∈Region.ready .any ops listed) :
   i<ops.size/\Za1 listed i=false/\∃ o,ops[i]?=some o/\∀ e∈o.after.toList,Region.binds .any e=true->Za1 listed e.on=true:=by
 unfold Region.ready at h
 simp only [List.mem_filter,List.mem_range,Bool.and_eq_true] at h
 obtain ⟨hi,h1,h2⟩:=h
 refine ⟨hi,?_,?_⟩
 . unfold Za1
   have hi':i<listed.size:=by omega
   rw [Array.getD_eq_getD_getElem?,Array.getElem?_eq_getElem hi'] at h1 ⊢
   simpa using h1
 . have hg:ops[i]?=some ops[i]:=Array.getElem?_eq_getElem hi
   refine ⟨ops[i],hg,fun e he hb=>?_⟩
   rw [hg] at h2
   simp only [Option.map_some,Option.getD_some,Array.all_eq_true_iff_forall_mem] at h2
   have:=h2 e (by simpa using he)
   rw [hb] at this
   simpa [Za1] using this
theorem ZmF {listed:Array Bool} (hs:listed.size=ops.size) {i:Nat} {o:Oper} (ho:ops[i]?=some o) (hn:Za1 listed i=false)
   (he:∀ e∈o.after.toList,Region.binds .any e=true->Za1 listed e.on=true):i∈Region.ready .any ops listed:=by
 obtain ⟨hi,hg⟩:=Array.getElem?_eq_some_iff.1 ho
 unfold Region.ready
 simp only [List.mem_filter,List.mem_range,Bool.and_eq_true]
 refine ⟨hi,?_,?_⟩
 . unfold Za1 at hn
   have hi':i<listed.size:=by omega
   rw [Array.getD_eq_getD_getElem?,Array.getElem?_eq_getElem hi'] at hn ⊢
   simpa using hn
 . rw [ho]
   simp only [Option.map_some,Option.getD_some,Array.all_eq_true_iff_forall_mem]
   intro e hem
   cases hb:Region.binds .any e with
   | false=>simp
   | true=>simpa [Za1] using he e (by simpa using hem) hb
theorem ZhG (listed:Array Bool) {i:Nat} (hi:i<listed.size) (j:Nat):Za1 (listed.setIfInBounds i true) j=(Za1 listed j || decide (j=i)):=by
 unfold Za1
 rw [Array.getD_eq_getD_getElem?,Array.getD_eq_getD_getElem?,Array.getElem?_setIfInBounds]
 by_cases h:i=j
 . subst h;simp [hi]
 . have:¬j=i:=fun e=>h e.symm
   simp [h,this]
theorem ZrD (listed:Array Bool) {i:Nat} (hi:i<listed.size) (h:Za1 listed i=false):(listed.setIfInBounds i true).toList.count false+1=listed.toList.count false:=by
 have hl:i<listed.toList.length:=by simpa using hi
 have he:listed.toList[i]=false:=by
   unfold Za1 at h
   rw [Array.getD_eq_getD_getElem?,Array.getElem?_eq_getElem hi] at h
   simpa using h
 rw [Array.toList_setIfInBounds,List.count_set hl,he]
 have:0<listed.toList.count false:=List.count_pos_iff.2 (he ▸ List.getElem_mem hl)
 have e:(true == false)=false:=rfl
 rw [e]
 simp only [beq_self_eq_true,if_true,Bool.false_eq_true,if_false]
 omega
theorem Zkr {listed:Array Bool} (h:listed.toList.count false=0) {j:Nat} (hj:j<listed.size):Za1 listed j=true:=by
 rw [List.count_eq_zero] at h
 unfold Za1
 rw [Array.getD_eq_getD_getElem?,Array.getElem?_eq_getElem hj]
 cases hb:listed[j] with
 | true=>rfl
 | false =>
   exfalso
   apply h
   rw [<- hb]
   exact Array.mem_toList_iff.2 (Array.getElem_mem hj)
theorem Zri {listed:Array Bool} {m:Nat} (h:listed.toList.count false=m+1):∃ j,j<listed.size/\Za1 listed j=false:=by
 have:0<listed.toList.count false:=by omega
 rw [List.count_pos_iff] at this
 obtain ⟨j,hj,hjv⟩:=List.getElem_of_mem this
 refine ⟨j,by simpa using hj,?_⟩
 unfold Za1
 have hj':j<listed.size:=by simpa using hj
 rw [Array.getD_eq_getD_getElem?,Array.getElem?_eq_getElem hj']
 simpa using hjv
theorem ZtV {Q:Exit->Act->World->Prop} {K:Act->World->Prop} {i:Nat} (ho:ops[i]?=some o) (h:Zlu ro V.P ops o Q K a w):wpOpIn (Za4 ro) 0 V.P ops Q i K a w:=by
 unfold wpOpIn
 rw [ho]
 exact h
theorem Zsp {ρ:Type} {inl:Inl ρ} {k:St->Option ρ} {r:ρ} {Q:Exit->Act->World->Prop} (hG:Zai V) (hI:Zgb V inl) (hJ:Stays J)
   (hback:Zev 0 ops.toList=true) (hwait:∀ m,n<=m->m<ops.size->Zep (beforeL ops.toList 0 []) m=true)
   (hn:∀ σ' a' w',Holds J w0 ok nt ds σ' a' w'->k σ'=some r->Q .normal a' w') :
   ∀ (fuel i : Nat) (listed : Array Bool) (σ : St) (a : Act) (w : World), n <= i -> i <= ops.size -> listed.size = ops.size -> (∀ j, Za1 listed j = decide (j < i)) -> listed.toList.count false = fuel ->
     Holds J w0 ok nt ds σ a w->opsK V inl fid nt ops (ops.toList.drop i) σ k=some r->wpAnyIn (Za4 ro) 0 V.P .any ops Q fuel listed a w:=by
 intro fuel
 induction fuel with
 | zero =>
   intro i listed σ a w hni his hs hset hc hh h
   have hi:i=ops.size:=by
     apply Classical.byContradiction
     intro hne
     have hlt:i<listed.size:=by omega
     have:=Zkr hc hlt
     rw [hset i] at this
     simp at this
   refine ⟨?_,?_⟩
   . rw [List.eq_nil_iff_forall_not_mem]
     intro j hj
     obtain ⟨h1,h2,_⟩:=ZgR hs hj
     have:=Zkr hc (j:=j) (by omega)
     rw [h2] at this
     cases this
   . rw [hi,List.drop_eq_nil_of_le (by simp)] at h
     exact hn _ _ _ hh h
 | succ fuel ih =>
   intro i listed σ a w hni his hs hset hc hh h
   have hi:i<ops.size:=by
     apply Classical.byContradiction
     intro hne
     obtain ⟨j,hj,hjf⟩:=Zri hc
     rw [hset j] at hjf
     have:=of_decide_eq_false hjf
     omega
   have ho:ops[i]?=some ops[i]:=Array.getElem?_eq_getElem hi
   have hnot:Za1 listed i=false:=by rw [hset i];simp
   have hedges:EdgesIn ops (Za1 listed):=by
     intro j o' hj hoj e he hb
     rw [hset] at hj ⊢
     have hj:=of_decide_eq_true hj
     have:=ZeS _ _ hback j o' (by simpa using hoj) e he hb
     simp;omega
   have hr:i∈Region.ready .any ops listed:=by
     refine ZmF hs ho hnot fun e he hb=>?_
     have:=ZeS _ _ hback i ops[i] (by simp [ho]) e he hb
     rw [hset];simp;omega
   refine ⟨fun e=>(by rw [e] at hr;cases hr),fun j hj=>?_⟩
   obtain ⟨h1,h2,oj,hoj,hej⟩:=ZgR hs hj
   have hji:j=i:=by
     apply Classical.byContradiction
     intro hne
     rw [hset j] at h2
     have h2:=of_decide_eq_false h2
     have hw:=hwait j (by omega) h1
     have hb:=List.all_eq_true.1 hw i (List.mem_range.2 (by omega))
     have:=ZmN hedges j oj hoj hej i hb
     rw [hnot] at this
     cases this
   subst hji
   refine ZtV ho ?_
   have hd:ops.toList.drop j=ops[j]::ops.toList.drop (j+1):=by
     rw [List.drop_eq_getElem_cons (by simpa using hi)]
     simp
   rw [hd] at h
   refine ZuZ hG hI hJ hh h fun σ' a' w' hh' h'=>?_
   refine ih (j+1) _ σ' a' w' (by omega) (by omega) (by simp [hs]) (fun m=>?_) ?_ hh' h'
   . rw [ZhG _ (by omega),hset m]
     by_cases h1:m<j
     . simp [h1];omega
     . by_cases h2:m=j
       . simp [h2]
       . have:¬m<j+1:=by omega
         simp [h1,h2,this]
   . have:=ZrD listed (i:=j) (by omega) hnot
     omega
theorem Zsu {ρ:Type} {inl:Inl ρ} {k:St->Option ρ} {r:ρ} {Q:Exit->Act->World->Prop} {σ0 σn:St} {txs:List (Nat×Tx)} (hG:Zai V) (hI:Zgb V inl) (hJ:Stays J)
   (hback:Zev 0 ops.toList=true) (hwait:∀ m,n<=m->m<ops.size->Zep (beforeL ops.toList 0 []) m=true) (hns:n<=ops.size)
   (hrun:TxRun V fid nt ops (beforeL ops.toList 0 []) n σ0 txs) (hln:σn.like (app txs σ0)) (hk:opsK V inl fid nt ops (ops.toList.drop n) σn k=some r)
   (hn:∀ σ' a' w',Holds J w0 ok nt ds σ' a' w'->k σ'=some r->Q .normal a' w') :
   ∀ (fuel : Nat) (listed : Array Bool) (a : Act) (w : World), listed.size = ops.size -> EdgesIn ops (Za1 listed) -> (∀ j, Za1 listed j = true -> j < n) -> listed.toList.count false = fuel ->
     Holds J w0 ok nt ds (canon txs σ0 (Za1 listed)) a w->wpAnyIn (Za4 ro) 0 V.P .any ops Q fuel listed a w:=by
 intro fuel
 induction fuel with
 | zero =>
   intro listed a w hs hedges hlt hc hh
   refine Zsp hG hI hJ hback hwait hn 0 n listed σn a w (Nat.le_refl _) hns hs (fun j=>?_) hc (hh.like ?_) hk
   . by_cases hj:j<n
     . rw [Zkr hc (by omega)];simp [hj]
     . cases hb:Za1 listed j with
       | false=>simp [hj]
       | true=>exact (hj (hlt j hb)).elim
   . have:txs.filter (fun p=>Za1 listed p.1)=txs:=by
       rw [List.filter_eq_self]
       intro p hp
       obtain ⟨i,hi⟩:=List.getElem?_of_mem hp
       rw [hrun.idx i p hi]
       have:=(List.getElem?_eq_some_iff.1 hi).1
       exact Zkr hc (by have:=hrun.len;omega)
     unfold canon
     rw [this]
     exact hln.symm
 | succ fuel ih =>
   intro listed a w hs hedges hlt hc hh
   by_cases hall:∀ j,j<n->Za1 listed j=true
   . refine Zsp hG hI hJ hback hwait hn (fuel+1) n listed σn a w (Nat.le_refl _) hns hs (fun j=>?_) hc (hh.like ?_) hk
     . by_cases hj:j<n
       . rw [hall j hj];simp [hj]
       . cases hb:Za1 listed j with
         | false=>simp [hj]
         | true=>exact (hj (hlt j hb)).elim
     . have:txs.filter (fun p=>Za1 listed p.1)=txs:=by
         rw [List.filter_eq_self]
         intro p hp
         obtain ⟨i,hi⟩:=List.getElem?_of_mem hp
         rw [hrun.idx i p hi]
         have:=(List.getElem?_eq_some_iff.1 hi).1
         exact hall i (by have:=hrun.len;omega)
       unfold canon
       rw [this]
       exact hln.symm
   . refine ⟨fun e=>?_,fun i hi=>?_⟩
     . exfalso
       have hex:∃ j,j<n/\Za1 listed j=false:=by
         apply Classical.byContradiction
         intro hno
         apply hall
         intro j hj
         cases hb:Za1 listed j with
         | true=>rfl
         | false=>exact (hno ⟨j,hj,hb⟩).elim
       have least:∀ m,(∃ j,j<m/\Za1 listed j=false)->∃ j,Za1 listed j=false/\(∀ i,i<j->Za1 listed i=true)/\j<m:=by
         intro m
         induction m with
         | zero=>rintro ⟨j,hj,_⟩;omega
         | succ m ihm =>
           rintro ⟨j,hj,hjf⟩
           by_cases hlow:∃ j,j<m/\Za1 listed j=false
           . obtain ⟨j',h1,h2,h3⟩:=ihm hlow
             exact ⟨j',h1,h2,by omega⟩
           . refine ⟨m,?_,fun i hi=>?_,by omega⟩
             . have:j=m:=by
                 apply Classical.byContradiction
                 intro hne
                 exact hlow ⟨j,by omega,hjf⟩
               rw [<- this];exact hjf
             . cases hb:Za1 listed i with
               | true=>rfl
               | false=>exact (hlow ⟨i,hi,hb⟩).elim
       obtain ⟨j,hjf,hbelow,hjn⟩:=least n hex
       have hjs:j<ops.size:=by omega
       have hr:j∈Region.ready .any ops listed:=ZmF hs (Array.getElem?_eq_getElem hjs) hjf fun e he hb =>
         hbelow _ (by have:=ZeS _ _ hback j ops[j] (by simp [hjs]) e he hb;omega)
       rw [e] at hr
       cases hr
     . obtain ⟨h1,h2,o,ho,he⟩:=ZgR hs hi
       have hbd:=ZmN hedges i o ho he
       have hin:i<n:=by
         apply Classical.byContradiction
         intro hnn
         apply hall
         intro j hj
         have hw:=hwait i (by omega) h1
         exact hbd j (List.all_eq_true.1 hw j (List.mem_range.2 (by omega)))
       have hlen:=hrun.len
       have hp:txs[i]?=some txs[i]:=List.getElem?_eq_getElem (by omega)
       obtain ⟨o',ho',hd,hdst,hval⟩:=hrun.op i _ hp
       rw [ho] at ho'
       obtain rfl:=Option.some.inj ho'
       have hv:=hval (canon txs σ0 (Za1 listed)) fun l hl=>Zvs hrun hedges.closed hp h2 hbd hl
       refine ZtV ho (ZxB hG hJ hh hd hv fun a' w' hh'=>?_)
       have hset:∀ j,Za1 (listed.setIfInBounds i true) j=(Za1 listed j || decide (j=i)):=fun j=>ZhG _ (by omega) j
       refine ih _ a' w' (by simp [hs]) ?_ ?_ ?_ (hh'.like ?_)
       . intro j oj hj hoj e hem hb
         rw [hset] at hj ⊢
         simp only [Bool.or_eq_true,decide_eq_true_eq] at hj ⊢
         rcases hj with hj | hj
         . exact .inl (hedges j oj hj hoj e hem hb)
         . subst hj
           rw [ho] at hoj
           obtain rfl:=Option.some.inj hoj
           exact .inl (he e hem hb)
       . intro j hj
         rw [hset] at hj
         simp only [Bool.or_eq_true,decide_eq_true_eq] at hj
         rcases hj with hj | hj
         . exact hlt j hj
         . omega
       . have:=ZrD listed (i:=i) (by omega) h2
         omega
       . have:=Zw6 hrun hedges.closed hp h2 (S':=Za1 (listed.setIfInBounds i true)) (fun j _=>hset j)
         unfold Tx.put at this
         rw [hdst] at this
         exact this
theorem ZCj {ρ:Type} {inl:Inl ρ} {k:St->Option ρ} {r:ρ} {Q:Exit->Act->World->Prop} {id:Nat} {draw:Bool} (hG:Zai V) (hI:Zgb V inl) (hJ:Stays J)
   (hh:Holds J w0 ok nt ds σ a w) (h:regK V inl fid nt ops draw σ k=some r) (hn:∀ σ' a' w',Holds J w0 ok nt ds σ' a' w'->k σ'=some r->Q .normal a' w'):(Code.region id ops draw).wpIn (Za4 ro) 0 V.P Q a w:=by
 unfold regK at h
 cases draw with
 | false=>exact wpIn_region_list (ZfU hG hI hJ _ hh h hn)
 | true =>
   simp only [cond_true] at h
   rw [Zou,CheckFast.force_eq] at h
   cases hback:Zev 0 ops.toList with
   | false=>rw [hback] at h;cases h
   | true =>
     rw [hback] at h
     simp only [cond_true] at h
     have hns:ZeR (beforeL ops.toList 0 []) ops.toList.length<=ops.size:=by
       have:=ZlQ (beforeL ops.toList 0 []) ops.toList.length
       simpa using this
     have hwait:∀ m,ZeR (beforeL ops.toList 0 []) ops.toList.length<=m->m<ops.size->Zep (beforeL ops.toList 0 []) m=true :=
       fun m h1 h2=>Zj4 _ _ m h1 (by simpa using h2)
     obtain ⟨txs,σn,hrun,hk,hln⟩:=Zuq hns h
     have hnone:∀ j,Za1 (Array.replicate ops.size false) j=false:=by
       intro j
       unfold Za1
       rw [Array.getD_eq_getD_getElem?,Array.getElem?_replicate]
       split <;> rfl
     refine wpIn_region_any hG.2.1 (Zsu hG hI hJ hback hwait hns hrun hln hk hn ops.size _ a _ (by simp) (fun j oj hj=>by rw [hnone] at hj;cases hj)
       (fun j hj=>by rw [hnone] at hj;cases hj) (by simp) ?_)
     have:txs.filter (fun p=>Za1 (Array.replicate ops.size false) p.1)=[]:=by
       rw [List.filter_eq_nil_iff]
       intro p _
       rw [hnone];simp
     unfold canon
     rw [this]
     exact hh.drawn hJ _
end
end Go.Proofs.Mill
