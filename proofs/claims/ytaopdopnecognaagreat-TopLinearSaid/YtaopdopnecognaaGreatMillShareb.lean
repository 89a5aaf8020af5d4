/- share.Step computes this. -/
import Derived.Test.YtaopdopnecognaaGreatMillBatchb
import Derived.Test.YtaopdopnecognaaGreatMillShareDefb
set_option linter.all false
set_option maxRecDepth 100000
noncomputable section
namespace Go.Proofs.Mill
open Go.RowKit
def vS:Env:=env1 [(120,s120),(121,s121),(70,s70),(146,s146),(147,s147),(148,s148),(150,s150),(151,s151)]
theorem gS:Zai vS:=Zal mix1 ent1 (Zab ZqE rfl (Zab Zxa rfl (Zab ok70 rfl (Zab ZD4 rfl (Zab ZEe rfl (Zab ZA0 rfl (Zab ZAH rfl (Zab ZDK rfl Zah))))))))
def s115:Spec:=Zao (Zad (Zaq ZaG)) hRes ZkT
section
variable (x:Turn) (m:Nat)
set_option maxRecDepth 100000
theorem hk0:hK0 vS x=some (hT0 vS x):=by kernel_rfl
theorem hk2:runO vS hS2 [1,2] (hT1 vS x m)=some (hT2 vS x m):=by kernel_rfl
theorem hk3:runO vS hS2 [4,5] (hT2 vS x m)=some (hT3 vS x m):=by kernel_rfl
theorem hk4:runO vS hS2 [7,8] (hT3 vS x m)=some (hT4 vS x m):=by kernel_rfl
theorem hk5:runO vS hS2 [10,11] (hT4 vS x m)=some (hT5 vS x m):=by kernel_rfl
theorem hk6:runO vS hS2 [13,14] (hT5 vS x m)=some (hT6 vS x m):=by kernel_rfl
theorem hk7:runO vS hS3 [0,1,2,3] (hT6 vS x m)=some (hT7 vS x m):=by kernel_rfl
theorem ha2:look (hT2 vS x m).tm 10=.cst (.map (some m)):=by kernel_rfl
theorem hb2:look (hT2 vS x m).tm 12=hFn 123 x:=by kernel_rfl
theorem ha3:look (hT3 vS x m).tm 10=.cst (.map (some m)):=by kernel_rfl
theorem hb3:look (hT3 vS x m).tm 14=hFn 124 x:=by kernel_rfl
theorem ha4:look (hT4 vS x m).tm 10=.cst (.map (some m)):=by kernel_rfl
theorem hb4:look (hT4 vS x m).tm 16=hFn 125 x:=by kernel_rfl
theorem ha5:look (hT5 vS x m).tm 10=.cst (.map (some m)):=by kernel_rfl
theorem hb5:look (hT5 vS x m).tm 18=hFn 126 x:=by kernel_rfl
theorem ha7:look (hT7 vS x m).tm 21=.cst (.map (some m)):=by kernel_rfl
theorem hb7:look (hT7 vS x m).tm 24=.i x.th.phase:=by kernel_rfl
def hO (i:Nat):Oper:=(hS2[i]?).getD default
def hP:Oper:=(hS3[4]?).getD default
theorem hg0:(hO 0).guard=none:=by kernel_rfl
theorem hp0:(hO 0).op=.makeMap 190 none:=by kernel_rfl
theorem hd0:(hO 0).dst=some 10:=by kernel_rfl
theorem hg3:(hO 3).guard=none:=by kernel_rfl
theorem hp3:(hO 3).op=.insert 190 (.tmp 10) (.const (.int .i64 13)) (.tmp 12):=by kernel_rfl
theorem hd3:(hO 3).dst=none:=by kernel_rfl
theorem hg6:(hO 6).guard=none:=by kernel_rfl
theorem hp6:(hO 6).op=.insert 190 (.tmp 10) (.const (.int .i64 14)) (.tmp 14):=by kernel_rfl
theorem hd6:(hO 6).dst=none:=by kernel_rfl
theorem hg9:(hO 9).guard=none:=by kernel_rfl
theorem hp9:(hO 9).op=.insert 190 (.tmp 10) (.const (.int .i64 15)) (.tmp 16):=by kernel_rfl
theorem hd9:(hO 9).dst=none:=by kernel_rfl
theorem hg12:(hO 12).guard=none:=by kernel_rfl
theorem hp12:(hO 12).op=.insert 190 (.tmp 10) (.const (.int .i64 16)) (.tmp 18):=by kernel_rfl
theorem hd12:(hO 12).dst=none:=by kernel_rfl
theorem hgP:hP.guard=none:=by kernel_rfl
theorem hpP:hP.op=.lookup 190 (.tmp 21) (.tmp 24) true:=by kernel_rfl
theorem hdP:hP.dst=some 25:=by kernel_rfl
theorem hl2:hS2.toList=[hO 0]++(opL hS2 [1,2]++([hO 3]++(opL hS2 [4,5]++([hO 6]++(opL hS2 [7,8]++([hO 9]++(opL hS2 [10,11]++([hO 12]++opL hS2 [13,14])))))))):=by kernel_rfl
theorem hl3:hS3.toList=opL hS3 [0,1,2,3]++([hP]++opL hS3 [5,6,7,8,9]):=by kernel_rfl
theorem ZD7:ZmE vS (inlK vS 20 6) (hT8 vS x m (hFn 123 x) true) hRes.dec=Zmz x:=by kernel_rfl
theorem ZDE:ZmE vS (inlK vS 20 6) (hT8 vS x m (hFn 124 x) true) hRes.dec=ZmJ x:=by kernel_rfl
theorem ZEd:ZmE vS (inlK vS 20 6) (hT8 vS x m (hFn 125 x) true) hRes.dec=Zm1 x:=by kernel_rfl
theorem ZDT:ZmE vS (inlK vS 20 6) (hT8 vS x m (hFn 126 x) true) hRes.dec=Zm5 x:=by kernel_rfl
theorem he0:ZmE vS (inlK vS 20 6) (hT8 vS x m (.cst .nilFunc) false) hRes.dec=some (x,false):=by kernel_rfl
end
theorem vS_P:vS.P=Tryz.prog:=rfl
theorem ZCT:∃ q,Tryz.prog.underlying 190=some (.map 3 q)/\Tryz.prog.underlying 3=some (.int .i64)/\∀ w,(zeroValue q).run Tryz.prog w=.ok .nilFunc w:=by
 have h:(match Tryz.prog.underlying 190 with | some (.map k q)=>Nat.beq k 3 && Nat.beq q 189 | _=>false)=true:=by kernel_rfl
 split at h
 . rename_i k q he
   simp only [Bool.and_eq_true] at h
   have h1:=Nat.eq_of_beq_eq_true h.1
   have h2:=Nat.eq_of_beq_eq_true h.2
   subst h1 h2
   refine ⟨189,he,by kernel_rfl,fun w=>?_⟩
   have h3:((Tryz.prog.info? 189).bind (·.zero))=some .nilFunc:=by kernel_rfl
   obtain ⟨i,hi,hz⟩:=Option.bind_eq_some_iff.1 h3
   simp [zeroValue,typeInfo,hi,hz]
 . cases h
theorem ZBb:∃ q,vS.P.underlying 190=some (.map 3 q)/\vS.P.underlying 3=some (.int .i64)/\∀ w,(zeroValue q).run vS.P w=.ok .nilFunc w:=by rw [vS_P];exact ZCT
theorem Zde {P:Program} {ops:Array Oper} {o:Oper} {tail:List Oper} {a:Act} {w:World} {Q:Exit->Act->World->Prop} (hg:o.guard=none)
   (h:o.wpIn (Za4 none) 0 P a w (fun a' w'=>wpListIn (Za4 none) 0 P ops Q tail a' w') Q):wpListIn (Za4 none) 0 P ops Q ([o]++tail) a w:=by
 rw [List.singleton_append,Zha]
 exact Zgn (by unfold Region.wanted;rw [hg]) h
theorem hq13:(([]:List (Int×AV)).all fun p=>!(p.1 == 13))=true:=rfl
theorem hr13 (x:Turn):([]:List (Int×AV))++[(13,hFn 123 x)]=[(13,hFn 123 x)]:=rfl
theorem hq14 {x:Turn}:(([(13,hFn 123 x)]:List (Int×AV)).all fun p=>!(p.1 == 14))=true:=by kernel_rfl
theorem hr14 (x:Turn):([(13,hFn 123 x)]:List (Int×AV))++[(14,hFn 124 x)]=[(13,hFn 123 x),(14,hFn 124 x)]:=rfl
theorem hq15 {x:Turn}:(([(13,hFn 123 x),(14,hFn 124 x)]:List (Int×AV)).all fun p=>!(p.1 == 15))=true:=by kernel_rfl
theorem hr15 (x:Turn):([(13,hFn 123 x),(14,hFn 124 x)]:List (Int×AV))++[(15,hFn 125 x)]=[(13,hFn 123 x),(14,hFn 124 x),(15,hFn 125 x)]:=rfl
theorem hq16 {x:Turn}:(([(13,hFn 123 x),(14,hFn 124 x),(15,hFn 125 x)]:List (Int×AV)).all fun p=>!(p.1 == 16))=true:=by kernel_rfl
theorem hr16 (x:Turn):([(13,hFn 123 x),(14,hFn 124 x),(15,hFn 125 x)]:List (Int×AV))++[(16,hFn 126 x)]=[(13,hFn 123 x),(14,hFn 124 x),(15,hFn 125 x),(16,hFn 126 x)]:=rfl
def outP (w:World) (ok:Nat->Prop) (y:Turn×Bool) (e:Ending) (w':World):Prop:=∃ u,e=.returned u/\Below w.heap.size w w'/\Res w ok w' (hRes.enc y) u
abbrev outQ (w:World) (ok:Nat->Prop) (y:Turn×Bool):Exit->Act->World->Prop:=bodyPostM Fence.wide 0 vS.P Tryz.f115 (outP w ok y)
abbrev outR (w:World) (ok:Nat->Prop) (y:Turn×Bool):Exit->Act->World->Prop:=Exit.then (Code.wpIn Fence.wide 0 vS.P hS4 (outQ w ok y)) (outQ w ok y)
set_option maxHeartbeats 4000000 in
theorem Zjh {w w':World} {ok ok1:Nat->Prop} {σ:St} {a:Act} {y:Turn×Bool} (hok1:ok1=fun b=>ok b\/w.heap.size<=b) (hh:Holds T w ok1 33 [] σ a w') (h:ZmE vS (inlK vS 20 6) σ hRes.dec=some y) :
   wpListIn (Za4 none) 0 vS.P hS3 (outR w ok y) (opL hS3 [5,6,7,8,9]) a w':=by
 unfold ZmE at h
 refine ZfU gS (Zba gS 6) Stays.triv _ hh h fun σ14 a14 w14 hh14 h14=>?_
 show Code.wpIn (Za4 none) 0 vS.P hS4 (outQ w ok y) a14 w14
 refine ZbM gS Stays.triv hh14 h14 fun e15 σ15 a15 w15 hh15 h15=>?_
 cases e15 with
 | exit id=>cases h15
 | goto id=>cases h15
 | normal=>cases h15
 | ret =>
 obtain ⟨mu5,hr5,_⟩:=hh15
 obtain ⟨v,_,k1,k2⟩:=Rd.runK_val h15
 split at k2
 case h_2=>cases k2
 rename_i r hx
 have hr:=hRes.law _ _ k2
 subst hr
 show LeavesInM Fence.wide 0 vS.P Tryz.f115 a15.tmps (outP w ok y) a15.defers .returning w15
 rw [<- Zqa]
 rw [hr5.defers]
 refine Zjj (V:=vS) (n:=0) (fn:=Tryz.f115) (Rr:=outP w ok y) [] a15 w15 hr5 fun a6 w6 ht hr6 _=>?_
 obtain ⟨u,hu,huv⟩:=Zh6 hr6 k1
 rw [ht] at hu
 refine ⟨u,hu,u,rfl,hr6.mem.ext,fun base=>?_⟩
 obtain ⟨ob2,os,mv⟩:=Zhj hx base
 obtain ⟨n,hfr⟩:=Zet base (hRes.enc y)
 obtain ⟨mu2,hm2,hv2,_⟩:=Zjq hr6.mem mv hfr.2.2.2 (ob2:=Zay (ZbZ base (hRes.enc y)).2 []) (fun p hp=>ZcX _ _ p hfr.2.2.2 hp) (fun i hi=>by rw [Zb3 _ _ _ hi];rfl)
 have h7:=(hv2 [u] ⟨huv,trivial⟩).1
 rw [hok1] at hm2 h7
 exact ⟨mu2,hm2,h7⟩
set_option maxHeartbeats 4000000 in
theorem Zw0 {w w':World} {ok ok1:Nat->Prop} {x:Turn} {m:Nat} {a:Act} {y:Turn×Bool} (hok1:ok1=fun b=>ok b\/w.heap.size<=b) (hh13:Holds (MapJ m [(13,hFn 123 x),(14,hFn 124 x),(15,hFn 125 x),(16,hFn 126 x)]) w ok1 33 [] (hT7 vS x m) a w')
   (hy:ZeZ x=some y):wpListIn (Za4 none) 0 vS.P hS3 (outR w ok y) ([hP]++opL hS3 [5,6,7,8,9]) a w':=by
 obtain ⟨q,hu1,hu2,hz⟩:=ZBb
 unfold ZeZ at hy
 by_cases p13:x.th.phase=13
 . rw [show (x.th.phase == 13)=true by simp [p13]] at hy
   exact Zde hgP (Zli (V:=vS) (t:=190) (tm:=21) (tk:=24) (d:=25) (j:=0) (k:=x.th.phase) hh13 hpP hdP (by omega) hu1 hu2 (ha7 x m) (hb7 x m) (by rw [p13];rfl) (by rw [p13];rfl) fun a' w' hh=>Zjh hok1 hh ((ZD7 x m).trans hy))
 . rw [show (x.th.phase == 13)=false by simp [p13]] at hy
   simp only [cond_false] at hy
   by_cases p14:x.th.phase=14
   . rw [show (x.th.phase == 14)=true by simp [p14]] at hy
     exact Zde hgP (Zli (V:=vS) (t:=190) (tm:=21) (tk:=24) (d:=25) (j:=1) (k:=x.th.phase) hh13 hpP hdP (by omega) hu1 hu2 (ha7 x m) (hb7 x m) (by rw [p14];rfl) (by rw [p14];rfl) fun a' w' hh=>Zjh hok1 hh ((ZDE x m).trans hy))
   . rw [show (x.th.phase == 14)=false by simp [p14]] at hy
     simp only [cond_false] at hy
     by_cases p15:x.th.phase=15
     . rw [show (x.th.phase == 15)=true by simp [p15]] at hy
       exact Zde hgP (Zli (V:=vS) (t:=190) (tm:=21) (tk:=24) (d:=25) (j:=2) (k:=x.th.phase) hh13 hpP hdP (by omega) hu1 hu2 (ha7 x m) (hb7 x m) (by rw [p15];rfl) (by rw [p15];rfl) fun a' w' hh=>Zjh hok1 hh ((ZEd x m).trans hy))
     . rw [show (x.th.phase == 15)=false by simp [p15]] at hy
       simp only [cond_false] at hy
       by_cases p16:x.th.phase=16
       . rw [show (x.th.phase == 16)=true by simp [p16]] at hy
         exact Zde hgP (Zli (V:=vS) (t:=190) (tm:=21) (tk:=24) (d:=25) (j:=3) (k:=x.th.phase) hh13 hpP hdP (by omega) hu1 hu2 (ha7 x m) (hb7 x m) (by rw [p16];rfl) (by rw [p16];rfl) fun a' w' hh=>Zjh hok1 hh ((ZDT x m).trans hy))
       . rw [show (x.th.phase == 16)=false by simp [p16]] at hy
         simp only [cond_false] at hy
         have hne:∀ n:Int,x.th.phase≠n->(!(n == x.th.phase))=true:=fun n h=>by simp [Ne.symm h]
         exact Zde hgP (Zvy (V:=vS) (t:=190) (tm:=21) (tk:=24) (d:=25) (k:=x.th.phase) hh13 hpP hdP (by omega) hu1 hu2 (hz _) (ha7 x m) (hb7 x m)
           (by simp only [List.nil_append,List.singleton_append,List.cons_append,List.all_cons,List.all_nil,hne 13 p13,hne 14 p14,hne 15 p15,hne 16 p16,Bool.and_self]) fun a' w' hh=>Zjh hok1 hh ((he0 x m).trans hy))
set_option maxHeartbeats 4000000 in
theorem ZCP:Zan vS.P 115 s115:=by
 intro w ok avs vals (x:Turn) (y:Turn×Bool) hd hy hv
 have hd:=(Zad (Zaq ZaG)).law _ _ hd
 subst hd
 have hy:ZeZ x=some y:=hy
 have hv:VL (pcx w ok) [hAV x] vals.toList:=hv
 obtain ⟨ok1,hok1⟩:∃ ok1:Nat->Prop,ok1=fun b=>ok b\/w.heap.size<=b:=⟨_,rfl⟩
 have hm:Mem w (cx w [] (fun _=>none) ok1) :=
   ⟨fun _=>rfl,fun _ _ _ h=>(by cases h),fun _ _ h=>(by cases h),Below.refl _ _,fun b hb=>.inl (by rw [hok1];exact .inr hb)⟩
 have hv':VL (cx w [] (fun _=>none) ok1) [hAV x] vals.toList:=by
   have hmono:Mono (pcx w ok) (cx w [] (fun _=>none) ok1):=Zdf (fun b hb=>⟨⟨by rw [hok1];exact .inl hb.1,hb.2.1,hb.2.2⟩,rfl⟩) (fun id=>.inl rfl) (fun _ _ h=>⟨h,rfl⟩)
   exact hmono.vl _ _ hv
 have hst:Holds T w ok1 33 [] ⟨ZbU 0 [hAV x],[]⟩ { tmps:=vals++Array.replicate (33-vals.size) undef,defers:=[] } w:=⟨_,Zfn hm hv' (by simp),trivial⟩
 have hf:vS.P.funcs[115]?=some Tryz.f115:=by kernel_rfl
 have hbody:Tryz.f115.body=some (.seq (ZaW hS) (.seq (ZaW (Zax hS)) (.seq (.region 2 hS2 false) (.seq (.region 3 hS3 false) hS4)))):=by kernel_rfl
 have hnt:Tryz.f115.ntmps=33:=by kernel_rfl
 obtain ⟨q,hu1,hu2,hz⟩:=ZBb
 refine (show Calls vS.P 115 vals w (outP w ok y) from ?_)
 refine (callsIn_wide (n:=0)).1 (callsIn_of_wp_marks (F:=Fence.wide) (n:=0) hf hbody trivial ?_)
 rw [hnt]
 refine wpIn_seq (ZbM gS Stays.triv hst (hk0 x) fun e1 σ1 a1 w1 hh1 h1=>?_)
 cases e1 with
 | exit id=>cases h1
 | goto id=>cases h1
 | ret=>cases h1
 | normal =>
 refine wpIn_seq (ZbM gS Stays.triv hh1 h1 fun e2 σ2 a2 w2 hh2 h2=>?_)
 cases e2 with
 | exit id=>cases h2
 | goto id=>cases h2
 | ret=>cases h2
 | normal =>
 have h2:σ2=_:=Option.some.inj h2
 rw [h2] at hh2
 refine wpIn_seq (wpIn_region_list ?_)
 rw [hl2]
 refine Zde hg0 (Zzq (V:=vS) (t:=190) (d:=10) hh2 hp0 hd0 (by omega) fun m w3 hm0 hh3=>?_)
 have hh3:Holds (MapJ m []) w ok1 33 [] (hT1 vS x m) _ w3:=hh3
 refine Zfm gS (Zba gS 6) (MapJ.stays m _) _ hh3 (hk2 x m) fun σ4 a4 w4 hh4 h4=>?_
 have h4:σ4=_:=Option.some.inj h4
 rw [h4] at hh4
 refine Zde hg3 (ZoK (V:=vS) (t:=190) (k:=13) (tm:=10) (tv:=12) hh4 hm0 hp3 hd3 hu1 hu2 (ha2 x m) (hb2 x m) hq13 (hr13 x) fun w5 hh5=>?_)
 refine Zfm gS (Zba gS 6) (MapJ.stays m _) _ hh5 (hk3 x m) fun σ6 a6 w6 hh6 h6=>?_
 have h6:σ6=_:=Option.some.inj h6
 rw [h6] at hh6
 refine Zde hg6 (ZoK (V:=vS) (t:=190) (k:=14) (tm:=10) (tv:=14) hh6 hm0 hp6 hd6 hu1 hu2 (ha3 x m) (hb3 x m) hq14 (hr14 x) fun w7 hh7=>?_)
 refine Zfm gS (Zba gS 6) (MapJ.stays m _) _ hh7 (hk4 x m) fun σ8 a8 w8 hh8 h8=>?_
 have h8:σ8=_:=Option.some.inj h8
 rw [h8] at hh8
 refine Zde hg9 (ZoK (V:=vS) (t:=190) (k:=15) (tm:=10) (tv:=16) hh8 hm0 hp9 hd9 hu1 hu2 (ha4 x m) (hb4 x m) hq15 (hr15 x) fun w9 hh9=>?_)
 refine Zfm gS (Zba gS 6) (MapJ.stays m _) _ hh9 (hk5 x m) fun σ10 a10 w10 hh10 h10=>?_
 have h10:σ10=_:=Option.some.inj h10
 rw [h10] at hh10
 refine Zde hg12 (ZoK (V:=vS) (t:=190) (k:=16) (tm:=10) (tv:=18) hh10 hm0 hp12 hd12 hu1 hu2 (ha5 x m) (hb5 x m) hq16 (hr16 x) fun w11 hh11=>?_)
 refine ZfU gS (Zba gS 6) (MapJ.stays m _) _ hh11 (hk6 x m) fun σ12 a12 w12 hh12 h12=>?_
 have h12:σ12=_:=Option.some.inj h12
 rw [h12] at hh12
 refine wpIn_seq (wpIn_region_list ?_)
 rw [hl3]
 refine Zfm gS (Zba gS 6) (MapJ.stays m _) _ hh12 (hk7 x m) fun σ13 a13 w13 hh13 h13=>?_
 have h13:σ13=_:=Option.some.inj h13
 rw [h13] at hh13
 exact Zw0 hok1 hh13 hy
theorem ZDt:Zan Tryz.prog 115 s115:=by
 have h:=ZCP
 rw [vS_P] at h
 exact h
end Go.Proofs.Mill
