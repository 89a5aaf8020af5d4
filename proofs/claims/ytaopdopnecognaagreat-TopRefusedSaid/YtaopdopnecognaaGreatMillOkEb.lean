/- The functions compute this. -/
import Derived.Test.YtaopdopnecognaaGreatMillOkDb
import Derived.Test.YtaopdopnecognaaGreatMillSeat3
import Derived.Test.YtaopdopnecognaaGreatMillFEb
set_option linter.all false
set_option maxRecDepth 100000
noncomputable section
namespace Go.Proofs.Mill
def e14:Env:=env1 [(49,s49)]
theorem g14:Zai e14:=Zal mix1 ent1 (Zab ok49 rfl Zah)
def s14:Spec:=Zap (Zac (Zaq celConfig)) (Zar (ZaK)) ZiV
theorem ok14:Zao Tryz.prog 14 s14 :=
 Zaj (V:=e14) (L:=nL) (rounds:=20) (depth:=6) g14 Zak (fun x=>by kernel_rfl)
def e50:Env:=env1 [(16,s16),(17,s17),(18,s18),(45,s45)]
theorem g50:Zai e50:=Zal mix1 ent1 (Zab ok16 rfl (Zab ok17 rfl (Zab ok18 rfl (Zab ok45 rfl Zah))))
def ZAm:LSpec:=ZdM [1,2,3,6,8,9] (Zaa (Zan .kid) (Zaa (Zan .int) (Zaa (Zav celConfig) (Zaa (Zav Zbe) (Zaa (ZaL 63 .sentry) (Zac (Zae .i64))))))) (⟨.exit 0,[2,3,6,8],(Zaa (Zan .int) (Zaa (Zav celConfig) (Zaa (Zav Zbe) (Zac (ZaL 63 .sentry)))))⟩:Way) (ZaC ZiA)
theorem ZBM:LoopOK e50 65 ZAm (Za7 e50.P 50 3) :=
 Zcj (L:=ZaO []) (rounds:=20) (depth:=6) (ts:=[1,2,3,6,8,9]) (v:=(Zaa (Zan .kid) (Zaa (Zan .int) (Zaa (Zav celConfig) (Zaa (Zav Zbe) (Zaa (ZaL 63 .sentry) (Zac (Zae .i64)))))))) (a:=⟨.exit 0,[2,3,6,8],(Zaa (Zan .int) (Zaa (Zav celConfig) (Zaa (Zav Zbe) (Zac (ZaL 63 .sentry)))))⟩) (step:=ZiA) g50 rfl ZaY (fun x=>by kernel_rfl)
def s50v (f:Config×(List Kid)×(List Int)->Option (Wld×Bool)):Spec:=Zap (Zaa (Zaq celConfig) (Zaa (Zan .kid) (Zac (Zan .int)))) (Zb0 (Zaa (Zaq Zbe) (Zac (ZaK)))) f
def s50:Spec:=s50v ZdE
theorem ok50:Zao Tryz.prog 50 s50 :=
 Zaj (V:=e50) (L:=(ZaO [(3,ZAm)])) (rounds:=20) (depth:=6) g50 (Zbo (nt:=65) (by kernel_rfl) (Zb6 (by kernel_rfl)) (ZaJ ZBM ZaX)) (fun x=>by kernel_rfl)
def e15v (f:Config×(List Kid)×(List Int)->Option (Wld×Bool)):Env:=env1 [(31,s31),(50,s50v f)]
def e15:Env:=e15v ZdE
theorem g15:Zai e15:=Zal mix1 ent1 (Zab ok31 rfl (Zab ok50 rfl Zah))
def l15v (w:Int->Option ((Unit)⊕(Bool))):LSpec:=Zfq [1] (Zac (Zae .i64)) (⟨.exit 0,[],valsNil⟩:Way) (⟨.ret,[0],(Zac (ZaK))⟩:Way) w
def Zz6:LSpec:=l15v Zfy
theorem ZBI (f:Config×(List Kid)×(List Int)->Option (Wld×Bool)) (x:Int):evK (e15v f) (ZaO []) (inlK (e15v f) 20 6) 1 48 20 (Za7 (e15v f).P 15 2) (build (([1]:List Nat).zip (Zac (Zae .i64)).kds) ((Zac (Zae .i64)).enc x))
   (Zdm (([1]:List Nat).zip (Zac (Zae .i64)).kds) (fun e=>bif e.same (⟨.exit 0,[],valsNil⟩:Way).e then (⟨.exit 0,[],valsNil⟩:Way).ts.zip (⟨.exit 0,[],valsNil⟩:Way).v.kds else (⟨.ret,[0],(Zac (ZaK))⟩:Way).ts.zip (⟨.ret,[0],(Zac (ZaK))⟩:Way).v.kds) (Zac (Zae .i64)).dec (dex2 (⟨.exit 0,[],valsNil⟩:Way) (⟨.ret,[0],(Zac (ZaK))⟩:Way)))=Zfx f x:=by kernel_rfl
theorem ZA0:LoopOK e15 48 Zz6 (Za7 e15.P 15 2) :=
 Zdk (L:=ZaO []) (rounds:=20) (depth:=6) (ts:=[1]) (v:=(Zac (Zae .i64))) (a:=⟨.exit 0,[],valsNil⟩) (b:=⟨.ret,[0],(Zac (ZaK))⟩) (step:=ZcJ) g15 rfl rfl ZaY (fun x=>ZBI ZdE x)
def s15v (f:Unit->Option Bool):Spec:=Zap valsNil (Zar (ZaK)) f
def s15:Spec:=s15v Zd9
theorem ZDc (f:Config×(List Kid)×(List Int)->Option (Wld×Bool)) (w:Int->Option ((Unit)⊕(Bool))) (x:Unit):Zi2 (e15v f) (ZaO [(2,l15v w)]) 20 6 15 (Zar (ZaK)).kds (valsNil.enc x) (Zar (ZaK)).dec=Zi3 w:=by kernel_rfl
theorem ok15:Zao Tryz.prog 15 s15 :=
 Zaj (V:=e15) (L:=(ZaO [(2,Zz6)])) (rounds:=20) (depth:=6) g15 (Zbo (nt:=48) (by kernel_rfl) (Zb6 (by kernel_rfl)) (ZaJ ZA0 ZaX)) (fun x=>ZDc ZdE Zfy x)
def e3v (f:Unit->Option Bool):Env:=env1 [(14,s14),(15,s15v f),(16,s16),(17,s17),(18,s18),(19,s19),(20,s20),(21,s21),(22,s22),(23,s23),(24,s24)]
def e3:Env:=e3v Zd9
theorem g3:Zai e3:=Zal mix1 ent1 (Zab ok14 rfl (Zab ok15 rfl (Zab ok16 rfl (Zab ok17 rfl (Zab ok18 rfl (Zab ok19 rfl (Zab ok20 rfl (Zab ok21 rfl (Zab ok22 rfl (Zab ok23 rfl (Zab ok24 rfl Zah)))))))))))
def s3:Spec:=Zap (Zaa (Zaq celConfig) (Zaa (Zan .sentry) (Zac (Zan .int)))) (Zar (ZaK)) Zrk
def e26x:Env:=Zz7 [(24,s24),(61,s61),(85,s85),(86,s86),(87,s87),(100,s100)] [(77,x77)]
theorem g26x:Zai e26x:=Ztl mix1 ent1 (Zab ok24 rfl (Zab ok61 rfl (Zab ok85 rfl (Zab ok86 rfl (Zab ok87 rfl (Zab ZAx rfl Zah)))))) rfl ZAp
def s26x:Spec:=Zap (Zaa (Zaq Zbe) (Zac (Zaq ZrM))) (Zb0 (Zaa (Zaq Zbe) (Zac (Zae .i64)))) ZjN
theorem ZDg:Zao Tryz.prog 26 s26x :=
 Zaj (V:=e26x) (L:=nL) (rounds:=20) (depth:=6) g26x Zak (fun x=>by kernel_rfl)
def e4v (f:Unit->Option Bool):Env:=env1 [(14,s14),(15,s15v f),(16,s16),(25,s25),(26,s26x),(27,s27)]
def e4:Env:=e4v Zd9
theorem g4:Zai e4:=Zal mix1 ent1 (Zab ok14 rfl (Zab ok15 rfl (Zab ok16 rfl (Zab ok25 rfl (Zab ZDg rfl (Zab ok27 rfl Zah))))))
def ZwC:LSpec:=Zfq [7,13,17] (Zaa (Zav Zbe) (Zaa (Zav Zbe) (Zac (Zae .i64)))) (⟨.exit 4,[7,13],(Zaa (Zav Zbe) (Zac (Zav Zbe)))⟩:Way) (⟨.ret,[6],(Zac (ZaK))⟩:Way) (ZaC Zex)
theorem ZBV:LoopOK e4 185 ZwC (Za7 e4.P 4 23) :=
 Zdk (L:=ZaO []) (rounds:=20) (depth:=6) (ts:=[7,13,17]) (v:=(Zaa (Zav Zbe) (Zaa (Zav Zbe) (Zac (Zae .i64))))) (a:=⟨.exit 4,[7,13],(Zaa (Zav Zbe) (Zac (Zav Zbe)))⟩) (b:=⟨.ret,[6],(Zac (ZaK))⟩) (step:=Zex) g4 rfl rfl ZaY (fun x=>by kernel_rfl)
def Zwe:LSpec:=Zfq [7,13,16] (Zaa (Zav Zbe) (Zaa (Zav Zbe) (Zac (Zae .i64)))) (⟨.exit 2,[7,13],(Zaa (Zav Zbe) (Zac (Zav Zbe)))⟩:Way) (⟨.ret,[6],(Zac (ZaK))⟩:Way) (ZaC ZeA)
theorem ZBj:LoopOK e4 185 Zwe (Za7 e4.P 4 18) :=
 Zdk (L:=ZaO []) (rounds:=20) (depth:=6) (ts:=[7,13,16]) (v:=(Zaa (Zav Zbe) (Zaa (Zav Zbe) (Zac (Zae .i64))))) (a:=⟨.exit 2,[7,13],(Zaa (Zav Zbe) (Zac (Zav Zbe)))⟩) (b:=⟨.ret,[6],(Zac (ZaK))⟩) (step:=ZeA) g4 rfl rfl ZaY (fun x=>by kernel_rfl)
def l4_8:LSpec:=ZdM [1,2,3,7,9,10] (Zaa (Zan .sentry) (Zaa (Zan .int) (Zaa (Zav celConfig) (Zaa (Zav Zbe) (Zaa (ZaL 63 .sentry) (Zac (Zae .i64))))))) (⟨.exit 0,[2,3,7,9],(Zaa (Zan .int) (Zaa (Zav celConfig) (Zaa (Zav Zbe) (Zac (ZaL 63 .sentry)))))⟩:Way) (ZaC Zdt)
theorem ZB9:LoopOK e4 185 l4_8 (Za7 e4.P 4 8) :=
 Zcj (L:=ZaO []) (rounds:=20) (depth:=6) (ts:=[1,2,3,7,9,10]) (v:=(Zaa (Zan .sentry) (Zaa (Zan .int) (Zaa (Zav celConfig) (Zaa (Zav Zbe) (Zaa (ZaL 63 .sentry) (Zac (Zae .i64)))))))) (a:=⟨.exit 0,[2,3,7,9],(Zaa (Zan .int) (Zaa (Zav celConfig) (Zaa (Zav Zbe) (Zac (ZaL 63 .sentry)))))⟩) (step:=Zdt) g4 rfl ZaY (fun x=>by kernel_rfl)
def s4:Spec:=Zap (Zaa (Zaq celConfig) (Zaa (Zan .sentry) (Zac (Zan .int)))) (Zar (ZaK)) Zpr
theorem key4 (f:Unit->Option Bool) (x:Config×(List SEntry)×(List Int)):Zi2 (e4v f) (ZaO [(23,ZwC),(18,Zwe),(8,l4_8)]) 20 6 4 (Zar (ZaK)).kds ((Zaa (Zaq celConfig) (Zaa (Zan .sentry) (Zac (Zan .int)))).enc x) (Zar (ZaK)).dec=Zfi f x.1 x.2.1 x.2.2:=by kernel_rfl
theorem ok4:Zao Tryz.prog 4 s4 :=
 Zaj (V:=e4) (L:=(ZaO [(23,ZwC),(18,Zwe),(8,l4_8)])) (rounds:=20) (depth:=6) g4 (Zbo (nt:=185) (by kernel_rfl) (Zb6 (by kernel_rfl)) (ZaJ ZBV (ZaJ ZBj (ZaJ ZB9 ZaX)))) (fun x=>key4 Zd9 x)
end Go.Proofs.Mill
