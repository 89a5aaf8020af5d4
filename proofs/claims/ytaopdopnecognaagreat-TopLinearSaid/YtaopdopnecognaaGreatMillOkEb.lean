/- The functions compute this. -/
import Derived.Test.YtaopdopnecognaaGreatMillOkDb
import Derived.Test.YtaopdopnecognaaGreatMillSeat3
import Derived.Test.YtaopdopnecognaaGreatMillFEb
set_option linter.all false
set_option maxRecDepth 100000
noncomputable section
namespace Go.Proofs.Mill
def e14:Env:=env1 [(49,s49)]
theorem g14:Zai e14:=Zal mix1 ent1 (Zab ok49 rfl Zah)
def s14:Spec:=Zao (Zad (Zaq celConfig)) (Zar (ZaN)) ZlB
theorem ok14:Zan Tryz.prog 14 s14 :=
 Zaj (V:=e14) (L:=nL) (rounds:=20) (depth:=6) g14 Zak (fun x=>by kernel_rfl)
def e50:Env:=env1 [(16,s16),(17,s17),(18,s18),(45,s45)]
theorem g50:Zai e50:=Zal mix1 ent1 (Zab ok16 rfl (Zab ok17 rfl (Zab ok18 rfl (Zab ok45 rfl Zah))))
def ZBe:LSpec:=Zdm [1,2,3,6,8,9] (Zaa (Zap .kid) (Zaa (Zap .int) (Zaa (Zav celConfig) (Zaa (Zav Zc0) (Zaa (ZaF 63 .sentry) (Zad (Zae .i64))))))) (⟨.exit 0,[2,3,6,8],(Zaa (Zap .int) (Zaa (Zav celConfig) (Zaa (Zav Zc0) (Zad (ZaF 63 .sentry)))))⟩:Way) (ZaA ZiQ)
theorem ZBw:LoopOK e50 65 ZBe (Za5 e50.P 50 3) :=
 Zb9 (L:=ZaL []) (rounds:=20) (depth:=6) (ts:=[1,2,3,6,8,9]) (v:=(Zaa (Zap .kid) (Zaa (Zap .int) (Zaa (Zav celConfig) (Zaa (Zav Zc0) (Zaa (ZaF 63 .sentry) (Zad (Zae .i64)))))))) (a:=⟨.exit 0,[2,3,6,8],(Zaa (Zap .int) (Zaa (Zav celConfig) (Zaa (Zav Zc0) (Zad (ZaF 63 .sentry)))))⟩) (step:=ZiQ) g50 rfl ZaY (fun x=>by kernel_rfl)
def s50v (f:Config×(List Kid)×(List Int)->Option (Wld×Bool)):Spec:=Zao (Zaa (Zaq celConfig) (Zaa (Zap .kid) (Zad (Zap .int)))) (ZbS (Zaa (Zaq Zc0) (Zad (ZaN)))) f
def s50:Spec:=s50v ZdK
theorem ok50:Zan Tryz.prog 50 s50 :=
 Zaj (V:=e50) (L:=(ZaL [(3,ZBe)])) (rounds:=20) (depth:=6) g50 (Zbi (nt:=65) (by kernel_rfl) (Zb1 (by kernel_rfl)) (ZaD ZBw ZaT)) (fun x=>by kernel_rfl)
def e15v (f:Config×(List Kid)×(List Int)->Option (Wld×Bool)):Env:=env1 [(31,s31),(50,s50v f)]
def e15:Env:=e15v ZdK
theorem g15:Zai e15:=Zal mix1 ent1 (Zab ok31 rfl (Zab ok50 rfl Zah))
def l15v (w:Int->Option ((Unit)⊕(Bool))):LSpec:=Zfq [1] (Zad (Zae .i64)) (⟨.exit 0,[],valsNil⟩:Way) (⟨.ret,[0],(Zad (ZaN))⟩:Way) w
def ZAX:LSpec:=l15v ZfL
theorem ZBM (f:Config×(List Kid)×(List Int)->Option (Wld×Bool)) (x:Int):evK (e15v f) (ZaL []) (inlK (e15v f) 20 6) 1 48 20 (Za5 (e15v f).P 15 2) (build (([1]:List Nat).zip (Zad (Zae .i64)).kds) ((Zad (Zae .i64)).enc x))
   (Zdn (([1]:List Nat).zip (Zad (Zae .i64)).kds) (fun e=>bif e.same (⟨.exit 0,[],valsNil⟩:Way).e then (⟨.exit 0,[],valsNil⟩:Way).ts.zip (⟨.exit 0,[],valsNil⟩:Way).v.kds else (⟨.ret,[0],(Zad (ZaN))⟩:Way).ts.zip (⟨.ret,[0],(Zad (ZaN))⟩:Way).v.kds) (Zad (Zae .i64)).dec (dex2 (⟨.exit 0,[],valsNil⟩:Way) (⟨.ret,[0],(Zad (ZaN))⟩:Way)))=ZfB f x:=by kernel_rfl
theorem ZBB:LoopOK e15 48 ZAX (Za5 e15.P 15 2) :=
 Zds (L:=ZaL []) (rounds:=20) (depth:=6) (ts:=[1]) (v:=(Zad (Zae .i64))) (a:=⟨.exit 0,[],valsNil⟩) (b:=⟨.ret,[0],(Zad (ZaN))⟩) (step:=ZcU) g15 rfl rfl ZaY (fun x=>ZBM ZdK x)
def s15v (f:Unit->Option Bool):Spec:=Zao valsNil (Zar (ZaN)) f
def s15:Spec:=s15v Zc4
theorem ZDJ (f:Config×(List Kid)×(List Int)->Option (Wld×Bool)) (w:Int->Option ((Unit)⊕(Bool))) (x:Unit):Zi4 (e15v f) (ZaL [(2,l15v w)]) 20 6 15 (Zar (ZaN)).kds (valsNil.enc x) (Zar (ZaN)).dec=Zjb w:=by kernel_rfl
theorem ok15:Zan Tryz.prog 15 s15 :=
 Zaj (V:=e15) (L:=(ZaL [(2,ZAX)])) (rounds:=20) (depth:=6) g15 (Zbi (nt:=48) (by kernel_rfl) (Zb1 (by kernel_rfl)) (ZaD ZBB ZaT)) (fun x=>ZDJ ZdK ZfL x)
def e3v (f:Unit->Option Bool):Env:=env1 [(14,s14),(15,s15v f),(16,s16),(17,s17),(18,s18),(19,s19),(20,s20),(21,s21),(22,s22),(23,s23),(24,s24)]
def e3:Env:=e3v Zc4
theorem g3:Zai e3:=Zal mix1 ent1 (Zab ok14 rfl (Zab ok15 rfl (Zab ok16 rfl (Zab ok17 rfl (Zab ok18 rfl (Zab ok19 rfl (Zab ok20 rfl (Zab ok21 rfl (Zab ok22 rfl (Zab ok23 rfl (Zab ok24 rfl Zah)))))))))))
def s3:Spec:=Zao (Zaa (Zaq celConfig) (Zaa (Zap .sentry) (Zad (Zap .int)))) (Zar (ZaN)) ZrA
def e26x:Env:=ZAz [(24,s24),(61,s61),(85,s85),(86,s86),(87,s87),(100,s100)] [(77,x77)]
theorem g26x:Zai e26x:=ZuH mix1 ent1 (Zab ok24 rfl (Zab ok61 rfl (Zab ok85 rfl (Zab ok86 rfl (Zab ok87 rfl (Zab ZBo rfl Zah)))))) rfl ZAU
def s26x:Spec:=Zao (Zaa (Zaq Zc0) (Zad (Zaq ZdE))) (ZbS (Zaa (Zaq Zc0) (Zad (Zae .i64)))) Znp
theorem ZDg:Zan Tryz.prog 26 s26x :=
 Zaj (V:=e26x) (L:=nL) (rounds:=20) (depth:=6) g26x Zak (fun x=>by kernel_rfl)
def e4v (f:Unit->Option Bool):Env:=env1 [(14,s14),(15,s15v f),(16,s16),(25,s25),(26,s26x),(27,s27)]
def e4:Env:=e4v Zc4
theorem g4:Zai e4:=Zal mix1 ent1 (Zab ok14 rfl (Zab ok15 rfl (Zab ok16 rfl (Zab ok25 rfl (Zab ZDg rfl (Zab ok27 rfl Zah))))))
def s4:Spec:=Zao (Zaa (Zaq celConfig) (Zaa (Zap .sentry) (Zad (Zap .int)))) (Zar (ZaN)) ZpP
end Go.Proofs.Mill
