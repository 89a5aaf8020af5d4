/- The functions compute this. -/
import Derived.Test.YtaopdopnecognaaGreatMillOkDb
import Derived.Test.YtaopdopnecognaaGreatMillSeat3
import Derived.Test.YtaopdopnecognaaGreatMillFEb
set_option linter.all false
set_option maxRecDepth 100000
noncomputable section
namespace Go.Proofs.Mill
def e14:Env:=env1 [(49,s49)]
theorem g14:Zai e14:=Zal mix1 ent1 (Zab ok49 rfl Zah)
def s14:Spec:=Zap (Zac (Zar celConfig)) (Zas (ZaJ)) Zi3
theorem ok14:Zan Tryz.prog 14 s14 :=
 Zaj (V:=e14) (L:=nL) (rounds:=20) (depth:=6) g14 Zak (fun x=>by kernel_rfl)
def e50:Env:=env1 [(16,s16),(17,s17),(18,s18),(45,s45)]
theorem g50:Zai e50:=Zal mix1 ent1 (Zab ok16 rfl (Zab ok17 rfl (Zab ok18 rfl (Zab ok45 rfl Zah))))
def ZAC:LSpec:=Zd5 [1,2,3,6,8,9] (Zaa (Zao .kid) (Zaa (Zao .int) (Zaa (Zat celConfig) (Zaa (Zat ZbR) (Zaa (ZaQ 63 .sentry) (Zac (Zae .i64))))))) (⟨.exit 0,[2,3,6,8],(Zaa (Zao .int) (Zaa (Zat celConfig) (Zaa (Zat ZbR) (Zac (ZaQ 63 .sentry)))))⟩:Way) (ZaE Zip)
theorem ZB5:LoopOK e50 65 ZAC (Za8 e50.P 50 3) :=
 Zcs (L:=ZaP []) (rounds:=20) (depth:=6) (ts:=[1,2,3,6,8,9]) (v:=(Zaa (Zao .kid) (Zaa (Zao .int) (Zaa (Zat celConfig) (Zaa (Zat ZbR) (Zaa (ZaQ 63 .sentry) (Zac (Zae .i64)))))))) (a:=⟨.exit 0,[2,3,6,8],(Zaa (Zao .int) (Zaa (Zat celConfig) (Zaa (Zat ZbR) (Zac (ZaQ 63 .sentry)))))⟩) (step:=Zip) g50 rfl Za3 (fun x=>by kernel_rfl)
def s50v (f:Config×(List Kid)×(List Int)->Option (Wld×Bool)):Spec:=Zap (Zaa (Zar celConfig) (Zaa (Zao .kid) (Zac (Zao .int)))) (Zb1 (Zaa (Zar ZbR) (Zac (ZaJ)))) f
def s50:Spec:=s50v Zdx
theorem ok50:Zan Tryz.prog 50 s50 :=
 Zaj (V:=e50) (L:=(ZaP [(3,ZAC)])) (rounds:=20) (depth:=6) g50 (Zbm (nt:=65) (by kernel_rfl) (Zb9 (by kernel_rfl)) (ZaI ZB5 ZaZ)) (fun x=>by kernel_rfl)
def e15v (f:Config×(List Kid)×(List Int)->Option (Wld×Bool)):Env:=env1 [(31,s31),(50,s50v f)]
def e15:Env:=e15v Zdx
theorem g15:Zai e15:=Zal mix1 ent1 (Zab ok31 rfl (Zab ok50 rfl Zah))
def l15v (w:Int->Option ((Unit)⊕(Bool))):LSpec:=ZeV [1] (Zac (Zae .i64)) (⟨.exit 0,[],valsNil⟩:Way) (⟨.ret,[0],(Zac (ZaJ))⟩:Way) w
def ZAZ:LSpec:=l15v ZfH
theorem ZBO (f:Config×(List Kid)×(List Int)->Option (Wld×Bool)) (x:Int):evK (e15v f) (ZaP []) (inlK (e15v f) 20 6) 1 48 20 (Za8 (e15v f).P 15 2) (build (([1]:List Nat).zip (Zac (Zae .i64)).kds) ((Zac (Zae .i64)).enc x))
   (Zdm (([1]:List Nat).zip (Zac (Zae .i64)).kds) (fun e=>bif e.same (⟨.exit 0,[],valsNil⟩:Way).e then (⟨.exit 0,[],valsNil⟩:Way).ts.zip (⟨.exit 0,[],valsNil⟩:Way).v.kds else (⟨.ret,[0],(Zac (ZaJ))⟩:Way).ts.zip (⟨.ret,[0],(Zac (ZaJ))⟩:Way).v.kds) (Zac (Zae .i64)).dec (dex2 (⟨.exit 0,[],valsNil⟩:Way) (⟨.ret,[0],(Zac (ZaJ))⟩:Way)))=ZfG f x:=by kernel_rfl
theorem ZBe:LoopOK e15 48 ZAZ (Za8 e15.P 15 2) :=
 Zc4 (L:=ZaP []) (rounds:=20) (depth:=6) (ts:=[1]) (v:=(Zac (Zae .i64))) (a:=⟨.exit 0,[],valsNil⟩) (b:=⟨.ret,[0],(Zac (ZaJ))⟩) (step:=ZcN) g15 rfl rfl Za3 (fun x=>ZBO Zdx x)
def s15v (f:Unit->Option Bool):Spec:=Zap valsNil (Zas (ZaJ)) f
def s15:Spec:=s15v Zd8
theorem ZC8 (f:Config×(List Kid)×(List Int)->Option (Wld×Bool)) (w:Int->Option ((Unit)⊕(Bool))) (x:Unit):ZiR (e15v f) (ZaP [(2,l15v w)]) 20 6 15 (Zas (ZaJ)).kds (valsNil.enc x) (Zas (ZaJ)).dec=Zi0 w:=by kernel_rfl
theorem ok15:Zan Tryz.prog 15 s15 :=
 Zaj (V:=e15) (L:=(ZaP [(2,ZAZ)])) (rounds:=20) (depth:=6) g15 (Zbm (nt:=48) (by kernel_rfl) (Zb9 (by kernel_rfl)) (ZaI ZBe ZaZ)) (fun x=>ZC8 Zdx ZfH x)
def e3v (f:Unit->Option Bool):Env:=env1 [(14,s14),(15,s15v f),(16,s16),(17,s17),(18,s18),(19,s19),(20,s20),(21,s21),(22,s22),(23,s23),(24,s24)]
def e3:Env:=e3v Zd8
theorem g3:Zai e3:=Zal mix1 ent1 (Zab ok14 rfl (Zab ok15 rfl (Zab ok16 rfl (Zab ok17 rfl (Zab ok18 rfl (Zab ok19 rfl (Zab ok20 rfl (Zab ok21 rfl (Zab ok22 rfl (Zab ok23 rfl (Zab ok24 rfl Zah)))))))))))
def ZvX:LSpec:=ZeV [3,7,8,13] (Zaa (Zat celConfig) (Zaa (Zat celConfig) (Zaa (Zat ZbR) (Zac (Zae .i64))))) (⟨.exit 4,[],valsNil⟩:Way) (⟨.ret,[6],(Zac (ZaJ))⟩:Way) (ZaE ZeY)
theorem ZBR:LoopOK e3 132 ZvX (Za8 e3.P 3 18) :=
 Zc4 (L:=ZaP []) (rounds:=20) (depth:=6) (ts:=[3,7,8,13]) (v:=(Zaa (Zat celConfig) (Zaa (Zat celConfig) (Zaa (Zat ZbR) (Zac (Zae .i64)))))) (a:=⟨.exit 4,[],valsNil⟩) (b:=⟨.ret,[6],(Zac (ZaJ))⟩) (step:=ZeY) g3 rfl rfl Za3 (fun x=>by kernel_rfl)
def Zta:LSpec:=ZeV [3,7,8,11,12] (Zaa (Zat celConfig) (Zaa (Zat celConfig) (Zaa (Zat ZbR) (Zaa (Zae .i64) (Zac (Zae .i64)))))) (⟨.exit 2,[3,7,8,11],(Zaa (Zat celConfig) (Zaa (Zat celConfig) (Zaa (Zat ZbR) (Zac (Zae .i64)))))⟩:Way) (⟨.ret,[6],(Zac (ZaJ))⟩:Way) (ZaE ZeU)
theorem ZvB:LoopOK e3 132 Zta (Za8 e3.P 3 13) :=
 Zc4 (L:=ZaP []) (rounds:=20) (depth:=6) (ts:=[3,7,8,11,12]) (v:=(Zaa (Zat celConfig) (Zaa (Zat celConfig) (Zaa (Zat ZbR) (Zaa (Zae .i64) (Zac (Zae .i64))))))) (a:=⟨.exit 2,[3,7,8,11],(Zaa (Zat celConfig) (Zaa (Zat celConfig) (Zaa (Zat ZbR) (Zac (Zae .i64)))))⟩) (b:=⟨.ret,[6],(Zac (ZaJ))⟩) (step:=ZeU) g3 rfl rfl Za3 (fun x=>by kernel_rfl)
def Zw7:LSpec:=ZeV [3,7,8,11] (Zaa (Zat celConfig) (Zaa (Zat celConfig) (Zaa (Zat ZbR) (Zac (Zae .i64))))) (⟨.exit 0,[3,7,8],(Zaa (Zat celConfig) (Zaa (Zat celConfig) (Zac (Zat ZbR))))⟩:Way) (⟨.ret,[6],(Zac (ZaJ))⟩:Way) (ZaE ZeX)
theorem ZA8:LoopOK e3 132 Zw7 (Za8 e3.P 3 10) :=
 Zc4 (L:=ZaP [(13,Zta)]) (rounds:=20) (depth:=6) (ts:=[3,7,8,11]) (v:=(Zaa (Zat celConfig) (Zaa (Zat celConfig) (Zaa (Zat ZbR) (Zac (Zae .i64)))))) (a:=⟨.exit 0,[3,7,8],(Zaa (Zat celConfig) (Zaa (Zat celConfig) (Zac (Zat ZbR))))⟩) (b:=⟨.ret,[6],(Zac (ZaJ))⟩) (step:=ZeX) g3 rfl rfl (ZpB (by kernel_rfl) (ZaI ZvB ZaZ)) (fun x=>by kernel_rfl)
def s3:Spec:=Zap (Zaa (Zar celConfig) (Zaa (Zao .sentry) (Zac (Zao .int)))) (Zas (ZaJ)) Zry
theorem key3 (f:Unit->Option Bool) (x:Config×(List SEntry)×(List Int)):ZiR (e3v f) (ZaP [(18,ZvX),(13,Zta),(10,Zw7)]) 20 6 3 (Zas (ZaJ)).kds ((Zaa (Zar celConfig) (Zaa (Zao .sentry) (Zac (Zao .int)))).enc x) (Zas (ZaJ)).dec=Zgo f x.1 x.2.1 x.2.2:=by kernel_rfl
theorem ok3:Zan Tryz.prog 3 s3 :=
 Zaj (V:=e3) (L:=(ZaP [(18,ZvX),(13,Zta),(10,Zw7)])) (rounds:=20) (depth:=6) g3 (Zbm (nt:=132) (by kernel_rfl) (Zb9 (by kernel_rfl)) (ZaI ZBR (ZaI ZvB (ZaI ZA8 ZaZ)))) (fun x=>key3 Zd8 x)
def e26x:Env:=ZAH [(24,s24),(61,s61),(85,s85),(86,s86),(87,s87),(100,s100)] [(77,x77)]
theorem g26x:Zai e26x:=Zus mix1 ent1 (Zab ok24 rfl (Zab ok61 rfl (Zab ok85 rfl (Zab ok86 rfl (Zab ok87 rfl (Zab ZAi rfl Zah)))))) rfl ZAP
def s26x:Spec:=Zap (Zaa (Zar ZbR) (Zac (Zar Zsh))) (Zb1 (Zaa (Zar ZbR) (Zac (Zae .i64)))) Zm2
theorem ZC0:Zan Tryz.prog 26 s26x :=
 Zaj (V:=e26x) (L:=nL) (rounds:=20) (depth:=6) g26x Zak (fun x=>by kernel_rfl)
def e4v (f:Unit->Option Bool):Env:=env1 [(14,s14),(15,s15v f),(16,s16),(25,s25),(26,s26x),(27,s27)]
def e4:Env:=e4v Zd8
theorem g4:Zai e4:=Zal mix1 ent1 (Zab ok14 rfl (Zab ok15 rfl (Zab ok16 rfl (Zab ok25 rfl (Zab ZC0 rfl (Zab ok27 rfl Zah))))))
def s4:Spec:=Zap (Zaa (Zar celConfig) (Zaa (Zao .sentry) (Zac (Zao .int)))) (Zas (ZaJ)) ZpK
end Go.Proofs.Mill
