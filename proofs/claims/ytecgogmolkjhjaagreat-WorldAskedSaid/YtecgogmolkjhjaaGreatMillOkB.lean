/- The functions compute this. -/
import Derived.Test.YtecgogmolkjhjaaGreatMillTape2
import Derived.Test.YtecgogmolkjhjaaGreatMillShare
import Derived.Test.YtecgogmolkjhjaaGreatMillSeat2
import Derived.Test.YtecgogmolkjhjaaGreatMillFB
set_option linter.all false
set_option maxRecDepth 100000
noncomputable section
namespace Go.Proofs.Mill
def e102:Env:=env1 [(141,s141),(145,s145)]
theorem g102:Zaj e102:=Zan mix1 ent1 (Zab ZBY rfl (Zab ZEx rfl Zag))
def Zzp:LSpec:=ZbL [1,2,4,5,6,25,26,27] (Zaa (Zad .i64) (Zaa (Zak Zas) (Zaa (Zak Zas) (Zaa (ZtH 2 16) (Zaa (ZaM 74 .mark) (Zaa (Zau .int) (Zaa (Zad .i64) (Zac (Zad .i64))))))))) (⟨.exit 0,[1,2,4,5,6],(Zaa (Zad .i64) (Zaa (Zak Zas) (Zaa (Zak Zas) (Zaa (ZtH 2 16) (Zac (ZaM 74 .mark))))))⟩:Way) (Zav ZdK)
theorem ZA4:LoopOK e102 64 Zzp (ZaU e102.P 102 4) :=
 Zba (L:=Zay []) (rounds:=20) (depth:=6) (ts:=[1,2,4,5,6,25,26,27]) (v:=(Zaa (Zad .i64) (Zaa (Zak Zas) (Zaa (Zak Zas) (Zaa (ZtH 2 16) (Zaa (ZaM 74 .mark) (Zaa (Zau .int) (Zaa (Zad .i64) (Zac (Zad .i64)))))))))) (a:=⟨.exit 0,[1,2,4,5,6],(Zaa (Zad .i64) (Zaa (Zak Zas) (Zaa (Zak Zas) (Zaa (ZtH 2 16) (Zac (ZaM 74 .mark))))))⟩) (step:=ZdK) g102 rfl ZaC (fun x=>by kernel_rfl)
def s102:Spec:=Zar (Zaa (Zap Zas) (Zac (Zad .i64))) (Zat (Zap Zas)) Zdv
theorem ZB6:Zaq Tryz.prog 102 s102 :=
 Zai (V:=e102) (L:=(Zay [(4,Zzp)])) (rounds:=20) (depth:=6) g102 (ZaV (nt:=64) (by kernel_rfl) (Zbd (by kernel_rfl)) (Zaw ZA4 ZaE)) (fun x=>by kernel_rfl)
def e104:Env:=env1 [(72,s72),(102,s102),(109,s109)]
theorem g104:Zaj e104:=Zan mix1 ent1 (Zab ok72 rfl (Zab ZB6 rfl (Zab ZtO rfl Zag)))
def s104:Spec:=Zar (Zac (Zap Zas)) (Zat (Zap Zas)) Zf2
theorem ZEa:Zaq Tryz.prog 104 s104 :=
 Zai (V:=e104) (L:=nL) (rounds:=20) (depth:=6) g104 Zam (fun x=>by kernel_rfl)
def e65:Env:=env1 [(72,s72),(102,s102),(103,s103),(104,s104),(110,s110),(143,s143)]
theorem g65:Zaj e65:=Zan mix1 ent1 (Zab ok72 rfl (Zab ZB6 rfl (Zab ZCg rfl (Zab ZEa rfl (Zab ZqA rfl (Zab ZCq rfl Zag))))))
def s65:Spec:=Zar (Zac (Zap Zas)) (Zbk (Zaa (Zap Zas) (Zac (ZaA)))) Zi4
theorem ok65:Zaq Tryz.prog 65 s65 :=
 Zai (V:=e65) (L:=nL) (rounds:=20) (depth:=6) g65 Zam (fun x=>by kernel_rfl)
def e193:Env:=env1 [(231,s231)]
theorem g193:Zaj e193:=Zan mix1 ent1 (Zab ok231 rfl Zag)
def s193:Spec:=Zar (Zaa (Zap Zbj) (Zac (Zad .i64))) (Zbk (Zaa (Zad .i64) (Zac (Zap Zbj)))) Zkm
theorem ZEA:Zaq Tryz.prog 193 s193 :=
 Zai (V:=e193) (L:=nL) (rounds:=20) (depth:=6) g193 Zam (fun x=>by kernel_rfl)
def e68:Env:=env1 [(95,s95),(103,s103),(109,s109),(110,s110),(115,s115),(117,s117),(146,s146),(188,s188),(190,s190),(191,s191),(193,s193),(194,s194),(195,s195)]
theorem g68:Zaj e68:=Zan mix1 ent1 (Zab ok95 rfl (Zab ZCg rfl (Zab ZtO rfl (Zab ZqA rfl (Zab ZEC rfl (Zab ZFf rfl (Zab Zxw rfl (Zab ZCw rfl (Zab ZCl rfl (Zab ZCd rfl (Zab ZEA rfl (Zab ZEt rfl (Zab ZFs rfl Zag)))))))))))))
def s68:Spec:=Zar (Zac (Zap Zas)) (Zbk (Zaa (Zap Zas) (Zac (ZaA)))) Zh9
theorem ok68:Zaq Tryz.prog 68 s68 :=
 Zai (V:=e68) (L:=nL) (rounds:=20) (depth:=6) g68 Zam (fun x=>by kernel_rfl)
def e21:Env:=env1 [(33,s33),(63,s63),(64,s64),(65,s65),(66,s66),(67,s67),(68,s68)]
theorem g21:Zaj e21:=Zan mix1 ent1 (Zab ok33 rfl (Zab ok63 rfl (Zab ok64 rfl (Zab ok65 rfl (Zab ok66 rfl (Zab ok67 rfl (Zab ok68 rfl Zag)))))))
def s21:Spec:=Zar (Zac (Zap Zas)) (Zat (Zap Zas)) Zcw
theorem ok21:Zaq Tryz.prog 21 s21 :=
 Zai (V:=e21) (L:=nL) (rounds:=20) (depth:=6) g21 Zam (fun x=>by kernel_rfl)
def e22:Env:=env1 [(21,s21),(33,s33)]
theorem g22:Zaj e22:=Zan mix1 ent1 (Zab ok21 rfl (Zab ok33 rfl Zag))
def ZBP:LSpec:=ZbL [1,2,4] (Zaa (Zad .i64) (Zaa (Zak Zas) (Zac (Zak Zas)))) (⟨.exit 0,[2,4],(Zaa (Zak Zas) (Zac (Zak Zas)))⟩:Way) (Zav ZgG)
theorem ZDD:LoopOK e22 19 ZBP (ZaU e22.P 22 1) :=
 Zba (L:=Zay []) (rounds:=20) (depth:=6) (ts:=[1,2,4]) (v:=(Zaa (Zad .i64) (Zaa (Zak Zas) (Zac (Zak Zas))))) (a:=⟨.exit 0,[2,4],(Zaa (Zak Zas) (Zac (Zak Zas)))⟩) (step:=ZgG) g22 rfl ZaC (fun x=>by kernel_rfl)
def s22:Spec:=Zar (Zaa (Zap Zas) (Zac (Zad .i64))) (Zat (Zap Zas)) ZcO
theorem ok22:Zaq Tryz.prog 22 s22 :=
 Zai (V:=e22) (L:=(Zay [(1,ZBP)])) (rounds:=20) (depth:=6) g22 (ZaV (nt:=19) (by kernel_rfl) (Zbd (by kernel_rfl)) (Zaw ZDD ZaE)) (fun x=>by kernel_rfl)
def e18:Env:=env1 [(21,s21),(22,s22),(25,s25),(26,s26),(27,s27),(33,s33),(55,s55)]
theorem g18:Zaj e18:=Zan mix1 ent1 (Zab ok21 rfl (Zab ok22 rfl (Zab ok25 rfl (Zab ok26 rfl (Zab ok27 rfl (Zab ok33 rfl (Zab ok55 rfl Zag)))))))
def s18:Spec:=Zar Zbs (Zat (ZaA)) Zbl
theorem ok18:Zaq Tryz.prog 18 s18 :=
 Zai (V:=e18) (L:=nL) (rounds:=20) (depth:=6) g18 Zam (fun x=>by kernel_rfl)
def e3:Env:=env1 [(16,s16),(17,s17),(18,s18),(19,s19),(20,s20),(21,s21),(22,s22)]
theorem g3:Zaj e3:=Zan mix1 ent1 (Zab ok16 rfl (Zab ok17 rfl (Zab ok18 rfl (Zab ok19 rfl (Zab ok20 rfl (Zab ok21 rfl (Zab ok22 rfl Zag)))))))
def s3:Spec:=Zar (Zaa (Zap Zas) (Zac (Zad .i64))) (Zat (ZaA)) Zm6
def e4:Env:=env1 [(18,s18),(22,s22),(23,s23),(24,s24),(25,s25),(26,s26),(27,s27)]
theorem g4:Zaj e4:=Zan mix1 ent1 (Zab ok18 rfl (Zab ok22 rfl (Zab ok23 rfl (Zab ok24 rfl (Zab ok25 rfl (Zab ok26 rfl (Zab ok27 rfl Zag)))))))
def s4:Spec:=Zar (Zaa (Zap celConfig) (Zaa (Zad .u8) (Zaa (Zad .u8) (Zac (Zap ZdN))))) (Zat (ZaA)) Zna
def e5:Env:=env1 [(16,s16),(18,s18),(21,s21),(28,s28)]
theorem g5:Zaj e5:=Zan mix1 ent1 (Zab ok16 rfl (Zab ok18 rfl (Zab ok21 rfl (Zab ok28 rfl Zag))))
def s5:Spec:=Zar (Zac (Zap Zas)) (Zat (ZaA)) Zm9
def e6:Env:=env1 [(16,s16),(18,s18),(21,s21),(28,s28),(29,s29),(30,s30)]
theorem g6:Zaj e6:=Zan mix1 ent1 (Zab ok16 rfl (Zab ok18 rfl (Zab ok21 rfl (Zab ok28 rfl (Zab ok29 rfl (Zab ok30 rfl Zag))))))
def e7:Env:=env1 [(18,s18),(22,s22),(23,s23),(24,s24),(25,s25),(26,s26),(27,s27),(31,s31),(32,s32),(33,s33),(34,s34),(35,s35),(36,s36),(37,s37),(38,s38)]
theorem g7:Zaj e7:=Zan mix1 ent1 (Zab ok18 rfl (Zab ok22 rfl (Zab ok23 rfl (Zab ok24 rfl (Zab ok25 rfl (Zab ok26 rfl (Zab ok27 rfl (Zab ok31 rfl (Zab ok32 rfl (Zab ok33 rfl (Zab ok34 rfl (Zab ok35 rfl (Zab ok36 rfl (Zab ok37 rfl (Zab ok38 rfl Zag)))))))))))))))
def s7:Spec:=Zar (Zaa (Zap celConfig) (Zaa (Zad .u8) (Zaa (Zad .u8) (Zaa (Zap ZdN) (Zac (Zad .u8)))))) (Zat (ZaA)) ZmB
end Go.Proofs.Mill
