/- The functions compute this. -/
import Derived.Test.YtecgogmolkjhjaaGreatMillTape2
import Derived.Test.YtecgogmolkjhjaaGreatMillShare
import Derived.Test.YtecgogmolkjhjaaGreatMillSeat2
import Derived.Test.YtecgogmolkjhjaaGreatMillFB
set_option linter.all false
set_option maxRecDepth 100000
noncomputable section
namespace Go.Proofs.Mill
def e102:Env:=env1 [(141,s141),(145,s145)]
theorem g102:Zai e102:=Zan mix1 ent1 (Zab ZDD rfl (Zab ZGu rfl Zag))
def ZAu:LSpec:=ZbX [1,2,4,5,6,25,26,27] (Zaa (Zad .i64) (Zaa (Zak Zau) (Zaa (Zak Zau) (Zaa (Zu7 2 16) (Zaa (ZaJ 74 .mark) (Zaa (Zaw .int) (Zaa (Zad .i64) (Zac (Zad .i64))))))))) (⟨.exit 0,[1,2,4,5,6],(Zaa (Zad .i64) (Zaa (Zak Zau) (Zaa (Zak Zau) (Zaa (Zu7 2 16) (Zac (ZaJ 74 .mark))))))⟩:Way) (Zay Zd7)
theorem ZBW:LoopOK e102 64 ZAu (ZaX e102.P 102 4) :=
 Zbe (L:=ZaA []) (rounds:=20) (depth:=6) (ts:=[1,2,4,5,6,25,26,27]) (v:=(Zaa (Zad .i64) (Zaa (Zak Zau) (Zaa (Zak Zau) (Zaa (Zu7 2 16) (Zaa (ZaJ 74 .mark) (Zaa (Zaw .int) (Zaa (Zad .i64) (Zac (Zad .i64)))))))))) (a:=⟨.exit 0,[1,2,4,5,6],(Zaa (Zad .i64) (Zaa (Zak Zau) (Zaa (Zak Zau) (Zaa (Zu7 2 16) (Zac (ZaJ 74 .mark))))))⟩) (step:=Zd7) g102 rfl ZaE (fun x=>by kernel_rfl)
def s102:Spec:=Zar (Zaa (Zap Zau) (Zac (Zad .i64))) (Zav (Zap Zau)) ZdO
theorem ZCR:Zaq Tryz.prog 102 s102 :=
 Zaj (V:=e102) (L:=(ZaA [(4,ZAu)])) (rounds:=20) (depth:=6) g102 (ZaY (nt:=64) (by kernel_rfl) (Zbg (by kernel_rfl)) (Zaz ZBW ZaG)) (fun x=>by kernel_rfl)
def e104:Env:=env1 [(72,s72),(102,s102),(109,s109)]
theorem g104:Zai e104:=Zan mix1 ent1 (Zab ok72 rfl (Zab ZCR rfl (Zab Zu4 rfl Zag)))
def s104:Spec:=Zar (Zac (Zap Zau)) (Zav (Zap Zau)) Zhi
theorem ZFv:Zaq Tryz.prog 104 s104 :=
 Zaj (V:=e104) (L:=nL) (rounds:=20) (depth:=6) g104 Zal (fun x=>by kernel_rfl)
def e65:Env:=env1 [(72,s72),(102,s102),(103,s103),(104,s104),(110,s110),(143,s143)]
theorem g65:Zai e65:=Zan mix1 ent1 (Zab ok72 rfl (Zab ZCR rfl (Zab ZC1 rfl (Zab ZFv rfl (Zab ZsB rfl (Zab ZDm rfl Zag))))))
def s65:Spec:=Zar (Zac (Zap Zau)) (Zbp (Zaa (Zap Zau) (Zac (ZaF)))) Zk7
theorem ok65:Zaq Tryz.prog 65 s65 :=
 Zaj (V:=e65) (L:=nL) (rounds:=20) (depth:=6) g65 Zal (fun x=>by kernel_rfl)
def e193:Env:=env1 [(231,s231)]
theorem g193:Zai e193:=Zan mix1 ent1 (Zab ok231 rfl Zag)
def s193:Spec:=Zar (Zaa (Zap Zbo) (Zac (Zad .i64))) (Zbp (Zaa (Zad .i64) (Zac (Zap Zbo)))) ZlP
theorem ZFt:Zaq Tryz.prog 193 s193 :=
 Zaj (V:=e193) (L:=nL) (rounds:=20) (depth:=6) g193 Zal (fun x=>by kernel_rfl)
def e68:Env:=env1 [(95,s95),(103,s103),(109,s109),(110,s110),(115,s115),(117,s117),(146,s146),(188,s188),(190,s190),(191,s191),(193,s193),(194,s194),(195,s195)]
theorem g68:Zai e68:=Zan mix1 ent1 (Zab ok95 rfl (Zab ZC1 rfl (Zab Zu4 rfl (Zab ZsB rfl (Zab ZFy rfl (Zab ZGn rfl (Zab Zyj rfl (Zab ZDl rfl (Zab ZC7 rfl (Zab ZDw rfl (Zab ZFt rfl (Zab ZGy rfl (Zab ZFL rfl Zag)))))))))))))
def s68:Spec:=Zar (Zac (Zap Zau)) (Zbp (Zaa (Zap Zau) (Zac (ZaF)))) Zj9
theorem ok68:Zaq Tryz.prog 68 s68 :=
 Zaj (V:=e68) (L:=nL) (rounds:=20) (depth:=6) g68 Zal (fun x=>by kernel_rfl)
def e21:Env:=env1 [(33,s33),(63,s63),(64,s64),(65,s65),(66,s66),(67,s67),(68,s68)]
theorem g21:Zai e21:=Zan mix1 ent1 (Zab ok33 rfl (Zab ok63 rfl (Zab ok64 rfl (Zab ok65 rfl (Zab ok66 rfl (Zab ok67 rfl (Zab ok68 rfl Zag)))))))
def s21:Spec:=Zar (Zac (Zap Zau)) (Zav (Zap Zau)) ZcI
theorem ok21:Zaq Tryz.prog 21 s21 :=
 Zaj (V:=e21) (L:=nL) (rounds:=20) (depth:=6) g21 Zal (fun x=>by kernel_rfl)
def e22:Env:=env1 [(21,s21),(33,s33)]
theorem g22:Zai e22:=Zan mix1 ent1 (Zab ok21 rfl (Zab ok33 rfl Zag))
def ZCS:LSpec:=ZbX [1,2,4] (Zaa (Zad .i64) (Zaa (Zak Zau) (Zac (Zak Zau)))) (⟨.exit 0,[2,4],(Zaa (Zak Zau) (Zac (Zak Zau)))⟩:Way) (Zay Zif)
theorem ZEG:LoopOK e22 19 ZCS (ZaX e22.P 22 1) :=
 Zbe (L:=ZaA []) (rounds:=20) (depth:=6) (ts:=[1,2,4]) (v:=(Zaa (Zad .i64) (Zaa (Zak Zau) (Zac (Zak Zau))))) (a:=⟨.exit 0,[2,4],(Zaa (Zak Zau) (Zac (Zak Zau)))⟩) (step:=Zif) g22 rfl ZaE (fun x=>by kernel_rfl)
def s22:Spec:=Zar (Zaa (Zap Zau) (Zac (Zad .i64))) (Zav (Zap Zau)) Zc5
theorem ok22:Zaq Tryz.prog 22 s22 :=
 Zaj (V:=e22) (L:=(ZaA [(1,ZCS)])) (rounds:=20) (depth:=6) g22 (ZaY (nt:=19) (by kernel_rfl) (Zbg (by kernel_rfl)) (Zaz ZEG ZaG)) (fun x=>by kernel_rfl)
def e18:Env:=env1 [(21,s21),(22,s22),(25,s25),(26,s26),(27,s27),(33,s33),(55,s55)]
theorem g18:Zai e18:=Zan mix1 ent1 (Zab ok21 rfl (Zab ok22 rfl (Zab ok25 rfl (Zab ok26 rfl (Zab ok27 rfl (Zab ok33 rfl (Zab ok55 rfl Zag)))))))
def s18:Spec:=Zar Zby (Zav (ZaF)) Zbt
theorem ok18:Zaq Tryz.prog 18 s18 :=
 Zaj (V:=e18) (L:=nL) (rounds:=20) (depth:=6) g18 Zal (fun x=>by kernel_rfl)
def e3:Env:=env1 [(16,s16),(17,s17),(18,s18),(19,s19),(20,s20),(21,s21),(22,s22)]
theorem g3:Zai e3:=Zan mix1 ent1 (Zab ok16 rfl (Zab ok17 rfl (Zab ok18 rfl (Zab ok19 rfl (Zab ok20 rfl (Zab ok21 rfl (Zab ok22 rfl Zag)))))))
def s3:Spec:=Zar (Zaa (Zap Zau) (Zac (Zad .i64))) (Zav (ZaF)) ZpV
def e4:Env:=env1 [(18,s18),(22,s22),(23,s23),(24,s24),(25,s25),(26,s26),(27,s27)]
theorem g4:Zai e4:=Zan mix1 ent1 (Zab ok18 rfl (Zab ok22 rfl (Zab ok23 rfl (Zab ok24 rfl (Zab ok25 rfl (Zab ok26 rfl (Zab ok27 rfl Zag)))))))
def s4:Spec:=Zar (Zaa (Zap celConfig) (Zaa (Zad .u8) (Zaa (Zad .u8) (Zac (Zap Zef))))) (Zav (ZaF)) ZpW
def e5:Env:=env1 [(16,s16),(18,s18),(21,s21),(28,s28)]
theorem g5:Zai e5:=Zan mix1 ent1 (Zab ok16 rfl (Zab ok18 rfl (Zab ok21 rfl (Zab ok28 rfl Zag))))
def s5:Spec:=Zar (Zac (Zap Zau)) (Zav (ZaF)) ZpQ
def e6:Env:=env1 [(16,s16),(18,s18),(21,s21),(28,s28),(29,s29),(30,s30)]
theorem g6:Zai e6:=Zan mix1 ent1 (Zab ok16 rfl (Zab ok18 rfl (Zab ok21 rfl (Zab ok28 rfl (Zab ok29 rfl (Zab ok30 rfl Zag))))))
def e7:Env:=env1 [(18,s18),(22,s22),(23,s23),(24,s24),(25,s25),(26,s26),(27,s27),(31,s31),(32,s32),(33,s33),(34,s34),(35,s35),(36,s36),(37,s37),(38,s38)]
theorem g7:Zai e7:=Zan mix1 ent1 (Zab ok18 rfl (Zab ok22 rfl (Zab ok23 rfl (Zab ok24 rfl (Zab ok25 rfl (Zab ok26 rfl (Zab ok27 rfl (Zab ok31 rfl (Zab ok32 rfl (Zab ok33 rfl (Zab ok34 rfl (Zab ok35 rfl (Zab ok36 rfl (Zab ok37 rfl (Zab ok38 rfl Zag)))))))))))))))
def s7:Spec:=Zar (Zaa (Zap celConfig) (Zaa (Zad .u8) (Zaa (Zad .u8) (Zaa (Zap Zef) (Zac (Zad .u8)))))) (Zav (ZaF)) Zo0
end Go.Proofs.Mill
