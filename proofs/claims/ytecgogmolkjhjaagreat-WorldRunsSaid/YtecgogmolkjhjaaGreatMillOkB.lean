/- The functions compute this. -/
import Derived.Test.YtecgogmolkjhjaaGreatMillTape2
import Derived.Test.YtecgogmolkjhjaaGreatMillShare
import Derived.Test.YtecgogmolkjhjaaGreatMillSeat2
import Derived.Test.YtecgogmolkjhjaaGreatMillFB
set_option linter.all false
set_option maxRecDepth 100000
noncomputable section
namespace Go.Proofs.Mill
def e102:Env:=env1 [(141,s141),(145,s145)]
theorem g102:Zaj e102:=Zan mix1 ent1 (Zab ZCP rfl (Zab ZF6 rfl Zag))
def ZA8:LSpec:=ZbY [1,2,4,5,6,25,26,27] (Zaa (Zad .i64) (Zaa (Zak Zau) (Zaa (Zak Zau) (Zaa (Zvr 2 16) (Zaa (ZaN 74 .mark) (Zaa (Zax .int) (Zaa (Zad .i64) (Zac (Zad .i64))))))))) (⟨.exit 0,[1,2,4,5,6],(Zaa (Zad .i64) (Zaa (Zak Zau) (Zaa (Zak Zau) (Zaa (Zvr 2 16) (Zac (ZaN 74 .mark))))))⟩:Way) (Zay Zd2)
theorem ZBJ:LoopOK e102 64 ZA8 (ZaW e102.P 102 4) :=
 Zbe (L:=ZaB []) (rounds:=20) (depth:=6) (ts:=[1,2,4,5,6,25,26,27]) (v:=(Zaa (Zad .i64) (Zaa (Zak Zau) (Zaa (Zak Zau) (Zaa (Zvr 2 16) (Zaa (ZaN 74 .mark) (Zaa (Zax .int) (Zaa (Zad .i64) (Zac (Zad .i64)))))))))) (a:=⟨.exit 0,[1,2,4,5,6],(Zaa (Zad .i64) (Zaa (Zak Zau) (Zaa (Zak Zau) (Zaa (Zvr 2 16) (Zac (ZaN 74 .mark))))))⟩) (step:=Zd2) g102 rfl ZaE (fun x=>by kernel_rfl)
def s102:Spec:=Zas (Zaa (Zaq Zau) (Zac (Zad .i64))) (Zav (Zaq Zau)) ZdS
theorem ZDP:Zar Tryz.prog 102 s102 :=
 Zai (V:=e102) (L:=(ZaB [(4,ZA8)])) (rounds:=20) (depth:=6) g102 (ZaZ (nt:=64) (by kernel_rfl) (Zbh (by kernel_rfl)) (Zaz ZBJ ZaH)) (fun x=>by kernel_rfl)
def e104:Env:=env1 [(72,s72),(102,s102),(109,s109)]
theorem g104:Zaj e104:=Zan mix1 ent1 (Zab ok72 rfl (Zab ZDP rfl (Zab Zvn rfl Zag)))
def s104:Spec:=Zas (Zac (Zaq Zau)) (Zav (Zaq Zau)) Zho
theorem ZFH:Zar Tryz.prog 104 s104 :=
 Zai (V:=e104) (L:=nL) (rounds:=20) (depth:=6) g104 Zam (fun x=>by kernel_rfl)
def e65:Env:=env1 [(72,s72),(102,s102),(103,s103),(104,s104),(110,s110),(143,s143)]
theorem g65:Zaj e65:=Zan mix1 ent1 (Zab ok72 rfl (Zab ZDP rfl (Zab ZDw rfl (Zab ZFH rfl (Zab ZtC rfl (Zab ZDu rfl Zag))))))
def s65:Spec:=Zas (Zac (Zaq Zau)) (Zbp (Zaa (Zaq Zau) (Zac (ZaF)))) Zlv
theorem ok65:Zar Tryz.prog 65 s65 :=
 Zai (V:=e65) (L:=nL) (rounds:=20) (depth:=6) g65 Zam (fun x=>by kernel_rfl)
def e193:Env:=env1 [(231,s231)]
theorem g193:Zaj e193:=Zan mix1 ent1 (Zab ok231 rfl Zag)
def s193:Spec:=Zas (Zaa (Zaq Zbo) (Zac (Zad .i64))) (Zbp (Zaa (Zad .i64) (Zac (Zaq Zbo)))) ZmC
theorem ZGQ:Zar Tryz.prog 193 s193 :=
 Zai (V:=e193) (L:=nL) (rounds:=20) (depth:=6) g193 Zam (fun x=>by kernel_rfl)
def e68:Env:=env1 [(95,s95),(103,s103),(109,s109),(110,s110),(115,s115),(117,s117),(146,s146),(188,s188),(190,s190),(191,s191),(193,s193),(194,s194),(195,s195)]
theorem g68:Zaj e68:=Zan mix1 ent1 (Zab ok95 rfl (Zab ZDw rfl (Zab Zvn rfl (Zab ZtC rfl (Zab ZFr rfl (Zab ZFw rfl (Zab ZyS rfl (Zab ZC9 rfl (Zab ZDN rfl (Zab ZDj rfl (Zab ZGQ rfl (Zab ZGn rfl (Zab ZGd rfl Zag)))))))))))))
def s68:Spec:=Zas (Zac (Zaq Zau)) (Zbp (Zaa (Zaq Zau) (Zac (ZaF)))) Zjx
theorem ok68:Zar Tryz.prog 68 s68 :=
 Zai (V:=e68) (L:=nL) (rounds:=20) (depth:=6) g68 Zam (fun x=>by kernel_rfl)
def e21:Env:=env1 [(33,s33),(63,s63),(64,s64),(65,s65),(66,s66),(67,s67),(68,s68)]
theorem g21:Zaj e21:=Zan mix1 ent1 (Zab ok33 rfl (Zab ok63 rfl (Zab ok64 rfl (Zab ok65 rfl (Zab ok66 rfl (Zab ok67 rfl (Zab ok68 rfl Zag)))))))
def s21:Spec:=Zas (Zac (Zaq Zau)) (Zav (Zaq Zau)) ZcL
theorem ok21:Zar Tryz.prog 21 s21 :=
 Zai (V:=e21) (L:=nL) (rounds:=20) (depth:=6) g21 Zam (fun x=>by kernel_rfl)
def e22:Env:=env1 [(21,s21),(33,s33)]
theorem g22:Zaj e22:=Zan mix1 ent1 (Zab ok21 rfl (Zab ok33 rfl Zag))
def ZCX:LSpec:=ZbY [1,2,4] (Zaa (Zad .i64) (Zaa (Zak Zau) (Zac (Zak Zau)))) (⟨.exit 0,[2,4],(Zaa (Zak Zau) (Zac (Zak Zau)))⟩:Way) (Zay Zil)
theorem ZEL:LoopOK e22 19 ZCX (ZaW e22.P 22 1) :=
 Zbe (L:=ZaB []) (rounds:=20) (depth:=6) (ts:=[1,2,4]) (v:=(Zaa (Zad .i64) (Zaa (Zak Zau) (Zac (Zak Zau))))) (a:=⟨.exit 0,[2,4],(Zaa (Zak Zau) (Zac (Zak Zau)))⟩) (step:=Zil) g22 rfl ZaE (fun x=>by kernel_rfl)
def s22:Spec:=Zas (Zaa (Zaq Zau) (Zac (Zad .i64))) (Zav (Zaq Zau)) ZcZ
theorem ok22:Zar Tryz.prog 22 s22 :=
 Zai (V:=e22) (L:=(ZaB [(1,ZCX)])) (rounds:=20) (depth:=6) g22 (ZaZ (nt:=19) (by kernel_rfl) (Zbh (by kernel_rfl)) (Zaz ZEL ZaH)) (fun x=>by kernel_rfl)
def e18:Env:=env1 [(21,s21),(22,s22),(25,s25),(26,s26),(27,s27),(33,s33),(55,s55)]
theorem g18:Zaj e18:=Zan mix1 ent1 (Zab ok21 rfl (Zab ok22 rfl (Zab ok25 rfl (Zab ok26 rfl (Zab ok27 rfl (Zab ok33 rfl (Zab ok55 rfl Zag)))))))
def s18:Spec:=Zas ZbG (Zav (ZaF)) Zbt
theorem ok18:Zar Tryz.prog 18 s18 :=
 Zai (V:=e18) (L:=nL) (rounds:=20) (depth:=6) g18 Zam (fun x=>by kernel_rfl)
def e3:Env:=env1 [(16,s16),(17,s17),(18,s18),(19,s19),(20,s20),(21,s21),(22,s22)]
theorem g3:Zaj e3:=Zan mix1 ent1 (Zab ok16 rfl (Zab ok17 rfl (Zab ok18 rfl (Zab ok19 rfl (Zab ok20 rfl (Zab ok21 rfl (Zab ok22 rfl Zag)))))))
def s3:Spec:=Zas (Zaa (Zaq Zau) (Zac (Zad .i64))) (Zav (ZaF)) Zqf
def e4:Env:=env1 [(18,s18),(22,s22),(23,s23),(24,s24),(25,s25),(26,s26),(27,s27)]
theorem g4:Zaj e4:=Zan mix1 ent1 (Zab ok18 rfl (Zab ok22 rfl (Zab ok23 rfl (Zab ok24 rfl (Zab ok25 rfl (Zab ok26 rfl (Zab ok27 rfl Zag)))))))
def s4:Spec:=Zas (Zaa (Zaq celConfig) (Zaa (Zad .u8) (Zaa (Zad .u8) (Zac (Zaq Zea))))) (Zav (ZaF)) Zqd
def e5:Env:=env1 [(16,s16),(18,s18),(21,s21),(28,s28)]
theorem g5:Zaj e5:=Zan mix1 ent1 (Zab ok16 rfl (Zab ok18 rfl (Zab ok21 rfl (Zab ok28 rfl Zag))))
def s5:Spec:=Zas (Zac (Zaq Zau)) (Zav (ZaF)) Zqi
def e6:Env:=env1 [(16,s16),(18,s18),(21,s21),(28,s28),(29,s29),(30,s30)]
theorem g6:Zaj e6:=Zan mix1 ent1 (Zab ok16 rfl (Zab ok18 rfl (Zab ok21 rfl (Zab ok28 rfl (Zab ok29 rfl (Zab ok30 rfl Zag))))))
def e7:Env:=env1 [(18,s18),(22,s22),(23,s23),(24,s24),(25,s25),(26,s26),(27,s27),(31,s31),(32,s32),(33,s33),(34,s34),(35,s35),(36,s36),(37,s37),(38,s38)]
theorem g7:Zaj e7:=Zan mix1 ent1 (Zab ok18 rfl (Zab ok22 rfl (Zab ok23 rfl (Zab ok24 rfl (Zab ok25 rfl (Zab ok26 rfl (Zab ok27 rfl (Zab ok31 rfl (Zab ok32 rfl (Zab ok33 rfl (Zab ok34 rfl (Zab ok35 rfl (Zab ok36 rfl (Zab ok37 rfl (Zab ok38 rfl Zag)))))))))))))))
def s7:Spec:=Zas (Zaa (Zaq celConfig) (Zaa (Zad .u8) (Zaa (Zad .u8) (Zaa (Zaq Zea) (Zac (Zad .u8)))))) (Zav (ZaF)) Zpw
end Go.Proofs.Mill
