/- The functions compute this. -/
import Derived.Test.YtecgogmolkjhjaaGreatMillPickA
import Derived.Test.YtecgogmolkjhjaaGreatMillRepeatA
import Derived.Test.YtecgogmolkjhjaaGreatMillOkB
import Derived.Test.YtecgogmolkjhjaaGreatMillSeat2
import Derived.Test.YtecgogmolkjhjaaGreatMillFCa
set_option linter.all false
set_option maxRecDepth 100000
noncomputable section
namespace Go.Proofs.Mill
def e50:Env:=env1 [(25,s25),(27,s27),(83,s83),(84,s84),(85,s85)]
theorem g50:Zai e50:=Zan mix1 ent1 (Zab ok25 rfl (Zab ok27 rfl (Zab ok83 rfl (Zab ok84 rfl (Zab ok85 rfl Zag)))))
def s50:Spec:=Zar (Zaa (Zap celConfig) (Zac (Zau .int))) (Zbl (Zaa (Zap (Za8 (Zae celConfig (Zae ZaD (Zae (ZaK 33 .thread) (Zae (Zao .i64) (Zae (Zao .i64) (Zae Zbk (Zae (ZaK 74 .mark) (ZaK 104 .event)))))))) Wld (fun y=>⟨y.1,y.2.1,y.2.2.1,y.2.2.2.1,y.2.2.2.2.1,y.2.2.2.2.2.1,y.2.2.2.2.2.2.1,y.2.2.2.2.2.2.2⟩) (fun x=>(x.c,(x.m,(x.t,(x.now,(x.steps,(x.tape,(x.log,x.hist)))))))) (fun _=>rfl))) (Zac (Zad .i64)))) Zmb
theorem ok50:Zaq Tryz.prog 50 s50 :=
 Zaj (V:=e50) (L:=nL) (rounds:=20) (depth:=6) g50 Zal (fun x=>by kernel_rfl)
def e41:Env:=ZCM [(26,s26),(33,s33),(50,s50),(75,s75)] [(124,x124)]
theorem g41:Zai e41:=ZpT mix1 ent1 (Zab ok26 rfl (Zab ok33 rfl (Zab ok50 rfl (Zab ok75 rfl Zag)))) rfl Zv3
def ZCj:LSpec:=ZbO [6,11,12,32,33,34] (Zaa (Zak ZaB) (Zaa (Zak (Za8 (Zae celConfig (Zae ZaD (Zae (ZaK 33 .thread) (Zae (Zao .i64) (Zae (Zao .i64) (Zae Zbk (Zae (ZaK 74 .mark) (ZaK 104 .event)))))))) Wld (fun y=>⟨y.1,y.2.1,y.2.2.1,y.2.2.2.1,y.2.2.2.2.1,y.2.2.2.2.2.1,y.2.2.2.2.2.2.1,y.2.2.2.2.2.2.2⟩) (fun x=>(x.c,(x.m,(x.t,(x.now,(x.steps,(x.tape,(x.log,x.hist)))))))) (fun _=>rfl))) (Zaa (Zad .i64) (Zaa (Zau .sentry) (Zaa (Zad .i64) (Zac (Zad .i64))))))) (⟨.exit 0,[6,11,12],(Zaa (Zak ZaB) (Zaa (Zak (Za8 (Zae celConfig (Zae ZaD (Zae (ZaK 33 .thread) (Zae (Zao .i64) (Zae (Zao .i64) (Zae Zbk (Zae (ZaK 74 .mark) (ZaK 104 .event)))))))) Wld (fun y=>⟨y.1,y.2.1,y.2.2.1,y.2.2.2.1,y.2.2.2.2.1,y.2.2.2.2.2.1,y.2.2.2.2.2.2.1,y.2.2.2.2.2.2.2⟩) (fun x=>(x.c,(x.m,(x.t,(x.now,(x.steps,(x.tape,(x.log,x.hist)))))))) (fun _=>rfl))) (Zac (Zad .i64))))⟩:Way) (Zav ZgV)
theorem ZDn:LoopOK e41 43 ZCj (ZaT e41.P 41 6) :=
 Zba (L:=ZaA []) (rounds:=20) (depth:=6) (ts:=[6,11,12,32,33,34]) (v:=(Zaa (Zak ZaB) (Zaa (Zak (Za8 (Zae celConfig (Zae ZaD (Zae (ZaK 33 .thread) (Zae (Zao .i64) (Zae (Zao .i64) (Zae Zbk (Zae (ZaK 74 .mark) (ZaK 104 .event)))))))) Wld (fun y=>⟨y.1,y.2.1,y.2.2.1,y.2.2.2.1,y.2.2.2.2.1,y.2.2.2.2.2.1,y.2.2.2.2.2.2.1,y.2.2.2.2.2.2.2⟩) (fun x=>(x.c,(x.m,(x.t,(x.now,(x.steps,(x.tape,(x.log,x.hist)))))))) (fun _=>rfl))) (Zaa (Zad .i64) (Zaa (Zau .sentry) (Zaa (Zad .i64) (Zac (Zad .i64)))))))) (a:=⟨.exit 0,[6,11,12],(Zaa (Zak ZaB) (Zaa (Zak (Za8 (Zae celConfig (Zae ZaD (Zae (ZaK 33 .thread) (Zae (Zao .i64) (Zae (Zao .i64) (Zae Zbk (Zae (ZaK 74 .mark) (ZaK 104 .event)))))))) Wld (fun y=>⟨y.1,y.2.1,y.2.2.1,y.2.2.2.1,y.2.2.2.2.1,y.2.2.2.2.2.1,y.2.2.2.2.2.2.1,y.2.2.2.2.2.2.2⟩) (fun x=>(x.c,(x.m,(x.t,(x.now,(x.steps,(x.tape,(x.log,x.hist)))))))) (fun _=>rfl))) (Zac (Zad .i64))))⟩) (step:=ZgV) g41 rfl ZaC (fun x=>by kernel_rfl)
def s41:Spec:=Zar (Zaa (Zap celConfig) (Zaa (Zau .sentry) (Zac (Zau .int)))) (Zbl (Zaa (Zap ZaB) (Zaa (Zad .i64) (Zac (Zad .i64))))) ZgN
theorem ok41:Zaq Tryz.prog 41 s41 :=
 Zaj (V:=e41) (L:=(ZaA [(6,ZCj)])) (rounds:=20) (depth:=6) g41 (ZaV (nt:=43) (by kernel_rfl) (Zbe (by kernel_rfl)) (Zax ZDn ZaG)) (fun x=>by kernel_rfl)
def e52:Env:=ZCM [(26,s26),(33,s33),(88,s88),(131,s131),(132,s132),(133,s133)] [(124,x124)]
theorem g52:Zai e52:=ZpT mix1 ent1 (Zab ok26 rfl (Zab ok33 rfl (Zab ok88 rfl (Zab ZEY rfl (Zab ZEP rfl (Zab ZFw rfl Zag)))))) rfl Zv3
def s52:Spec:=Zar (Zaa (Zap ZaB) (Zac (Zap ZlV))) (Zbl (Zaa (Zap ZaB) (Zac (Zad .i64)))) Zlm
theorem ok52:Zaq Tryz.prog 52 s52 :=
 Zaj (V:=e52) (L:=nL) (rounds:=20) (depth:=6) g52 Zal (fun x=>by kernel_rfl)
end Go.Proofs.Mill
