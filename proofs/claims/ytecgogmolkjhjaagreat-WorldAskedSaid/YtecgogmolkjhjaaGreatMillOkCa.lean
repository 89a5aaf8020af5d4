/- The functions compute this. -/
import Derived.Test.YtecgogmolkjhjaaGreatMillPickA
import Derived.Test.YtecgogmolkjhjaaGreatMillRepeatA
import Derived.Test.YtecgogmolkjhjaaGreatMillOkB
import Derived.Test.YtecgogmolkjhjaaGreatMillSeat2
import Derived.Test.YtecgogmolkjhjaaGreatMillFCa
set_option linter.all false
set_option maxRecDepth 100000
noncomputable section
namespace Go.Proofs.Mill
def e50:Env:=env1 [(25,s25),(27,s27),(83,s83),(84,s84),(85,s85)]
theorem g50:Zaj e50:=Zan mix1 ent1 (Zab ok25 rfl (Zab ok27 rfl (Zab ok83 rfl (Zab ok84 rfl (Zab ok85 rfl Zag)))))
def s50:Spec:=Zar (Zaa (Zap celConfig) (Zac (Zau .int))) (Zbk (Zaa (Zap (Za8 (Zae celConfig (Zae ZaB (Zae (ZaJ 33 .thread) (Zae (Zao .i64) (Zae (Zao .i64) (Zae Zbj (Zae (ZaJ 74 .mark) (ZaJ 104 .event)))))))) Wld (fun y=>⟨y.1,y.2.1,y.2.2.1,y.2.2.2.1,y.2.2.2.2.1,y.2.2.2.2.2.1,y.2.2.2.2.2.2.1,y.2.2.2.2.2.2.2⟩) (fun x=>(x.c,(x.m,(x.t,(x.now,(x.steps,(x.tape,(x.log,x.hist)))))))) (fun _=>rfl))) (Zac (Zad .i64)))) Zlp
theorem ok50:Zaq Tryz.prog 50 s50 :=
 Zai (V:=e50) (L:=nL) (rounds:=20) (depth:=6) g50 Zam (fun x=>by kernel_rfl)
def e41:Env:=ZFa [(26,s26),(33,s33),(50,s50),(75,s75)] [(124,x124)]
theorem g41:Zaj e41:=ZuN mix1 ent1 (Zab ok26 rfl (Zab ok33 rfl (Zab ok50 rfl (Zab ok75 rfl Zag)))) rfl ZzR
def ZBu:LSpec:=ZbL [6,11,12,32,33,34] (Zaa (Zak ZaH) (Zaa (Zak (Za8 (Zae celConfig (Zae ZaB (Zae (ZaJ 33 .thread) (Zae (Zao .i64) (Zae (Zao .i64) (Zae Zbj (Zae (ZaJ 74 .mark) (ZaJ 104 .event)))))))) Wld (fun y=>⟨y.1,y.2.1,y.2.2.1,y.2.2.2.1,y.2.2.2.2.1,y.2.2.2.2.2.1,y.2.2.2.2.2.2.1,y.2.2.2.2.2.2.2⟩) (fun x=>(x.c,(x.m,(x.t,(x.now,(x.steps,(x.tape,(x.log,x.hist)))))))) (fun _=>rfl))) (Zaa (Zad .i64) (Zaa (Zau .sentry) (Zaa (Zad .i64) (Zac (Zad .i64))))))) (⟨.exit 0,[6,11,12],(Zaa (Zak ZaH) (Zaa (Zak (Za8 (Zae celConfig (Zae ZaB (Zae (ZaJ 33 .thread) (Zae (Zao .i64) (Zae (Zao .i64) (Zae Zbj (Zae (ZaJ 74 .mark) (ZaJ 104 .event)))))))) Wld (fun y=>⟨y.1,y.2.1,y.2.2.1,y.2.2.2.1,y.2.2.2.2.1,y.2.2.2.2.2.1,y.2.2.2.2.2.2.1,y.2.2.2.2.2.2.2⟩) (fun x=>(x.c,(x.m,(x.t,(x.now,(x.steps,(x.tape,(x.log,x.hist)))))))) (fun _=>rfl))) (Zac (Zad .i64))))⟩:Way) (Zav Zgo)
theorem ZDa:LoopOK e41 43 ZBu (ZaU e41.P 41 6) :=
 Zba (L:=Zay []) (rounds:=20) (depth:=6) (ts:=[6,11,12,32,33,34]) (v:=(Zaa (Zak ZaH) (Zaa (Zak (Za8 (Zae celConfig (Zae ZaB (Zae (ZaJ 33 .thread) (Zae (Zao .i64) (Zae (Zao .i64) (Zae Zbj (Zae (ZaJ 74 .mark) (ZaJ 104 .event)))))))) Wld (fun y=>⟨y.1,y.2.1,y.2.2.1,y.2.2.2.1,y.2.2.2.2.1,y.2.2.2.2.2.1,y.2.2.2.2.2.2.1,y.2.2.2.2.2.2.2⟩) (fun x=>(x.c,(x.m,(x.t,(x.now,(x.steps,(x.tape,(x.log,x.hist)))))))) (fun _=>rfl))) (Zaa (Zad .i64) (Zaa (Zau .sentry) (Zaa (Zad .i64) (Zac (Zad .i64)))))))) (a:=⟨.exit 0,[6,11,12],(Zaa (Zak ZaH) (Zaa (Zak (Za8 (Zae celConfig (Zae ZaB (Zae (ZaJ 33 .thread) (Zae (Zao .i64) (Zae (Zao .i64) (Zae Zbj (Zae (ZaJ 74 .mark) (ZaJ 104 .event)))))))) Wld (fun y=>⟨y.1,y.2.1,y.2.2.1,y.2.2.2.1,y.2.2.2.2.1,y.2.2.2.2.2.1,y.2.2.2.2.2.2.1,y.2.2.2.2.2.2.2⟩) (fun x=>(x.c,(x.m,(x.t,(x.now,(x.steps,(x.tape,(x.log,x.hist)))))))) (fun _=>rfl))) (Zac (Zad .i64))))⟩) (step:=Zgo) g41 rfl ZaC (fun x=>by kernel_rfl)
def s41:Spec:=Zar (Zaa (Zap celConfig) (Zaa (Zau .sentry) (Zac (Zau .int)))) (Zbk (Zaa (Zap ZaH) (Zaa (Zad .i64) (Zac (Zad .i64))))) ZiI
theorem ok41:Zaq Tryz.prog 41 s41 :=
 Zai (V:=e41) (L:=(Zay [(6,ZBu)])) (rounds:=20) (depth:=6) g41 (ZaV (nt:=43) (by kernel_rfl) (Zbd (by kernel_rfl)) (Zaw ZDa ZaE)) (fun x=>by kernel_rfl)
def s52:Spec:=Zar (Zaa (Zap ZaH) (Zac (Zap Zlb))) (Zbk (Zaa (Zap ZaH) (Zac (Zad .i64)))) Zvs
end Go.Proofs.Mill
