/- The functions compute this. -/
import Derived.Test.YtecgogmolkjhjaaGreatMillPickA
import Derived.Test.YtecgogmolkjhjaaGreatMillRepeatA
import Derived.Test.YtecgogmolkjhjaaGreatMillOkB
import Derived.Test.YtecgogmolkjhjaaGreatMillSeat2
import Derived.Test.YtecgogmolkjhjaaGreatMillFCa
set_option linter.all false
set_option maxRecDepth 100000
noncomputable section
namespace Go.Proofs.Mill
def e50:Env:=env1 [(25,s25),(27,s27),(83,s83),(84,s84),(85,s85)]
theorem g50:Zai e50:=Zan mix1 ent1 (Zab ok25 rfl (Zab ok27 rfl (Zab ok83 rfl (Zab ok84 rfl (Zab ok85 rfl Zag)))))
def s50:Spec:=Zar (Zaa (Zap celConfig) (Zac (Zaw .int))) (Zbp (Zaa (Zap (Zbc (Zae celConfig (Zae ZaD (Zae (ZaN 33 .thread) (Zae (Zao .i64) (Zae (Zao .i64) (Zae Zbo (Zae (ZaN 74 .mark) (ZaN 104 .event)))))))) Wld (fun y=>⟨y.1,y.2.1,y.2.2.1,y.2.2.2.1,y.2.2.2.2.1,y.2.2.2.2.2.1,y.2.2.2.2.2.2.1,y.2.2.2.2.2.2.2⟩) (fun x=>(x.c,(x.m,(x.t,(x.now,(x.steps,(x.tape,(x.log,x.hist)))))))) (fun _=>rfl))) (Zac (Zad .i64)))) Zhp
theorem ok50:Zaq Tryz.prog 50 s50 :=
 Zaj (V:=e50) (L:=nL) (rounds:=20) (depth:=6) g50 Zal (fun x=>by kernel_rfl)
def e41:Env:=ZDg [(26,s26),(33,s33),(50,s50),(75,s75)] [(124,x124)]
theorem g41:Zai e41:=ZrZ mix1 ent1 (Zab ok26 rfl (Zab ok33 rfl (Zab ok50 rfl (Zab ok75 rfl Zag)))) rfl Zwl
def ZDM:LSpec:=ZbX [6,11,12,32,33,34] (Zaa (Zak ZaL) (Zaa (Zak (Zbc (Zae celConfig (Zae ZaD (Zae (ZaN 33 .thread) (Zae (Zao .i64) (Zae (Zao .i64) (Zae Zbo (Zae (ZaN 74 .mark) (ZaN 104 .event)))))))) Wld (fun y=>⟨y.1,y.2.1,y.2.2.1,y.2.2.2.1,y.2.2.2.2.1,y.2.2.2.2.2.1,y.2.2.2.2.2.2.1,y.2.2.2.2.2.2.2⟩) (fun x=>(x.c,(x.m,(x.t,(x.now,(x.steps,(x.tape,(x.log,x.hist)))))))) (fun _=>rfl))) (Zaa (Zad .i64) (Zaa (Zaw .sentry) (Zaa (Zad .i64) (Zac (Zad .i64))))))) (⟨.exit 0,[6,11,12],(Zaa (Zak ZaL) (Zaa (Zak (Zbc (Zae celConfig (Zae ZaD (Zae (ZaN 33 .thread) (Zae (Zao .i64) (Zae (Zao .i64) (Zae Zbo (Zae (ZaN 74 .mark) (ZaN 104 .event)))))))) Wld (fun y=>⟨y.1,y.2.1,y.2.2.1,y.2.2.2.1,y.2.2.2.2.1,y.2.2.2.2.2.1,y.2.2.2.2.2.2.1,y.2.2.2.2.2.2.2⟩) (fun x=>(x.c,(x.m,(x.t,(x.now,(x.steps,(x.tape,(x.log,x.hist)))))))) (fun _=>rfl))) (Zac (Zad .i64))))⟩:Way) (Zay Zk8)
theorem ZDS:LoopOK e41 43 ZDM (ZaX e41.P 41 6) :=
 Zbe (L:=ZaA []) (rounds:=20) (depth:=6) (ts:=[6,11,12,32,33,34]) (v:=(Zaa (Zak ZaL) (Zaa (Zak (Zbc (Zae celConfig (Zae ZaD (Zae (ZaN 33 .thread) (Zae (Zao .i64) (Zae (Zao .i64) (Zae Zbo (Zae (ZaN 74 .mark) (ZaN 104 .event)))))))) Wld (fun y=>⟨y.1,y.2.1,y.2.2.1,y.2.2.2.1,y.2.2.2.2.1,y.2.2.2.2.2.1,y.2.2.2.2.2.2.1,y.2.2.2.2.2.2.2⟩) (fun x=>(x.c,(x.m,(x.t,(x.now,(x.steps,(x.tape,(x.log,x.hist)))))))) (fun _=>rfl))) (Zaa (Zad .i64) (Zaa (Zaw .sentry) (Zaa (Zad .i64) (Zac (Zad .i64)))))))) (a:=⟨.exit 0,[6,11,12],(Zaa (Zak ZaL) (Zaa (Zak (Zbc (Zae celConfig (Zae ZaD (Zae (ZaN 33 .thread) (Zae (Zao .i64) (Zae (Zao .i64) (Zae Zbo (Zae (ZaN 74 .mark) (ZaN 104 .event)))))))) Wld (fun y=>⟨y.1,y.2.1,y.2.2.1,y.2.2.2.1,y.2.2.2.2.1,y.2.2.2.2.2.1,y.2.2.2.2.2.2.1,y.2.2.2.2.2.2.2⟩) (fun x=>(x.c,(x.m,(x.t,(x.now,(x.steps,(x.tape,(x.log,x.hist)))))))) (fun _=>rfl))) (Zac (Zad .i64))))⟩) (step:=Zk8) g41 rfl ZaE (fun x=>by kernel_rfl)
def s41:Spec:=Zar (Zaa (Zap celConfig) (Zaa (Zaw .sentry) (Zac (Zaw .int)))) (Zbp (Zaa (Zap ZaL) (Zaa (Zad .i64) (Zac (Zad .i64))))) ZwW
theorem ok41:Zaq Tryz.prog 41 s41 :=
 Zaj (V:=e41) (L:=(ZaA [(6,ZDM)])) (rounds:=20) (depth:=6) g41 (ZaY (nt:=43) (by kernel_rfl) (Zbg (by kernel_rfl)) (Zaz ZDS ZaG)) (fun x=>by kernel_rfl)
def e52:Env:=ZDg [(26,s26),(33,s33),(88,s88),(131,s131),(132,s132),(133,s133)] [(124,x124)]
theorem g52:Zai e52:=ZrZ mix1 ent1 (Zab ok26 rfl (Zab ok33 rfl (Zab ok88 rfl (Zab ZFm rfl (Zab ZFg rfl (Zab ZFX rfl Zag)))))) rfl Zwl
def s52:Spec:=Zar (Zaa (Zap ZaL) (Zac (Zap Znv))) (Zbp (Zaa (Zap ZaL) (Zac (Zad .i64)))) ZmR
theorem ok52:Zaq Tryz.prog 52 s52 :=
 Zaj (V:=e52) (L:=nL) (rounds:=20) (depth:=6) g52 Zal (fun x=>by kernel_rfl)
end Go.Proofs.Mill
