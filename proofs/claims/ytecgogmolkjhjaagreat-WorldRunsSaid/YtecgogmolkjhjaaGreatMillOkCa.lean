/- The functions compute this. -/
import Derived.Test.YtecgogmolkjhjaaGreatMillPickA
import Derived.Test.YtecgogmolkjhjaaGreatMillRepeatA
import Derived.Test.YtecgogmolkjhjaaGreatMillOkB
import Derived.Test.YtecgogmolkjhjaaGreatMillSeat2
import Derived.Test.YtecgogmolkjhjaaGreatMillFCa
set_option linter.all false
set_option maxRecDepth 100000
noncomputable section
namespace Go.Proofs.Mill
def e50:Env:=env1 [(25,s25),(27,s27),(83,s83),(84,s84),(85,s85)]
theorem g50:Zaj e50:=Zan mix1 ent1 (Zab ok25 rfl (Zab ok27 rfl (Zab ok83 rfl (Zab ok84 rfl (Zab ok85 rfl Zag)))))
def s50:Spec:=Zas (Zaa (Zaq celConfig) (Zac (Zax .int))) (Zbp (Zaa (Zaq (Zbc (Zae celConfig (Zae ZaD (Zae (ZaL 33 .thread) (Zae (Zao .i64) (Zae (Zao .i64) (Zae Zbo (Zae (ZaL 74 .mark) (ZaL 104 .event)))))))) Wld (fun y=>⟨y.1,y.2.1,y.2.2.1,y.2.2.2.1,y.2.2.2.2.1,y.2.2.2.2.2.1,y.2.2.2.2.2.2.1,y.2.2.2.2.2.2.2⟩) (fun x=>(x.c,(x.m,(x.t,(x.now,(x.steps,(x.tape,(x.log,x.hist)))))))) (fun _=>rfl))) (Zac (Zad .i64)))) Zn8
theorem ok50:Zar Tryz.prog 50 s50 :=
 Zai (V:=e50) (L:=nL) (rounds:=20) (depth:=6) g50 Zam (fun x=>by kernel_rfl)
def e41:Env:=ZGr [(26,s26),(33,s33),(50,s50),(75,s75)] [(124,x124)]
theorem g41:Zaj e41:=Zwy mix1 ent1 (Zab ok26 rfl (Zab ok33 rfl (Zab ok50 rfl (Zab ok75 rfl Zag)))) rfl ZAU
def ZCU:LSpec:=ZbY [6,11,12,32,33,34] (Zaa (Zak ZaO) (Zaa (Zak (Zbc (Zae celConfig (Zae ZaD (Zae (ZaL 33 .thread) (Zae (Zao .i64) (Zae (Zao .i64) (Zae Zbo (Zae (ZaL 74 .mark) (ZaL 104 .event)))))))) Wld (fun y=>⟨y.1,y.2.1,y.2.2.1,y.2.2.2.1,y.2.2.2.2.1,y.2.2.2.2.2.1,y.2.2.2.2.2.2.1,y.2.2.2.2.2.2.2⟩) (fun x=>(x.c,(x.m,(x.t,(x.now,(x.steps,(x.tape,(x.log,x.hist)))))))) (fun _=>rfl))) (Zaa (Zad .i64) (Zaa (Zax .sentry) (Zaa (Zad .i64) (Zac (Zad .i64))))))) (⟨.exit 0,[6,11,12],(Zaa (Zak ZaO) (Zaa (Zak (Zbc (Zae celConfig (Zae ZaD (Zae (ZaL 33 .thread) (Zae (Zao .i64) (Zae (Zao .i64) (Zae Zbo (Zae (ZaL 74 .mark) (ZaL 104 .event)))))))) Wld (fun y=>⟨y.1,y.2.1,y.2.2.1,y.2.2.2.1,y.2.2.2.2.1,y.2.2.2.2.2.1,y.2.2.2.2.2.2.1,y.2.2.2.2.2.2.2⟩) (fun x=>(x.c,(x.m,(x.t,(x.now,(x.steps,(x.tape,(x.log,x.hist)))))))) (fun _=>rfl))) (Zac (Zad .i64))))⟩:Way) (Zay ZhO)
theorem ZEo:LoopOK e41 43 ZCU (ZaW e41.P 41 6) :=
 Zbe (L:=ZaB []) (rounds:=20) (depth:=6) (ts:=[6,11,12,32,33,34]) (v:=(Zaa (Zak ZaO) (Zaa (Zak (Zbc (Zae celConfig (Zae ZaD (Zae (ZaL 33 .thread) (Zae (Zao .i64) (Zae (Zao .i64) (Zae Zbo (Zae (ZaL 74 .mark) (ZaL 104 .event)))))))) Wld (fun y=>⟨y.1,y.2.1,y.2.2.1,y.2.2.2.1,y.2.2.2.2.1,y.2.2.2.2.2.1,y.2.2.2.2.2.2.1,y.2.2.2.2.2.2.2⟩) (fun x=>(x.c,(x.m,(x.t,(x.now,(x.steps,(x.tape,(x.log,x.hist)))))))) (fun _=>rfl))) (Zaa (Zad .i64) (Zaa (Zax .sentry) (Zaa (Zad .i64) (Zac (Zad .i64)))))))) (a:=⟨.exit 0,[6,11,12],(Zaa (Zak ZaO) (Zaa (Zak (Zbc (Zae celConfig (Zae ZaD (Zae (ZaL 33 .thread) (Zae (Zao .i64) (Zae (Zao .i64) (Zae Zbo (Zae (ZaL 74 .mark) (ZaL 104 .event)))))))) Wld (fun y=>⟨y.1,y.2.1,y.2.2.1,y.2.2.2.1,y.2.2.2.2.1,y.2.2.2.2.2.1,y.2.2.2.2.2.2.1,y.2.2.2.2.2.2.2⟩) (fun x=>(x.c,(x.m,(x.t,(x.now,(x.steps,(x.tape,(x.log,x.hist)))))))) (fun _=>rfl))) (Zac (Zad .i64))))⟩) (step:=ZhO) g41 rfl ZaE (fun x=>by kernel_rfl)
def s41:Spec:=Zas (Zaa (Zaq celConfig) (Zaa (Zax .sentry) (Zac (Zax .int)))) (Zbp (Zaa (Zaq ZaO) (Zaa (Zad .i64) (Zac (Zad .i64))))) ZhG
theorem ok41:Zar Tryz.prog 41 s41 :=
 Zai (V:=e41) (L:=(ZaB [(6,ZCU)])) (rounds:=20) (depth:=6) g41 (ZaZ (nt:=43) (by kernel_rfl) (Zbh (by kernel_rfl)) (Zaz ZEo ZaH)) (fun x=>by kernel_rfl)
def s52:Spec:=Zas (Zaa (Zaq ZaO) (Zac (Zaq ZnA))) (Zbp (Zaa (Zaq ZaO) (Zac (Zad .i64)))) ZwB
end Go.Proofs.Mill
