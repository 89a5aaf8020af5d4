/- The functions compute this. -/
import Derived.Test.YtaopdopnecognaaGreatMillPick
import Derived.Test.YtaopdopnecognaaGreatMillRepeat
import Derived.Test.YtaopdopnecognaaGreatMillOkBb
import Derived.Test.YtaopdopnecognaaGreatMillSeat3
import Derived.Test.YtaopdopnecognaaGreatMillFCb
set_option linter.all false
set_option maxRecDepth 100000
noncomputable section
namespace Go.Proofs.Mill
def e25:Env:=env1 [(56,s56),(57,s57),(58,s58),(59,s59),(60,s60)]
theorem g25:Zai e25:=Zal mix1 ent1 (Zab ok56 rfl (Zab ok57 rfl (Zab ok58 rfl (Zab ok59 rfl (Zab ok60 rfl Zah)))))
def s25:Spec:=Zao (Zaa (Zaq celConfig) (Zad (Zap .int))) (ZbS (Zaa (Zaq (Zcx (Zam celConfig (Zam Zcd (Zam (ZbA 57 .thread) (Zam (Zau .i64) (Zam (Zau .i64) (Zam ZdV (Zam (ZbA 65 .mark) (ZbA 50 .event)))))))) Wld (fun y=>⟨y.1,y.2.1,y.2.2.1,y.2.2.2.1,y.2.2.2.2.1,y.2.2.2.2.2.1,y.2.2.2.2.2.2.1,y.2.2.2.2.2.2.2⟩) (fun x=>(x.c,(x.m,(x.t,(x.now,(x.steps,(x.tape,(x.log,x.hist)))))))) (fun _=>rfl))) (Zad (Zae .i64)))) Zi9
theorem ok25:Zan Tryz.prog 25 s25 :=
 Zaj (V:=e25) (L:=nL) (rounds:=20) (depth:=6) g25 Zak (fun x=>by kernel_rfl)
def e16:Env:=ZAz [(24,s24),(25,s25),(51,s51),(100,s100)] [(77,x77)]
theorem g16:Zai e16:=ZuH mix1 ent1 (Zab ok24 rfl (Zab ok25 rfl (Zab ok51 rfl (Zab ZBo rfl Zah)))) rfl ZAU
def ZBh:LSpec:=Zdm [6,11,12,32,33,34] (Zaa (Zav Zc0) (Zaa (Zav (Zcx (Zam celConfig (Zam Zcd (Zam (ZbA 57 .thread) (Zam (Zau .i64) (Zam (Zau .i64) (Zam ZdV (Zam (ZbA 65 .mark) (ZbA 50 .event)))))))) Wld (fun y=>⟨y.1,y.2.1,y.2.2.1,y.2.2.2.1,y.2.2.2.2.1,y.2.2.2.2.2.1,y.2.2.2.2.2.2.1,y.2.2.2.2.2.2.2⟩) (fun x=>(x.c,(x.m,(x.t,(x.now,(x.steps,(x.tape,(x.log,x.hist)))))))) (fun _=>rfl))) (Zaa (Zae .i64) (Zaa (Zap .sentry) (Zaa (Zae .i64) (Zad (Zae .i64))))))) (⟨.exit 0,[6,11,12],(Zaa (Zav Zc0) (Zaa (Zav (Zcx (Zam celConfig (Zam Zcd (Zam (ZbA 57 .thread) (Zam (Zau .i64) (Zam (Zau .i64) (Zam ZdV (Zam (ZbA 65 .mark) (ZbA 50 .event)))))))) Wld (fun y=>⟨y.1,y.2.1,y.2.2.1,y.2.2.2.1,y.2.2.2.2.1,y.2.2.2.2.2.1,y.2.2.2.2.2.2.1,y.2.2.2.2.2.2.2⟩) (fun x=>(x.c,(x.m,(x.t,(x.now,(x.steps,(x.tape,(x.log,x.hist)))))))) (fun _=>rfl))) (Zad (Zae .i64))))⟩:Way) (ZaA Zho)
theorem ZB4:LoopOK e16 43 ZBh (Za5 e16.P 16 6) :=
 Zb9 (L:=ZaL []) (rounds:=20) (depth:=6) (ts:=[6,11,12,32,33,34]) (v:=(Zaa (Zav Zc0) (Zaa (Zav (Zcx (Zam celConfig (Zam Zcd (Zam (ZbA 57 .thread) (Zam (Zau .i64) (Zam (Zau .i64) (Zam ZdV (Zam (ZbA 65 .mark) (ZbA 50 .event)))))))) Wld (fun y=>⟨y.1,y.2.1,y.2.2.1,y.2.2.2.1,y.2.2.2.2.1,y.2.2.2.2.2.1,y.2.2.2.2.2.2.1,y.2.2.2.2.2.2.2⟩) (fun x=>(x.c,(x.m,(x.t,(x.now,(x.steps,(x.tape,(x.log,x.hist)))))))) (fun _=>rfl))) (Zaa (Zae .i64) (Zaa (Zap .sentry) (Zaa (Zae .i64) (Zad (Zae .i64)))))))) (a:=⟨.exit 0,[6,11,12],(Zaa (Zav Zc0) (Zaa (Zav (Zcx (Zam celConfig (Zam Zcd (Zam (ZbA 57 .thread) (Zam (Zau .i64) (Zam (Zau .i64) (Zam ZdV (Zam (ZbA 65 .mark) (ZbA 50 .event)))))))) Wld (fun y=>⟨y.1,y.2.1,y.2.2.1,y.2.2.2.1,y.2.2.2.2.1,y.2.2.2.2.2.1,y.2.2.2.2.2.2.1,y.2.2.2.2.2.2.2⟩) (fun x=>(x.c,(x.m,(x.t,(x.now,(x.steps,(x.tape,(x.log,x.hist)))))))) (fun _=>rfl))) (Zad (Zae .i64))))⟩) (step:=Zho) g16 rfl ZaY (fun x=>by kernel_rfl)
def s16:Spec:=Zao (Zaa (Zaq celConfig) (Zaa (Zap .sentry) (Zad (Zap .int)))) (ZbS (Zaa (Zaq Zc0) (Zaa (Zae .i64) (Zad (Zae .i64))))) ZcI
theorem ok16:Zan Tryz.prog 16 s16 :=
 Zaj (V:=e16) (L:=(ZaL [(6,ZBh)])) (rounds:=20) (depth:=6) g16 (Zbi (nt:=43) (by kernel_rfl) (Zb1 (by kernel_rfl)) (ZaD ZB4 ZaT)) (fun x=>by kernel_rfl)
def e33:Env:=env1 [(16,s16),(17,s17),(18,s18),(37,s37),(40,s40),(42,s42),(45,s45)]
theorem g33:Zai e33:=Zal mix1 ent1 (Zab ok16 rfl (Zab ok17 rfl (Zab ok18 rfl (Zab ok37 rfl (Zab ok40 rfl (Zab ok42 rfl (Zab ok45 rfl Zah)))))))
def s33:Spec:=Zao valsNil (Zar (ZaN)) ZcW
theorem ok33:Zan Tryz.prog 33 s33 :=
 Zaj (V:=e33) (L:=nL) (rounds:=20) (depth:=6) g33 Zak (fun x=>by kernel_rfl)
def e6:Env:=env1 [(17,s17),(18,s18),(32,s32),(33,s33),(34,s34),(35,s35),(36,s36),(37,s37),(38,s38),(39,s39),(40,s40),(41,s41),(42,s42),(43,s43)]
theorem g6:Zai e6:=Zal mix1 ent1 (Zab ok17 rfl (Zab ok18 rfl (Zab ok32 rfl (Zab ok33 rfl (Zab ok34 rfl (Zab ok35 rfl (Zab ok36 rfl (Zab ok37 rfl (Zab ok38 rfl (Zab ok39 rfl (Zab ok40 rfl (Zab ok41 rfl (Zab ok42 rfl (Zab ok43 rfl Zah))))))))))))))
def e7:Env:=env1 [(17,s17),(18,s18),(32,s32),(33,s33),(40,s40),(42,s42)]
theorem g7:Zai e7:=Zal mix1 ent1 (Zab ok17 rfl (Zab ok18 rfl (Zab ok32 rfl (Zab ok33 rfl (Zab ok40 rfl (Zab ok42 rfl Zah))))))
def s7:Spec:=Zao (Zaa (Zaq celConfig) (Zaa (Zap .sentry) (Zaa (Zaq ZhQ) (Zaa (Zae .u8) (Zad (Zae .u8)))))) (Zar (ZaN)) ZnO
def e8:Env:=env1 [(16,s16),(17,s17),(32,s32),(33,s33),(44,s44),(45,s45)]
theorem g8:Zai e8:=Zal mix1 ent1 (Zab ok16 rfl (Zab ok17 rfl (Zab ok32 rfl (Zab ok33 rfl (Zab ok44 rfl (Zab ok45 rfl Zah))))))
def e9:Env:=env1 [(17,s17),(32,s32),(33,s33),(37,s37),(40,s40)]
theorem g9:Zai e9:=Zal mix1 ent1 (Zab ok17 rfl (Zab ok32 rfl (Zab ok33 rfl (Zab ok37 rfl (Zab ok40 rfl Zah)))))
end Go.Proofs.Mill
