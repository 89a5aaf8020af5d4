/- What a program that was cut says of itself in its head. -/
import Derived.JoinedOf
import Derived.KernelRfl
import Derived.WalkKit
set_option linter.all false
namespace Go.Proofs.Mill

theorem strip_cut (rest : List (List Char)) : stripLifts liftWords ("cut".toList :: rest) = ([], "cut".toList :: rest) := by kernel_rfl

theorem enter_cut {P : Program} {rest : List (List Char)} (hb : behindMainWord (wordsSigns P.initOrder.toList) = "cut".toList :: rest) (h1 : P.laysLater = false) (h2 : P.bearsReflect = false) (h3 : P.doorRows = []) : P.mayEnter = true := by
  unfold Program.mayEnter
  rw [hb]
  simp only [strip_cut, Program.doorFits, h1, h2, h3]
  have e1 : ("cut".toList == "gc".toList) = false := by kernel_rfl
  have e2 : ("cut".toList == "spec".toList) = false := by kernel_rfl
  have e3 : ("cut".toList == "carried".toList) = false := by kernel_rfl
  rw [e1, e2, e3]
  simp

theorem head_cut {P : Program} {rest : List (List Char)} (hb : behindMainWord (wordsSigns P.initOrder.toList) = "cut".toList :: rest) : P.headLifts = [] := by
  unfold Program.headLifts
  rw [hb, strip_cut]
  simp

theorem lifts_cut {P : Program} {rest : List (List Char)} (hb : behindMainWord (wordsSigns P.initOrder.toList) = "cut".toList :: rest) : P.liftsFinal = false := by
  unfold Program.liftsFinal
  rw [hb, head_cut hb]
  have e3 : (("cut".toList :: rest).head? == some "carried".toList) = false := by kernel_rfl
  simp only [e3]
  simp

theorem make_cut {P : Program} {rest : List (List Char)} (hb : behindMainWord (wordsSigns P.initOrder.toList) = "cut".toList :: rest) : P.make = some .cut := by
  unfold Program.make
  rw [hb]
  have e1 : ("cut".toList == "gc".toList) = false := by kernel_rfl
  have e2 : ("cut".toList == "spec".toList) = false := by kernel_rfl
  simp only [e1, e2, beq_self_eq_true, Bool.false_or, Bool.true_or, if_true]
  simp

/-- The closed facts of a row, one by one. -/
theorem joined_of {P : Program} {f : FuncId} {fn : Func} {s : ChangeSpec} {c : OpenClaim} {rest : List (List Char)} (hb : behindMainWord (wordsSigns P.initOrder.toList) = "cut".toList :: rest)
    (h1 : P.laysLater = false) (h2 : P.bearsReflect = false) (h3 : P.doorRows = []) (hl : laidOutB P = true) (hm : mapsRowed P = true) (hs : P.stopsHeard = true) (hp : P.plainKeys = true) (hst : P.stops = []) (hkn : P.stopKnobs = [])
    (a1 : c.wf (OpenSpec.ofChange s) = true) (a2 : fn.params.all (P.readableRec ·) = true) (a3 : namedTie P c.named s.vars = true) (a4 : c.stops = []) (a5 : c.knobs = [])
    (a6 : (c.inPlace == P.inPlace f) = true) (a7 : (c.unfollowed == P.unfollowed f) = true) (a8 : (c.recurses == P.recurses f) = true) (a9 : (c.named == P.varsNamed f) = true)
    (a10 : ((c.maps == (fn.params.toList ++ s.plain.varTypes P).any (P.mapsRec ·)) && (c.ifaces == (fn.params.toList ++ s.plain.varTypes P).any (P.ifacesRec ·)) && (c.mapsOut == P.mapsAmong fn.resultTypes.toList)) = true)
    (a11 : ((c.loops == (fn.params.toList ++ s.plain.varTypes P).any (P.loopsFrom ·)) && (c.wideKeys == (fn.params.toList ++ s.plain.varTypes P ++ fn.resultTypes.toList).any (P.wideKeysFrom ·))) = true)
    (a12 : (s.vars.all (P.varReadable ·) && fn.resultTypes.all (fun t => P.readableRec t && decide (t < P.types.size)) && (c.ifacesOut == fn.resultTypes.toList.any (P.ifacesRec ·)) && (c.loopsOut == fn.resultTypes.toList.any (P.loopsFrom ·))) = true)
    (a13 : c.plainKeys = true) (a14 : c.shortTexts.isNone = true) (a15 : c.lifted = false) (a16 : c.make = .cut)
    (a17 : ((c.kinds == (if c.domain.isEmpty then [] else fn.params.toList.map fun t => match P.underlying t with | some (.int k) => some k | _ => none)) && (c.pinned == c.pinnedBy)) = true)
    (a18 : ((c.veiled == (fn.params.toList ++ s.plain.varTypes P ++ fn.resultTypes.toList).any (P.veiledRec ·)) && c.veiledFits P fn.params.toList (fn.params.toList ++ s.plain.varTypes P ++ fn.resultTypes.toList)) = true) : joinedFacts P f fn s c = true := by
  have b1 := enter_cut hb h1 h2 h3
  have b2 := lifts_cut hb
  have b3 := make_cut hb
  simp only [Bool.and_eq_true] at a10 a11 a12 a17 a18
  unfold joinedFacts
  simp only [Bool.and_eq_true]
  rw [a4, a5, hst, hkn, b1, b2, b3, a13, hp, a15, a16]
  exact ⟨⟨⟨⟨⟨⟨⟨⟨⟨⟨⟨⟨⟨⟨⟨⟨⟨⟨⟨⟨⟨⟨⟨⟨⟨⟨⟨⟨⟨⟨⟨a1, hl⟩, hm⟩, a2⟩, a3⟩, by rfl⟩, by rfl⟩, by rfl⟩, by rfl⟩, a6⟩, a7⟩, a8⟩, a9⟩, a10.1.1⟩, a10.1.2⟩, a10.2⟩, a11.1⟩, a11.2⟩, a12.1.1.1⟩, a12.1.1.2⟩, a12.1.2⟩, a12.2⟩, by rfl⟩, a14⟩, hs⟩, rfl⟩, by rfl⟩, by simp⟩, a17.1⟩, a17.2⟩, a18.1⟩, a18.2⟩

end Go.Proofs.Mill
