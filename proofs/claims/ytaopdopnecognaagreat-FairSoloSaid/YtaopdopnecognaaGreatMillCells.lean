/- A function that hands over what is in a cell ahead of each op, and behind it; its variable is its own. -/
import Derived.Test.YtaopdopnecognaaGreatMillAll8
set_option linter.all false
namespace Go.Proofs.Mill
open Go.RowKit

/-- A world without its later blocks. -/
def cutW (B : World) (n : Nat) : World := { B with heap := B.heap.extract 0 n }
theorem cutW_size {B : World} {n : Nat} (h : n ≤ B.heap.size) : (cutW B n).heap.size = n := by simp [cutW]; omega

/-- All blocks but one lie as they lay. -/
def KJ (A : World) (pb : Nat) (c : Cx) : Prop :=
  (∀ b, b < A.heap.size → b ≠ pb → b < c.w.heap.size ∧ (∀ id, c.mu id ≠ some b) ∧ c.w.heap[b]? = A.heap[b]?) ∧ PtrV c 1 0 (.pointer (some ⟨pb, 0, none⟩))

theorem KJ.stays (A : World) (pb : Nat) : Stays (KJ A pb) := by
  intro c c' h m
  refine ⟨fun b h1 h2 => ?_, m.ptr _ _ _ h.2⟩
  obtain ⟨k1, k2, k3⟩ := h.1 b h1 h2
  obtain ⟨m1, m2⟩ := m.off b k1 k2
  have hlt : b < c'.w.heap.size := by
    have m3 := m2
    rw [Array.getElem?_eq_getElem k1] at m3
    exact (Array.getElem?_eq_some_iff.1 m3).1
  exact ⟨hlt, m1, m2.trans k3⟩

/-- A frame whose one variable is its own. -/
structure BareX (S : Nat → Prop) (pb nt : Nat) (tm : List (Nat × AV)) (x : Int) (a : Act) (B : World) : Prop where
  defers : a.defers = []
  size : a.tmps.size = nt
  two : 2 < nt
  val : ∀ p ∈ tm, p.1 < nt ∧ Mill.V (bx S B) p.2 (a.tmps.getD p.1 undef)
  ptr : a.tmps.getD 2 undef = .pointer (some ⟨pb, 0, none⟩)
  cell : ∃ e, B.heap[pb]? = some (.cells #[.int .i64 x] e (0, 0))

def okX (S : Nat → Prop) (B : World) (pb : Nat) : Nat → Prop := fun b => S b ∨ B.heap.size ≤ b ∨ b = pb

section
variable {S : Nat → Prop} {pb nt : Nat} {tm : List (Nat × AV)} {x : Int} {a : Act} {A B : World}

theorem BareX.holds (hS : ∀ b, S b → b ≠ pb) (hf : ∀ p ∈ tm, p.2.frozen = true) (h : BareX S pb nt tm x a B) :
    Holds (KJ B pb) (cutW B pb) (okX S B pb) nt [] ⟨(2, .ptr 1 0) :: tm, [(1, .box [.i x])]⟩ a B := by
  obtain ⟨e, hc⟩ := h.cell
  have hlt : pb < B.heap.size := (Array.getElem?_eq_some_iff.1 hc).1
  have hsz := cutW_size (B := B) (n := pb) (by omega)
  obtain ⟨mu, hmu1, hmu⟩ : ∃ mu : Nat → Option Nat, mu 1 = some pb ∧ ∀ id, id ≠ 1 → mu id = none := ⟨fun id => if id = 1 then some pb else none, rfl, fun id hne => if_neg hne⟩
  have hof : ∀ id b, mu id = some b → id = 1 ∧ b = pb := by
    intro id b hb
    by_cases e : id = 1
    · subst e; rw [hmu1] at hb; exact ⟨rfl, (Option.some.inj hb).symm⟩
    · rw [hmu id e] at hb; cases hb
  have hlk1 : look [(1, AV.box [.i x])] 1 = .box [.i x] := look_eq _ _ _
  have hlk : ∀ id, id ≠ 1 → look [(1, AV.box [.i x])] id = .undef := fun id hne => by rw [look_ne _ _ (Ne.symm hne)]; rfl
  have hptr : PtrV (cx B [(1, .box [.i x])] mu (okX S B pb)) 1 0 (.pointer (some ⟨pb, 0, none⟩)) := by
    unfold PtrV
    rw [show (cx B [(1, AV.box [.i x])] mu (okX S B pb)).ob 1 = .box [.i x] from hlk1]
    exact ⟨pb, hmu1, rfl⟩
  have hV : ∀ p ∈ tm, Mill.V (cx B [(1, .box [.i x])] mu (okX S B pb)) p.2 (a.tmps.getD p.1 undef) := fun p hp =>
    V_frozen (fun b hb => by
      refine ⟨⟨?_, hb.2.1, fun id e => ?_⟩, rfl⟩
      · rcases hb.1 with h | h
        · exact .inl h
        · exact .inr (.inl h)
      · obtain ⟨_, e⟩ := hof id b e
        rcases hb.1 with h | h
        · exact hS b h e
        · have : b < B.heap.size := hb.2.1
          omega) p.2 _ (hf p hp) (h.val p hp).2
  refine ⟨mu, ⟨⟨fun id => ?_, fun i j b hi hj => ?_, fun id b hb => ?_, ⟨rfl, rfl, rfl, ?_, fun k hk => ?_⟩, fun b hb => ?_⟩, fun t ht => ?_, fun t ht => ?_, h.size, h.defers, Marks.nil _ _⟩, fun b h1 h2 => ⟨h1, fun id e => h2 (hof id b e).2, rfl⟩, hptr⟩
  · unfold ObjOK
    by_cases e1 : id = 1
    · subst e1
      rw [show (cx B [(1, AV.box [.i x])] mu (okX S B pb)).ob 1 = .box [.i x] from hlk1]
      exact ⟨pb, _, e, hmu1, hc, rfl, trivial⟩
    · rw [show (cx B [(1, AV.box [.i x])] mu (okX S B pb)).ob id = .undef from hlk id e1]
      exact hmu id e1
  · rw [(hof i b hi).1, (hof j b hj).1]
  · rw [hsz, (hof id b hb).2]; exact Nat.le_refl _
  · rw [hsz]; exact Nat.le_of_lt hlt
  · rw [hsz] at hk
    show B.heap[k]? = (B.heap.extract 0 pb)[k]?
    rw [Array.getElem?_extract]
    simp
    omega
  · by_cases e1 : b = pb
    · exact .inl (.inr (.inr e1))
    · by_cases e2 : b < B.heap.size
      · exact .inr ⟨e2, fun id e => e1 (hof id b e).2⟩
      · exact .inl (.inr (.inl (by omega)))
  · by_cases e1 : t = 2
    · subst e1
      show Mill.V _ (look ((2, AV.ptr 1 0) :: tm) 2) _
      rw [look_eq, h.ptr]
      exact hptr
    · show Mill.V _ (look ((2, AV.ptr 1 0) :: tm) t) _
      rw [look_ne _ _ (Ne.symm e1)]
      rcases look_cases tm t with h1 | ⟨p, hp, h1, h2⟩
      · rw [h1]; trivial
      · rw [h2, ← h1]; exact hV p hp
  · have h2 := h.two
    show look ((2, AV.ptr 1 0) :: tm) t = .undef
    rw [look_ne _ _ (by omega)]
    rcases look_cases tm t with h1 | ⟨p, hp, h1, h2⟩
    · exact h1
    · have := (h.val p hp).1
      omega

theorem toBareX {σ' : St} {a' : Act} {x' : Int} (hpb : pb < A.heap.size) (two : 2 < nt) (hh : Holds (KJ A pb) (cutW A pb) (okX S A pb) nt [] σ' a' B) (h2 : look σ'.tm 2 = .ptr 1 0) (ho : look σ'.ob 1 = .box [.i x'])
    (hl : ∀ p ∈ tm, p.1 < nt ∧ look σ'.tm p.1 = p.2 ∧ p.2.frozen = true) :
    BareX (fun b => S b ∨ A.heap.size ≤ b ∧ b < B.heap.size) pb nt tm x' a' B ∧ Turned A B (fun k => k = pb) := by
  obtain ⟨mu, hr, hj1, hj2⟩ := hh
  have ho' : (cx B σ'.ob mu (okX S A pb)).ob 1 = .box [.i x'] := ho
  have hm1 : mu 1 = some pb := by
    unfold PtrV at hj2
    rw [ho'] at hj2
    obtain ⟨b, h1, h2⟩ := hj2
    have : pb = b := by simpa using h2
    rw [this]; exact h1
  have hcell : ∃ e, B.heap[pb]? = some (.cells #[.int .i64 x'] e (0, 0)) := by
    have := hr.mem.obj 1
    unfold ObjOK at this
    rw [ho'] at this
    obtain ⟨b, cur, e, h1, h2, h3⟩ := this
    have h1 : mu 1 = some b := h1
    rw [hm1] at h1
    obtain rfl := Option.some.inj h1
    obtain ⟨u, r, hc, hu, hr⟩ := VL_cons h3
    have hr := VL_nil hr
    subst hr
    have hu : u = .int .i64 x' := hu
    subst hu
    have : cur = #[.int .i64 x'] := by
      obtain ⟨l⟩ := cur
      simp at hc
      simp [hc]
    rw [← this]
    exact ⟨e, h2⟩
  have hlt : pb < B.heap.size := by obtain ⟨e, h⟩ := hcell; exact (Array.getElem?_eq_some_iff.1 h).1
  refine ⟨⟨hr.defers, hr.size, two, fun p hp => ?_, ?_, hcell⟩, ⟨hr.mem.ext.os, hr.mem.ext.tape, hr.mem.ext.output, ?_, fun k hk hne => (hj1 k hk hne).2.2⟩⟩
  · obtain ⟨k1, k2, k3⟩ := hl p hp
    refine ⟨k1, ?_⟩
    have := hr.tm p.1 k1
    rw [k2] at this
    refine V_frozen (c := cx B σ'.ob mu (okX S A pb)) (c' := bx (fun b => S b ∨ A.heap.size ≤ b ∧ b < B.heap.size) B) (fun b hb => ⟨⟨Or.inl ?_, hb.2.1, fun _ h => by cases h⟩, rfl⟩) p.2 _ k3 this
    rcases hb.1 with h | h | h
    · exact .inl h
    · exact .inr ⟨h, hb.2.1⟩
    · exact (hb.2.2 1 (by rw [h]; exact hm1)).elim
  · have := hr.tm 2 two
    rw [h2] at this
    have this : PtrV (cx B σ'.ob mu (okX S A pb)) 1 0 (a'.tmps.getD 2 undef) := this
    unfold PtrV at this
    rw [ho'] at this
    obtain ⟨b, h1, h3⟩ := this
    have h1 : mu 1 = some b := h1
    rw [hm1] at h1
    obtain rfl := Option.some.inj h1
    exact h3
  · by_cases e : A.heap.size - 1 = pb
    · omega
    · have := (hj1 (A.heap.size - 1) (by omega) e).1
      have : A.heap.size - 1 < B.heap.size := this
      omega

end

section
variable {V : Env} {J : Cx → Prop} {w0 w : World} {ok : Nat → Prop} {nt : Nat} {σ : St} {a : Act}

theorem evK_okJ {ρ : Type} {rounds depth : Nat} (hG : GoodEnv V) (hJ : Stays J) {c : Code} {r : ρ} {k : Ex → St → Option ρ} {Q : Exit → Act → World → Prop} (hh : Holds J w0 ok nt [] σ a w)
    (h : evK V (fun _ => none) (inlK V rounds depth) 1 nt rounds c σ k = some r) (hn : ∀ e σ' a' w', Holds J w0 ok nt [] σ' a' w' → k e σ' = some r → Q e.to a' w') : c.wpIn (wideR none) 0 V.P Q a w :=
  evK_ok (J := J) (Δ := fun ds => ds = []) (ro := none) hG (inlK_ok hG depth) hJ (fun _ _ h => by cases h) (fun _ _ h => by cases h) c (fun _ _ _ h => by cases h) ⟨[], rfl, hh⟩ h
    fun e σ' a' w' hh' h' => by obtain ⟨ds, rfl, hh'⟩ := hh'; exact hn e σ' a' w' hh' h'

/-- A call of a loop's yield, of two values. -/
theorem yield_wp2 {P : Program} {o : Oper} {c : Go.Call} {f x y : Operand} {l : Nat} {K : Act → World → Prop} {Q : Exit → Act → World → Prop} (ho : o.op = .call c) (hf : c.callee = .value f) (hx : c.args = #[x, y])
    (hv : a.eval f = .func (.yield l) #[] #[]) (h : YieldAt Fence.wide 0 P l #[a.eval x, a.eval y] w fun e B => ∃ v, e = .returned v ∧ K (a.put o.dst v) B) : o.wpIn (wideR none) 0 P a w K Q := by
  obtain ⟨fn, tmps, assign, body, hr, hround⟩ := h
  refine ⟨fun _ _ => trivial, ?_⟩
  have hrun : (execOp a.eval o).run P w = .ok (.round l fn tmps assign body) w := by
    simp [execOp, ho, resolve, hf, hv, Deferred.ofValue, invoke, hx, hr]
  show o.uponIn (wideR none) 0 P a K Q ((Oper.semAt none a.eval o).run P w)
  rw [Oper.semAt_none, hrun]
  refine ⟨fun h => (by cases h), hround.mono fun e B he => ?_⟩
  obtain ⟨v, rfl, hk⟩ := he
  exact hk
end

/-- What is in the cell ahead of each op, and behind it. -/
def cellsOf (ap : Entry → Int → Option Int) : List Entry → Int → Option (List (Int × Int))
  | [], _ => some []
  | e :: r, x => match ap e x with
    | some y => (match cellsOf ap r y with | some l => some ((x, y) :: l) | none => none)
    | none => none

theorem cellsOf_length {ap : Entry → Int → Option Int} : ∀ {L : List Entry} {x : Int} {els : List (Int × Int)}, cellsOf ap L x = some els → els.length = L.length
  | [], _, _, h => by simp [cellsOf] at h; simp [← h]
  | e :: L, x, els, h => by
    unfold cellsOf at h
    split at h
    case h_2 => cases h
    split at h
    case h_2 => cases h
    rename_i hl
    obtain rfl := Option.some.inj h
    simp [cellsOf_length hl]

/-- What a round comes to ahead of its call of yield. -/
def cellsPre (V : Env) (inl : Inl (Bool × List AV × AV)) (nt rounds : Nat) (R1 K1 R2 R3 : Code) (ops : Array Oper) (σ : St) : Option (Bool × List AV × AV) :=
  evK V (fun _ => none) inl 1 nt rounds R1 σ fun e σ => match e with
  | .normal => evK V (fun _ => none) inl 1 nt rounds K1 σ fun e σ => (match e with
    | .exit 0 => some (false, [look σ.tm 2], look σ.ob 1)
    | .normal => evK V (fun _ => none) inl 1 nt rounds R2 σ fun e σ => (match e with
      | .normal => evK V (fun _ => none) inl 1 nt rounds R3 σ fun e σ => (match e with
        | .normal => opsK V inl 1 nt ops (ops.toList.take 3) σ fun σ => some (true, [25, 26, 27, 8, 2, 0, 3, 4, 10, 11, 12].map (look σ.tm), look σ.ob 1)
        | _ => none)
      | _ => none)
    | _ => none)
  | _ => none

/-- What it comes to behind. -/
def cellsPost (V : Env) (inl : Inl (List AV × AV)) (nt rounds : Nat) (K2 R5 R6 : Code) (ops : Array Oper) (σ : St) : Option (List AV × AV) :=
  opsK V inl 1 nt ops (ops.toList.drop 4) σ fun σ => evK V (fun _ => none) inl 1 nt rounds K2 σ fun e σ => match e with
    | .normal => evK V (fun _ => none) inl 1 nt rounds R5 σ fun e σ => (match e with
      | .normal => evK V (fun _ => none) inl 1 nt rounds R6 σ fun e σ => (match e with
        | .normal => some ([2, 0, 3, 4, 10, 11, 12].map (look σ.tm), look σ.ob 1)
        | _ => none)
      | _ => none)
    | _ => none

theorem four_split {l : List Oper} (h : l.length = 5) : l = l.take 3 ++ l.getD 3 default :: l.drop 4 := by
  have e2 : l.drop 3 = l.getD 3 default :: l.drop 4 := by
    rw [List.drop_eq_getElem_cons (show 3 < l.length by omega), List.getD_eq_getElem?_getD, List.getElem?_eq_getElem (show 3 < l.length by omega), Option.getD_some]
  rw [← e2]
  exact (List.take_append_drop 3 _).symm

section
variable {V : Env}

theorem cells_iter (hG : GoodEnv V) {f : FuncId} {fn : Func} {nt rounds depth id0 id4 : Nat} {ops0 ops4 : Array Oper} {R1 K1 R2 R3 K2 R5 R6 : Code} {ap : Entry → Int → Option Int} {L : List Entry} {x0 lo hi : Int} {els : List (Int × Int)} {cl : Go.Call}
    (hf : V.P.funcs[f]? = some fn) (hbody : fn.body = some (.seq (.region id0 ops0 false) (.block 0 (.loop (.seq R1 (.seq K1 (.seq (.block 1 (.seq R2 (.seq R3 (.seq (.seq (.region id4 ops4 false) K2) R5)))) R6)))))))
    (hnt : fn.ntmps = nt) (hn30 : 30 ≤ nt) (hres : fn.results = #[]) (hels : cellsOf ap L x0 = some els)
    (h0 : ∀ yv x, opsK V (inlK V rounds depth) 1 nt ops0 ops0.toList ⟨[(2, .ptr 1 0), (0, .cst yv), (1, .cptr [.lst .entry L] 0), (3, .cptr [.i lo] 0), (4, .cptr [.i hi] 0)], [(1, .box [.i x])]⟩ (fun σ => some ([2, 0, 3, 4, 10, 11, 12].map (look σ.tm), look σ.ob 1)) =
      some ([.ptr 1 0, .cst yv, .cptr [.i lo] 0, .cptr [.i hi] 0, .lst .entry L, .i L.length, .i ((0 : Nat) : Int)], .box [.i x]))
    (hpre : ∀ yv x (i : Nat), cellsPre V (inlK V rounds depth) nt rounds R1 K1 R2 R3 ops4 ⟨[(2, .ptr 1 0), (0, .cst yv), (3, .cptr [.i lo] 0), (4, .cptr [.i hi] 0), (10, .lst .entry L), (11, .i L.length), (12, .i (i : Int))], [(1, .box [.i x])]⟩ =
      match L[i]? with
      | none => some (false, [.ptr 1 0], .box [.i x])
      | some e => match ap e x with
        | some y => some (true, [.cst yv, .i x, .i y, .i y, .ptr 1 0, .cst yv, .cptr [.i lo] 0, .cptr [.i hi] 0, .lst .entry L, .i L.length, .i (i : Int)], .box [.i x])
        | none => none)
    (hpost : ∀ yv x y (i : Nat), i < L.length → cellsPost V (inlK V rounds depth) nt rounds K2 R5 R6 ops4 ⟨[(2, .ptr 1 0), (28, .bool true), (8, .i y), (0, .cst yv), (3, .cptr [.i lo] 0), (4, .cptr [.i hi] 0), (10, .lst .entry L), (11, .i L.length), (12, .i (i : Int))], [(1, .box [.i x])]⟩ =
      some ([.ptr 1 0, .cst yv, .cptr [.i lo] 0, .cptr [.i hi] 0, .lst .entry L, .i L.length, .i ((i + 1 : Nat) : Int)], .box [.i y]))
    (hops : ops4.size = 5) (q3 : (ops4.toList.getD 3 default).op = .call cl) (h3c : cl.callee = .value (.tmp 25)) (h3a : cl.args = #[.tmp 26, .tmp 27]) (h3d : (ops4.toList.getD 3 default).dst = some 28) (h3g : (ops4.toList.getD 3 default).guard = none)
    {c : Cx} {u1 u3 u4 : Value} {pb : Nat} (hv1 : Mill.V c (.cptr [.lst .entry L] 0) u1) (hv3 : Mill.V c (.cptr [.i lo] 0) u3) (hv4 : Mill.V c (.cptr [.i hi] 0) u4) (hcell : ∃ e, c.w.heap[pb]? = some (.cells #[.int .i64 x0] e (0, 0))) (hpS : ¬ c.okb pb) :
    IterRunP V.P f #[u1, .pointer (some ⟨pb, 0, none⟩), u3, u4] (els.map fun p => #[.int .i64 p.1, .int .i64 p.2]) c.okb pb c.w := by
  intro l J W hg hpl hJ hY hJ0
  obtain ⟨S, hS⟩ : ∃ S, S = c.okb := ⟨_, rfl⟩
  rw [← hS] at hY hpS
  have hSx : ∀ b, S b → b ≠ pb := fun b hb e => hpS (e ▸ hb)
  have hpw : pb < c.w.heap.size := by obtain ⟨e, h⟩ := hcell; exact (Array.getElem?_eq_some_iff.1 h).1
  have hSW : ∀ b, S b → b < W.heap.size := fun b hb => by rw [hS] at hb; exact Nat.lt_of_lt_of_le hb.2.1 hg.size
  have hcellW : ∃ e, W.heap[pb]? = some (.cells #[.int .i64 x0] e (0, 0)) := by
    obtain ⟨e, h⟩ := hcell
    exact ⟨e, (hg.block pb hpw (fun x => x)).trans h⟩
  obtain ⟨yv, hyv⟩ : ∃ yv, yv = Value.func (.yield l) #[] #[] := ⟨_, rfl⟩
  have toW : ∀ {v : AV} {u : Value}, v.frozen = true → Mill.V c v u → Mill.V (bx S W) v u := fun hf h =>
    V_frozen (fun b hb => ⟨⟨Or.inl (by rw [hS]; exact hb), hSW b (by rw [hS]; exact hb), fun _ h => by cases h⟩, hg.block b hb.2.1 (fun x => x)⟩) _ _ hf h
  let tmI : Nat → List (Nat × AV) := fun i => [(0, .cst yv), (3, .cptr [.i lo] 0), (4, .cptr [.i hi] 0), (10, .lst .entry L), (11, .i L.length), (12, .i (i : Int))]
  have frI : ∀ i, ∀ p ∈ tmI i, p.2.frozen = true := by
    intro i p hp
    simp only [tmI, List.mem_cons, List.not_mem_nil, or_false] at hp
    rcases hp with rfl | rfl | rfl | rfl | rfl | rfl <;> rfl
  have hlen := cellsOf_length hels
  -- the end of a stretch
  have headOf : ∀ {U : Nat → Prop} {A B : World} {σ' : St} {a' : Act} {i : Nat} {x' : Int}, pb < A.heap.size → Holds (KJ A pb) (cutW A pb) (okX U A pb) nt [] σ' a' B →
      [2, 0, 3, 4, 10, 11, 12].map (look σ'.tm) = [.ptr 1 0, .cst yv, .cptr [.i lo] 0, .cptr [.i hi] 0, .lst .entry L, .i L.length, .i (i : Int)] → look σ'.ob 1 = .box [.i x'] →
      BareX (fun b => U b ∨ A.heap.size ≤ b ∧ b < B.heap.size) pb nt (tmI i) x' a' B ∧ Turned A B (fun k => k = pb) := by
    intro U A B σ' a' i x' hA hh hl ho
    simp only [List.map_cons, List.map_nil, List.cons.injEq, and_true] at hl
    obtain ⟨e2, e0, e3, e4, e10, e11, e12⟩ := hl
    refine toBareX hA (by omega) hh e2 ho fun q hq => ?_
    simp only [tmI, List.mem_cons, List.not_mem_nil, or_false] at hq
    rcases hq with rfl | rfl | rfl | rfl | rfl | rfl
    · exact ⟨by simp only; omega, e0, rfl⟩
    · exact ⟨by simp only; omega, e3, rfl⟩
    · exact ⟨by simp only; omega, e4, rfl⟩
    · exact ⟨by simp only; omega, e10, rfl⟩
    · exact ⟨by simp only; omega, e11, rfl⟩
    · exact ⟨by simp only; omega, e12, rfl⟩
  have ext : ∀ {T0 : Nat → Prop} {A B : World} {tm : List (Nat × AV)} {x' : Int} {a' : Act}, BareX (fun b => (S b ∨ T0 b) ∨ A.heap.size ≤ b ∧ b < B.heap.size) pb nt tm x' a' B → BareX (fun b => S b ∨ (T0 b ∨ A.heap.size ≤ b ∧ b < B.heap.size)) pb nt tm x' a' B := by
    intro T0 A B tm x' a' h
    have e : (fun b => (S b ∨ T0 b) ∨ A.heap.size ≤ b ∧ b < B.heap.size) = fun b => S b ∨ (T0 b ∨ A.heap.size ≤ b ∧ b < B.heap.size) := by funext b; rw [or_assoc]
    rw [e] at h
    exact h
  -- the set that is kept: below the end, and without the variable
  have extlt : ∀ {T0 : Nat → Prop} {A B : World}, (∀ b, S b ∨ T0 b → b < A.heap.size ∧ b ≠ pb) → pb < A.heap.size → Turned A B (fun k => k = pb) → ∀ b, S b ∨ (T0 b ∨ A.heap.size ≤ b ∧ b < B.heap.size) → b < B.heap.size ∧ b ≠ pb := by
    intro T0 A B h hA hg b hb
    have := hg.size
    rcases hb with hb | hb | hb
    · have := h b (.inl hb); exact ⟨by omega, this.2⟩
    · have := h b (.inr hb); exact ⟨by omega, this.2⟩
    · exact ⟨hb.2, by omega⟩
  let Rr : Ending → World → Prop := fun e B => (∃ v, e = .returned v) ∧ ∃ T, J (els.map fun p => #[Value.int .i64 p.1, Value.int .i64 p.2]).length T B
  let Q0 := bodyPost V.P fn Rr
  have fin : ∀ {a' : Act} {B : World}, a'.defers = [] → (∃ T, J els.length T B) → Q0 .normal a' B := by
    intro a' B hd hb
    refine ⟨hd, .tuple #[], by simp [results, hres], ⟨_, rfl⟩, ?_⟩
    rw [List.length_map]
    exact hb
  let C : Code := .seq R1 (.seq K1 (.seq (.block 1 (.seq R2 (.seq R3 (.seq (.seq (.region id4 ops4 false) K2) R5)))) R6))
  have round : ∀ (i : Nat) (T0 : Nat → Prop) (xi : Int) (a : Act) (B : World), i ≤ L.length → cellsOf ap (L.drop i) xi = some (els.drop i) → BareX (fun b => S b ∨ T0 b) pb nt (tmI i) xi a B → J i T0 B → (∀ b, S b ∨ T0 b → b < B.heap.size ∧ b ≠ pb) →
      (i < L.length → ∀ (T1 : Nat → Prop) (x1 : Int) (a1 : Act) (B1 : World), cellsOf ap (L.drop (i + 1)) x1 = some (els.drop (i + 1)) → BareX (fun b => S b ∨ T1 b) pb nt (tmI (i + 1)) x1 a1 B1 → J (i + 1) T1 B1 → (∀ b, S b ∨ T1 b → b < B1.heap.size ∧ b ≠ pb) → loopIn none V.P C (Exit.inBlock 0 Q0) a1 B1) →
      loopIn none V.P C (Exit.inBlock 0 Q0) a B := by
    intro i T0 xi a B hiL hrest hb hJi hlt hnext
    have hpB : pb < B.heap.size := by obtain ⟨e, h⟩ := hb.cell; exact (Array.getElem?_eq_some_iff.1 h).1
    have hp := hpre yv xi i
    obtain ⟨rr, hrr⟩ : ∃ rr, (match L[i]? with
      | none => some (false, [.ptr 1 0], AV.box [.i xi])
      | some e => match ap e xi with
        | some y => some (true, [.cst yv, .i xi, .i y, .i y, .ptr 1 0, .cst yv, .cptr [.i lo] 0, .cptr [.i hi] 0, .lst .entry L, .i L.length, .i (i : Int)], AV.box [.i xi])
        | none => none : Option (Bool × List AV × AV)) = some rr := by
      cases hx : L[i]? with
      | none => exact ⟨_, rfl⟩
      | some e =>
        have hd : L.drop i = e :: L.drop (i + 1) := by
          obtain ⟨hl, hge⟩ := List.getElem?_eq_some_iff.1 hx
          rw [List.drop_eq_getElem_cons hl, hge]
        rw [hd] at hrest
        unfold cellsOf at hrest
        cases hap : ap e xi with
        | none => rw [hap] at hrest; cases hrest
        | some y => simp only [hap]; exact ⟨_, rfl⟩
    rw [hrr] at hp
    unfold cellsPre at hp
    refine loopIn_round (wpIn_seq (evK_okJ hG (KJ.stays B pb) (hb.holds (fun b h => (hlt b h).2) (frI i)) hp fun e1 σ1 a1 B1 hh1 h1 => ?_))
    cases e1 with
    | exit id => cases h1
    | goto id => cases h1
    | ret => cases h1
    | normal =>
    refine wpIn_seq (evK_okJ hG (KJ.stays B pb) hh1 h1 fun e2 σ2 a2 B2 hh2 h2 => ?_)
    cases e2 with
    | goto id => cases h2
    | ret => cases h2
    | exit id =>
      cases id with
      | succ id => cases h2
      | zero =>
        have h2 : some (false, [look σ2.tm 2], look σ2.ob 1) = some rr := h2
        have h2 := Option.some.inj h2
        cases hx : L[i]? with
        | some e =>
          rw [hx] at hrr
          simp only at hrr
          split at hrr
          · have hrr := Option.some.inj hrr
            rw [← h2] at hrr
            cases hrr
          · cases hrr
        | none =>
        rw [hx] at hrr
        have hrr := Option.some.inj hrr
        rw [← h2] at hrr
        simp only [Prod.mk.injEq, List.cons.injEq, and_true, true_and] at hrr
        have hiE : i = L.length := by
          have := List.getElem?_eq_none_iff.1 hx
          omega
        obtain ⟨hbx, ht2⟩ := toBareX (tm := []) hpB (by omega) hh2 hrr.1.symm hrr.2.symm (fun p hp => by cases hp)
        have hJe := hJ _ _ _ _ hJi ht2
        show Exit.inBlock 0 Q0 (.exit 0) a2 B2
        refine fin hbx.defers ⟨fun b => T0 b ∨ B.heap.size ≤ b ∧ b < B2.heap.size, ?_⟩
        rw [hlen, ← hiE]
        exact hJe
    | normal =>
    refine wpIn_seq (wpIn_block (wpIn_seq (evK_okJ hG (KJ.stays B pb) hh2 h2 fun e3 σ3 a3 B3 hh3 h3 => ?_)))
    cases e3 with
    | exit id => cases h3
    | goto id => cases h3
    | ret => cases h3
    | normal =>
    refine wpIn_seq (evK_okJ hG (KJ.stays B pb) hh3 h3 fun e4 σ4 a4 B4 hh4 h4 => ?_)
    cases e4 with
    | exit id => cases h4
    | goto id => cases h4
    | ret => cases h4
    | normal =>
    refine wpIn_seq (wpIn_seq (wpIn_region_list ?_))
    have hsz : ops4.toList.length = 5 := by simpa using hops
    rw [four_split hsz]
    refine opsK_okT hG (inlK_ok hG depth) (KJ.stays B pb) _ hh4 h4 fun σ5 a5 B5 hh5 h5 => ?_
    have h5 := Option.some.inj h5
    cases hx : L[i]? with
    | none =>
      rw [hx] at hrr
      have hrr := Option.some.inj hrr
      rw [← hrr] at h5
      cases h5
    | some e =>
    have hilt : i < L.length := (List.getElem?_eq_some_iff.1 hx).1
    have hd : L.drop i = e :: L.drop (i + 1) := by
      obtain ⟨hl, hge⟩ := List.getElem?_eq_some_iff.1 hx
      rw [List.drop_eq_getElem_cons hl, hge]
    rw [hx] at hrr
    simp only at hrr
    cases hap : ap e xi with
    | none => rw [hap] at hrr; cases hrr
    | some y =>
    rw [hap] at hrr
    simp only at hrr
    have hrr := Option.some.inj hrr
    rw [← hrr] at h5
    simp only [Prod.mk.injEq, List.map_cons, List.map_nil, List.cons.injEq, and_true, true_and] at h5
    obtain ⟨⟨e25, e26, e27, e8, e2', e0, e3', e4', e10, e11, e12⟩, eo⟩ := h5
    have hnx : els[i]? = some (xi, y) ∧ cellsOf ap (L.drop (i + 1)) y = some (els.drop (i + 1)) := by
      rw [hd] at hrest
      unfold cellsOf at hrest
      rw [hap] at hrest
      simp only at hrest
      split at hrest
      case h_2 => cases hrest
      rename_i r hr
      have hrest := Option.some.inj hrest
      have h1 : els[i]? = some (xi, y) := by
        have : (els.drop i)[0]? = some (xi, y) := by rw [← hrest]; rfl
        rwa [List.getElem?_drop, Nat.add_zero] at this
      refine ⟨h1, ?_⟩
      have h2 : els.drop (i + 1) = r := by
        rw [← List.drop_drop, ← hrest]
        rfl
      rw [h2]
      exact hr
    obtain ⟨hb5, ht5⟩ := toBareX (tm := (8, .i y) :: tmI i) hpB (by omega) hh5 e2' eo (fun q hq => by
      simp only [tmI, List.mem_cons, List.not_mem_nil, or_false] at hq
      rcases hq with rfl | rfl | rfl | rfl | rfl | rfl | rfl
      · exact ⟨by simp only; omega, e8, rfl⟩
      · exact ⟨by simp only; omega, e0, rfl⟩
      · exact ⟨by simp only; omega, e3', rfl⟩
      · exact ⟨by simp only; omega, e4', rfl⟩
      · exact ⟨by simp only; omega, e10, rfl⟩
      · exact ⟨by simp only; omega, e11, rfl⟩
      · exact ⟨by simp only; omega, e12, rfl⟩)
    obtain ⟨T1, hT1⟩ : ∃ T1, T1 = fun b => T0 b ∨ B.heap.size ≤ b ∧ b < B5.heap.size := ⟨_, rfl⟩
    have hb5 : BareX (fun b => S b ∨ T1 b) pb nt ((8, .i y) :: tmI i) xi a5 B5 := by rw [hT1]; exact ext hb5
    have hlt5 : ∀ b, S b ∨ T1 b → b < B5.heap.size ∧ b ≠ pb := by rw [hT1]; exact extlt hlt hpB ht5
    have hJ5 : J i T1 B5 := by rw [hT1]; exact hJ _ _ _ _ hJi ht5
    obtain ⟨mu5, hr5, _⟩ := hh5
    have hv25 : a5.eval (.tmp 25) = .func (.yield l) #[] #[] := by
      have := hr5.tm 25 (by omega)
      rw [e25] at this
      have this : a5.tmps.getD 25 undef = yv := this
      rw [← hyv]
      exact this
    have hv26 : a5.eval (.tmp 26) = .int .i64 xi := by
      have := hr5.tm 26 (by omega)
      rw [e26] at this
      exact this
    have hv27 : a5.eval (.tmp 27) = .int .i64 y := by
      have := hr5.tm 27 (by omega)
      rw [e27] at this
      exact this
    rw [wpList_cons]
    refine wpOne_do (by unfold Region.wanted; rw [h3g]) (yield_wp2 q3 h3c h3a hv25 ?_)
    rw [hv26, hv27]
    obtain ⟨fy, ty, ay, by', hyr, hround⟩ := hY i #[.int .i64 xi, .int .i64 y] T1 B5 (by rw [List.getElem?_map, hnx.1]; rfl) hJ5
    refine ⟨fy, ty, ay, by', hyr, hround.mono fun en B6 he => ?_⟩
    obtain ⟨⟨rfl, hJ6⟩, hkeep⟩ := he
    refine ⟨_, rfl, ?_⟩
    have kept : ∀ b, ((S b ∨ T1 b) ∨ b = pb) → b < B5.heap.size → b < B6.heap.size := by
      intro b hb h1
      have e := hkeep b hb
      have h2 : B5.heap[b]? = some (B5.heap[b]'h1) := Array.getElem?_eq_getElem h1
      rw [h2] at e
      exact (Array.getElem?_eq_some_iff.1 e).1
    have hp5 : pb < B5.heap.size := by obtain ⟨e, h⟩ := hb5.cell; exact (Array.getElem?_eq_some_iff.1 h).1
    have hlt6 : ∀ b, S b ∨ T1 b → b < B6.heap.size ∧ b ≠ pb := fun b hb => ⟨kept b (.inl hb) (hlt5 b hb).1, (hlt5 b hb).2⟩
    have hb6 : BareX (fun b => S b ∨ T1 b) pb nt ((28, .bool true) :: (8, .i y) :: tmI i) xi (a5.put (ops4.toList.getD 3 default).dst (.bool true)) B6 := by
      rw [h3d]
      have get : ∀ t, t ≠ 28 → (a5.tmps.setIfInBounds 28 (.bool true)).getD t undef = a5.tmps.getD t undef := by
        intro t ht
        simp [Array.getD_eq_getD_getElem?, Array.getElem?_setIfInBounds_ne (Ne.symm ht)]
      refine ⟨hb5.defers, by show (a5.tmps.setIfInBounds 28 (.bool true)).size = nt; simp [hb5.size], hb5.two, fun z hz => ?_, ?_, ?_⟩
      · rcases List.mem_cons.1 hz with rfl | hz
        · refine ⟨by simp only; omega, ?_⟩
          show (a5.tmps.setIfInBounds 28 (.bool true)).getD 28 undef = .bool true
          have hs : 28 < a5.tmps.size := by rw [hb5.size]; omega
          simp [Array.getD, hs]
        · obtain ⟨k1, k2⟩ := hb5.val z hz
          refine ⟨k1, ?_⟩
          have hne : z.1 ≠ 28 := by
            simp only [tmI, List.mem_cons, List.not_mem_nil, or_false] at hz
            rcases hz with rfl | rfl | rfl | rfl | rfl | rfl | rfl <;> simp
          have hzf : z.2.frozen = true := by
            rcases List.mem_cons.1 hz with rfl | hz
            · rfl
            · exact frI i z hz
          have e : (a5.put (some 28) (.bool true)).tmps.getD z.1 undef = a5.tmps.getD z.1 undef := get z.1 hne
          rw [e]
          exact Bare.later (fun b hb => hkeep b (.inl hb)) (fun b hb => (hlt5 b hb).1) hzf k2
      · exact (get 2 (by decide)).trans hb5.ptr
      · obtain ⟨e, h⟩ := hb5.cell
        exact ⟨e, (hkeep pb (.inr rfl)).trans h⟩
    have hp6 : pb < B6.heap.size := kept pb (.inr rfl) hp5
    have hq := hpost yv xi y i hilt
    unfold cellsPost at hq
    refine opsK_ok hG (inlK_ok hG depth) (KJ.stays B6 pb) _ (hb6.holds (fun b h => (hlt6 b h).2) (fun p hp => by
      rcases List.mem_cons.1 hp with rfl | hp
      · rfl
      · rcases List.mem_cons.1 hp with rfl | hp
        · rfl
        · exact frI i p hp)) hq fun σ7 a7 B7 hh7 h7 => ?_
    refine evK_okJ hG (KJ.stays B6 pb) hh7 h7 fun e8 σ8 a8 B8 hh8 h8 => ?_
    cases e8 with
    | exit id => cases h8
    | goto id => cases h8
    | ret => cases h8
    | normal =>
    refine evK_okJ hG (KJ.stays B6 pb) hh8 h8 fun e9 σ9 a9 B9 hh9 h9 => ?_
    cases e9 with
    | exit id => cases h9
    | goto id => cases h9
    | ret => cases h9
    | normal =>
    refine evK_okJ hG (KJ.stays B6 pb) hh9 h9 fun e10 σ10 a10 B10 hh10 h10 => ?_
    cases e10 with
    | exit id => cases h10
    | goto id => cases h10
    | ret => cases h10
    | normal =>
    have h10 := Option.some.inj h10
    simp only [Prod.mk.injEq] at h10
    obtain ⟨hb10, ht10⟩ := headOf hp6 hh10 h10.1 h10.2
    exact hnext hilt _ y a10 B10 hnx.2 (ext hb10) (hJ _ _ _ _ hJ6 ht10) (extlt hlt6 hp6 ht10)
  have main : ∀ (n i : Nat) (T0 : Nat → Prop) (xi : Int) (a : Act) (B : World), i + n = L.length → cellsOf ap (L.drop i) xi = some (els.drop i) → BareX (fun b => S b ∨ T0 b) pb nt (tmI i) xi a B → J i T0 B → (∀ b, S b ∨ T0 b → b < B.heap.size ∧ b ≠ pb) →
      loopIn none V.P C (Exit.inBlock 0 Q0) a B := by
    intro n
    induction n with
    | zero => intro i T0 xi a B hin h0 h1 h2 h3; exact round i T0 xi a B (by omega) h0 h1 h2 h3 (fun h => by omega)
    | succ n ih => intro i T0 xi a B hin h0 h1 h2 h3; exact round i T0 xi a B (by omega) h0 h1 h2 h3 (fun _ T1 x1 a1 B1 k0 k1 k2 k3 => ih (i + 1) T1 x1 a1 B1 (by omega) k0 k1 k2 k3)
  refine calls_of_wp hf hbody (wpIn_wide.1 (?_ : Code.wpIn Fence.wide 0 V.P _ Q0 _ W))
  refine wpIn_seq (wpIn_region_list ?_)
  rw [hnt]
  have hpW : pb < W.heap.size := Nat.lt_of_lt_of_le hpw hg.size
  have hb0 : BareX S pb nt [(0, .cst yv), (1, .cptr [.lst .entry L] 0), (3, .cptr [.i lo] 0), (4, .cptr [.i hi] 0)] x0
      { tmps := (#[Value.func (.yield l) #[] #[]] ++ #[u1, .pointer (some ⟨pb, 0, none⟩), u3, u4]) ++ Array.replicate (nt - (#[Value.func (.yield l) #[] #[]] ++ #[u1, .pointer (some ⟨pb, 0, none⟩), u3, u4]).size) undef, defers := [] } W := by
    have get5 : ∀ (X : Array Value) (n t : Nat), t < X.size → (X ++ Array.replicate n undef).getD t undef = X.getD t undef := fun X n t ht => by
      rw [Array.getD_eq_getD_getElem?, Array.getElem?_append_left ht, Array.getD_eq_getD_getElem?]
    refine ⟨rfl, by simp; omega, by omega, fun p hp => ?_, by simp only; rw [get5 _ _ _ (by simp)]; rfl, hcellW⟩
    simp only [List.mem_cons, List.not_mem_nil, or_false] at hp
    rcases hp with rfl | rfl | rfl | rfl
    · exact ⟨by simp only; omega, by simp only; rw [get5 _ _ _ (by simp)]; exact hyv.symm⟩
    · exact ⟨by simp only; omega, by simp only; rw [get5 _ _ _ (by simp)]; exact toW rfl hv1⟩
    · exact ⟨by simp only; omega, by simp only; rw [get5 _ _ _ (by simp)]; exact toW rfl hv3⟩
    · exact ⟨by simp only; omega, by simp only; rw [get5 _ _ _ (by simp)]; exact toW rfl hv4⟩
  have hst := hb0.holds hSx (fun p hp => by
    simp only [List.mem_cons, List.not_mem_nil, or_false] at hp
    rcases hp with rfl | rfl | rfl | rfl <;> rfl)
  refine opsK_ok hG (inlK_ok hG depth) (KJ.stays W pb) _ hst (h0 yv x0) fun σ1 a1 B1 hh1 h1 => ?_
  have h1 := Option.some.inj h1
  simp only [Prod.mk.injEq] at h1
  obtain ⟨hb1, ht1⟩ := headOf hpW hh1 h1.1 h1.2
  refine wpIn_block (wp_of_loopIn ?_)
  have hJ1 := hJ _ _ _ _ hJ0 ht1
  refine main L.length 0 (fun b => False ∨ W.heap.size ≤ b ∧ b < B1.heap.size) x0 a1 B1 (by omega) (by simpa using hels) ?_ hJ1 (fun b hb => ?_)
  · have e : (fun b => S b ∨ (False ∨ W.heap.size ≤ b ∧ b < B1.heap.size)) = fun b => S b ∨ W.heap.size ≤ b ∧ b < B1.heap.size := by funext b; rw [false_or]
    rw [e]
    exact hb1
  · have := ht1.size
    rcases hb with hb | hb | hb
    · have := hSW b hb; exact ⟨by omega, hSx b hb⟩
    · exact hb.elim
    · exact ⟨hb.2, by omega⟩
end
end Go.Proofs.Mill
