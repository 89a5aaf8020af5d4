/- Stores. -/
import Derived.Test.YtcokmmhkajmkhaaMillFreeze
set_option linter.all false
namespace Go.Proofs.Mill
open Go.RowKit

theorem cells_one {v : Value} (h : v.oneCell' = true) : v.cells = #[v] := by
  cases v <;> simp_all [Value.oneCell', Value.cells]

theorem V_cells {c : Cx} {x : AV} {v : Value} (h : V c x v) (hx : x.cells.all AV.one = true) : VL c x.cells v.cells.toList := by
  by_cases ha : ∃ cs, x = .agg cs
  · obtain ⟨cs, rfl⟩ := ha
    obtain ⟨vs, rfl, hv⟩ := h
    exact hv
  · have hc : x.cells = [x] := by
      cases x <;> first | rfl | exact (ha ⟨_, rfl⟩).elim
    rw [hc] at hx ⊢
    have h1 : x.one = true := by simpa using hx
    rw [cells_one (V_one h h1)]
    exact ⟨h, trivial⟩

theorem VL_one {c : Cx} : ∀ {xs : List AV} {vs : List Value}, VL c xs vs → xs.all AV.one = true → ∀ v ∈ vs, v.oneCell' = true
  | [], vs, h, _, v, hv => by rw [VL_nil h] at hv; cases hv
  | x :: xs, vs, h, hx, v, hv => by
    obtain ⟨u, us, rfl, h1, h2⟩ := VL_cons h
    simp only [List.all_cons, Bool.and_eq_true] at hx
    rcases List.mem_cons.1 hv with rfl | hv
    · exact V_one h1 hx.1
    · exact VL_one h2 hx.2 v hv

theorem run_storeAt {V : Env} {t : TypeId} {n b o : Nat} {xv : Value} {cur : Array Value} {e : TypeId} {w : World} (hs : sizeOf? V t = some n)
    (hn : xv.cells.size = n) (hh : w.heap[b]? = some (.cells cur e (0, 0))) (hl : o + n ≤ cur.size) (h1 : ∀ v ∈ xv.cells.toList, v.oneCell' = true) :
    (Instr.storeAt t (.pointer (some ⟨b, o, none⟩)) xv).run V.P w =
      .ok () (w.setRow b (cur.toList.take o ++ xv.cells.toList ++ cur.toList.drop (o + n)).toArray) := by
  obtain ⟨_, i, hi, rfl⟩ := info_size hs
  have hst := run_storeCells_at V.P b o e xv.cells.toList 0 cur w hh (by simpa [hn] using hl) h1
  simp only [Nat.add_zero, Array.length_toList, hn] at hst
  simp [Instr.storeAt, Instr.sureAddr, storeVar, sizeOf, typeInfo, hi, hn, hst]

theorem turned_setRow {w : World} {b : Nat} {cs : Array Value} {may : Nat → Prop} (h : may b) : Turned w (w.setRow b cs) may :=
  ⟨rfl, rfl, rfl, by simp, fun k _ hk => setRow_other w b k cs (fun e => hk (e ▸ h))⟩

theorem VL_splice {c : Cx} {cs vs : List AV} {cur us : List Value} {o : Nat} (h : VL c cs cur) (hv : VL c vs us) : VL c (splice cs o vs) (cur.take o ++ us ++ cur.drop (o + us.length)) := by
  unfold splice
  rw [hv.length]
  exact VL.append (VL.append (h.take o) hv) (h.drop _)

theorem splice_len {α : Type} {cs us : List α} {o : Nat} (h : o + us.length ≤ cs.length) : (cs.take o ++ us ++ cs.drop (o + us.length)).length = cs.length := by
  simp; omega

theorem flatten_div (τ : Ty) (xs : List τ.den) (j : Nat) (h : j < xs.length * τ.sz) :
    ∃ i k x, j = i * τ.sz + k ∧ k < τ.sz ∧ i < xs.length ∧ xs[i]? = some x ∧ (xs.map τ.enc).flatten[j]? = (τ.enc x)[k]? := by
  have hp := τ.sz_pos
  have hi : j / τ.sz < xs.length := by
    rw [Nat.div_lt_iff_lt_mul hp]; exact h
  refine ⟨j / τ.sz, j % τ.sz, xs[j / τ.sz], ?_, Nat.mod_lt _ hp, hi, by simp [hi], ?_⟩
  · have := Nat.div_add_mod j τ.sz
    rw [Nat.mul_comm] at this
    omega
  · have h1 := flatten_seg τ xs (j / τ.sz) (j % τ.sz) xs[j / τ.sz] (by simp [hi]) (Nat.mod_lt _ hp)
    rw [← h1]
    congr 1
    have := Nat.div_add_mod j τ.sz
    rw [Nat.mul_comm] at this
    omega

/-- A row of which one element is turned. -/
theorem DVs_set {c c' : Cx} (hm : ∀ d v, c.DV d v → c'.DV d v) {τ : Ty} {xs : List τ.den} {cur cur' : List Value} {i : Nat} {y : τ.den} (hi : i < xs.length)
    (h : c.DVs (xs.map τ.enc).flatten (cur.take (xs.length * τ.sz))) (hl : cur'.length = cur.length) (hcap : xs.length * τ.sz ≤ cur.length)
    (hsame : ∀ j, j < i * τ.sz ∨ (i + 1) * τ.sz ≤ j → cur'[j]? = cur[j]?)
    (hnew : c'.DVs (τ.enc y) ((cur'.drop (i * τ.sz)).take τ.sz)) : c'.DVs ((xs.set i y).map τ.enc).flatten (cur'.take (xs.length * τ.sz)) := by
  refine Cx.DVs.mk ?_ ?_
  · rw [flatten_length, List.length_set, List.length_take]; omega
  · intro j d v hd hv
    have hj : j < (xs.set i y).length * τ.sz := by
      rcases Nat.lt_or_ge j ((xs.set i y).length * τ.sz) with h' | h'
      · exact h'
      · rw [List.getElem?_eq_none (by rw [flatten_length]; exact h')] at hd; cases hd
    obtain ⟨i', k, x, rfl, hk, hi', hx, he⟩ := flatten_div τ (xs.set i y) j hj
    rw [he] at hd
    rw [List.getElem?_take] at hv
    split at hv
    case isFalse => cases hv
    by_cases hii : i' = i
    · subst hii
      rw [List.getElem?_set_self hi] at hx
      simp only [Option.some.injEq] at hx
      subst hx
      obtain ⟨u, hu, hdu⟩ := hnew.get k d hd
      rw [List.getElem?_take, if_pos hk, List.getElem?_drop] at hu
      obtain rfl := Option.some.inj (hu.symm.trans hv)
      exact hdu
    · rw [List.getElem?_set_ne (Ne.symm hii)] at hx
      have hi2 : i' < xs.length := by
        rw [List.length_set] at hi'; exact hi'
      have hd2 : (xs.map τ.enc).flatten[i' * τ.sz + k]? = some d := by rw [flatten_seg τ xs i' k x hx hk]; exact hd
      obtain ⟨u, hu, hdu⟩ := h.get _ d hd2
      have hlt := (List.getElem?_eq_some_iff.1 hd2).1
      rw [flatten_length] at hlt
      rw [List.getElem?_take, if_pos hlt] at hu
      have : i' * τ.sz + k < i * τ.sz ∨ (i + 1) * τ.sz ≤ i' * τ.sz + k := by
        rcases Nat.lt_or_gt_of_ne hii with h' | h'
        · left
          have : (i' + 1) * τ.sz ≤ i * τ.sz := Nat.mul_le_mul_right _ h'
          rw [Nat.add_mul] at this
          omega
        · right
          have : (i + 1) * τ.sz ≤ i' * τ.sz := Nat.mul_le_mul_right _ h'
          omega
      have h3 := hu.symm.trans ((hsame _ this).symm.trans hv)
      obtain rfl := Option.some.inj h3
      exact hm _ _ hdu

theorem row_seg {c : Cx} {τ : Ty} {xs : List τ.den} {cur : List Value} {i : Nat} {x : τ.den} (hx : xs[i]? = some x)
    (h : c.DVs (xs.map τ.enc).flatten (cur.take (xs.length * τ.sz))) : c.DVs (τ.enc x) ((cur.drop (i * τ.sz)).take τ.sz) := by
  have hi : i < xs.length := by
    rcases Nat.lt_or_ge i xs.length with h' | h'
    · exact h'
    · rw [List.getElem?_eq_none h'] at hx; cases hx
  have hlen := h.length
  rw [flatten_length, List.length_take] at hlen
  have hb : (i + 1) * τ.sz ≤ xs.length * τ.sz := Nat.mul_le_mul_right _ hi
  rw [Nat.add_mul] at hb
  refine Cx.DVs.mk (by rw [τ.enc_length, List.length_take, List.length_drop]; omega) fun j d v hd hv => ?_
  rw [List.getElem?_take] at hv
  split at hv
  case isFalse => cases hv
  rename_i hj
  rw [List.getElem?_drop] at hv
  obtain ⟨u, hu, hdu⟩ := h.get (i * τ.sz + j) d (by rw [flatten_seg τ xs i j x hx hj]; exact hd)
  rw [List.getElem?_take, if_pos (by omega)] at hu
  obtain rfl := Option.some.inj (hu.symm.trans hv)
  exact hdu

/-- A store. -/
theorem wrAt_ok {V : Env} {α : Type} {k : Wr → Rd α} {r : α} {t : TypeId} {p x : AV} {pv xv : Value} {σ : St} {w0 w : World} {mu : Nat → Option Nat} {ok : Nat → Prop}
    (h : (wrAt V t p x k).val σ = some r) (hm : Mem w0 (cx w σ.ob mu ok)) (hp : Mill.V (cx w σ.ob mu ok) p pv) (hx : Mill.V (cx w σ.ob mu ok) x xv) :
    ∃ ws w', (k ws).val σ = some r ∧ (Instr.storeAt t pv xv).run V.P w = .ok () w' ∧
      ∃ mu', Mem w0 (cx w' (appOb ws σ.ob) mu' ok) ∧ Mono (cx w σ.ob mu ok) (cx w' (appOb ws σ.ob) mu' ok) := by
  unfold wrAt at h
  obtain ⟨n, hs, h⟩ := val_ofOpt h
  obtain ⟨hg, h⟩ := val_bif h
  simp only [Bool.and_eq_true] at hg
  obtain ⟨hg1, hg2⟩ := hg
  have hxl : x.cells.length = n := Nat.eq_of_beq_eq_true hg1
  have hxc := V_cells hx hg2
  have hone := VL_one hxc hg2
  have hxn : xv.cells.size = n := by
    have := hxc.length
    simp only [Array.length_toList] at this
    omega
  cases p with
  | ptr id off =>
    simp only [Rd.val] at h
    change PtrV _ id off pv at hp
    unfold PtrV at hp
    have ho := hm.obj id
    unfold ObjOK at ho
    change (match σ.get (.m id) with | .box cs => _ | _ => _ : Rd α).val σ = some r at h
    rw [show (cx w σ.ob mu ok).ob id = σ.get (.m id) from rfl] at hp ho
    cases hob : σ.get (.m id) <;> rw [hob] at h hp ho <;> try (simp [Rd.val] at h; done)
    case box cs =>
      obtain ⟨b, hb, rfl⟩ := hp
      obtain ⟨b', cur, e, hb', hh, hv⟩ := ho
      rw [hb] at hb'; cases hb'
      obtain ⟨hfit, h⟩ := val_bif h
      have hfit := Nat.le_of_ble_eq_true hfit
      have hcl := hv.length
      simp only [Array.length_toList] at hcl
      have hrun := run_storeAt (V := V) (t := t) (o := off) (xv := xv) hs hxn hh (by omega) hone
      refine ⟨_, _, val_bare h, hrun, mu, ?_⟩
      have hheap := setRow_heap w b cur (cur.toList.take off ++ xv.cells.toList ++ cur.toList.drop (off + n)).toArray e (0, 0) hh
      have hw := hm.write (w' := w.setRow b (cur.toList.take off ++ xv.cells.toList ++ cur.toList.drop (off + n)).toArray) (id := id) (b := b) (o := .box (splice cs off x.cells)) hb (turned_setRow rfl)
        (fun _ => .inr (.inr (.inr (.inl ⟨cs, _, hob, look_eq _ _ _, rfl⟩))))
      refine ⟨hw.2 ?_, hw.1⟩
      unfold ObjOK
      rw [show (cx (w.setRow b (cur.toList.take off ++ xv.cells.toList ++ cur.toList.drop (off + n)).toArray) ((id, AV.box (splice cs off x.cells)) :: σ.ob) mu ok).ob id = .box (splice cs off x.cells) from look_eq _ _ _]
      refine ⟨b, _, e, hb, hheap, ?_⟩
      have h2 := VL_splice (o := off) hv hxc
      rw [Array.length_toList, hxn] at h2
      exact hw.1.vl _ _ h2
  | eptr id i off =>
    simp only at h
    obtain ⟨vs, ws, h, hfz, hvl, hvone, hvs⟩ := dataCells_ok h
    simp only [Rd.val] at h
    change EptrV _ id i off pv at hp
    unfold EptrV at hp
    change (match σ.get (.m id) with | .row _ τ xs => _ | _ => _ : Rd α).val σ = some r at h
    rw [show (cx w σ.ob mu ok).ob id = σ.get (.m id) from rfl] at hp
    cases hob : σ.get (.m id) <;> rw [hob] at h hp <;> try (simp [Rd.val] at h; done)
    case row e τ xs =>
      obtain ⟨b, hb, rfl, hi⟩ := hp
      obtain ⟨hfit, h⟩ := val_bif h
      simp only [Bool.and_eq_true, List.all_eq_true] at hfit
      obtain ⟨hfit, hnot⟩ := hfit
      have hfit := Nat.le_of_ble_eq_true hfit
      obtain ⟨y, hy, h⟩ := val_ofOpt h
      obtain ⟨mu1, hm1, hmono1, hws, hothers⟩ := freezeAll hfz hm
      have hid := hothers id (fun q hq e => by
        have := hnot q hq
        rw [e] at this
        simp at this)
      have hb1 : mu1 id = some b := hid.2.trans hb
      have hob1 : look (appOb ws σ.ob) id = .row e τ xs := hid.1.trans hob
      have ho := hm1.obj id
      unfold ObjOK at ho
      rw [show (cx w (appOb ws σ.ob) mu1 ok).ob id = .row e τ xs from hob1] at ho
      rcases ho with ⟨hn, _⟩ | ⟨b', cap, cur, hb', hr, hl, hcm, hd⟩
      · have hn : mu1 id = none := hn
        rw [hb1] at hn; cases hn
      have hb' : mu1 id = some b' := hb'
      rw [hb1] at hb'; cases hb'
      have hv1 : VL (cx w (appOb ws σ.ob) mu1 ok) vs xv.cells.toList := hvs _ _ _ rfl hmono1 hws hxc
      have hbig : (i + 1) * τ.sz ≤ xs.length * τ.sz := Nat.mul_le_mul_right _ hi
      have hcap : xs.length * τ.sz ≤ cap * τ.sz := Nat.mul_le_mul_right _ hl
      rw [Nat.add_mul] at hbig
      have hsz : cur.size = cap * τ.sz := hr.2
      have hrun := run_storeAt (V := V) (t := t) (o := i * τ.sz + off) (xv := xv) hs hxn hr.1 (by omega) hone
      have hheap := setRow_heap w b cur (cur.toList.take (i * τ.sz + off) ++ xv.cells.toList ++ cur.toList.drop (i * τ.sz + off + n)).toArray e (0, 0) hr.1
      have hnsz : (cur.toList.take (i * τ.sz + off) ++ xv.cells.toList ++ cur.toList.drop (i * τ.sz + off + n)).length = cur.size := by
        simp only [List.length_append, List.length_take, List.length_drop, Array.length_toList]; omega
      have hw := hm1.write (w' := w.setRow b (cur.toList.take (i * τ.sz + off) ++ xv.cells.toList ++ cur.toList.drop (i * τ.sz + off + n)).toArray) (id := id) (b := b) (o := .row e τ (xs.set i y)) hb1 (turned_setRow rfl)
        (fun _ => .inr (.inr (.inr (.inr (.inl ⟨e, τ, xs, xs.set i y, hob1, look_eq _ _ _, by simp, rfl, fun b2 cap2 cur2 hb2 hr2 => by
          have hb2 : mu1 id = some b2 := hb2
          rw [hb1] at hb2; cases hb2
          refine ⟨_, hheap, ?_⟩
          have e1 := hr.1.symm.trans hr2.1
          simp only [Option.some.injEq, Obj.cells.injEq, and_true] at e1
          subst e1
          rw [List.size_toArray, hnsz]
          exact hr2.2⟩)))))
      refine ⟨_, _, h, hrun, mu1, ?_⟩
      rw [appOb_append]
      refine ⟨hw.2 ?_, hmono1.trans hw.1⟩
      unfold ObjOK
      rw [show (cx (w.setRow b (cur.toList.take (i * τ.sz + off) ++ xv.cells.toList ++ cur.toList.drop (i * τ.sz + off + n)).toArray) ((id, AV.row e τ (xs.set i y)) :: appOb ws σ.ob) mu1 ok).ob id = .row e τ (xs.set i y) from look_eq _ _ _]
      refine .inr ⟨b, cap, _, hb1, ⟨hheap, by rw [List.size_toArray, hnsz]; exact hsz⟩, by simpa using hl, hcm, ?_⟩
      rw [List.length_set]
      have hx0 := getD_of_lt xs τ.dflt i hi
      have hseg := V_of_DV τ _ (row_seg hx0 hd)
      have hspl := VL_splice (o := off) hseg hv1
      have hnew := decA_ok hy (hw.1.vl _ _ hspl)
      have hct : cur.toList.length = cur.size := Array.length_toList
      refine DVs_set hw.1.dv hi hd (hnsz.trans hct.symm) (by omega) ?_ ?_
      · intro j hj
        have hxt : xv.cells.toList.length = n := by rw [Array.length_toList]; exact hxn
        rcases hj with hj | hj
        · rw [List.append_assoc, List.getElem?_append_left (by simp only [List.length_take]; omega), List.getElem?_take, if_pos (by omega)]
        · rw [Nat.add_mul] at hj
          rw [List.getElem?_append_right (by simp only [List.length_append, List.length_take]; omega)]
          simp only [List.length_append, List.length_take, List.getElem?_drop]
          congr 1
          omega
      · have e2 : (((cur.toList.take (i * τ.sz + off) ++ xv.cells.toList ++ cur.toList.drop (i * τ.sz + off + n)).toArray.toList.drop (i * τ.sz)).take τ.sz) =
            ((cur.toList.drop (i * τ.sz)).take τ.sz).take off ++ xv.cells.toList ++ ((cur.toList.drop (i * τ.sz)).take τ.sz).drop (off + xv.cells.toList.length) := by
          rw [Array.length_toList, hxn]
          apply List.ext_getElem?
          intro j
          have hcs : cur.toList.length = cap * τ.sz := by rw [Array.length_toList]; exact hsz
          have hxs : xv.cells.toList.length = n := by rw [Array.length_toList]; exact hxn
          simp only [List.toList_toArray, List.getElem?_take, List.getElem?_drop, List.getElem?_append, List.length_append, List.length_take, List.length_drop, hcs, hxs]
          repeat' split
          all_goals first | rfl | (exfalso; omega) | (congr 1; omega) | omega
        rw [e2]
        exact hnew
  | _ => simp [Rd.val] at h

end Go.Proofs.Mill
