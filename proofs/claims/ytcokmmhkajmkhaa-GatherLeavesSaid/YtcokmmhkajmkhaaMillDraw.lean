/- Regions whose order is drawn. -/
import Derived.Test.YtcokmmhkajmkhaaMillBefore
set_option linter.all false
namespace Go.Proofs.Mill
variable {ds : List Deferred}
open Go.RowKit Go.CheckFast

section
variable {V : Env} {J : Cx → Prop} {w0 w : World} {ok : Nat → Prop} {nt fid n : Nat} {σ τ : St} {a : Act} {o : Oper} {v : AV} {ws : Wr} {ops : Array Oper}

theorem opRd_holds {K : Act → World → Prop} {Q : Exit → Act → World → Prop} (hG : GoodEnv V) (hJ : Stays J) (hh : Holds J w0 ok nt ds σ a w) (hd : dstOk nt o.dst = true)
    (h : (opRd V fid ops o).val σ = some (v, ws)) (hn : ∀ a' w', Holds J w0 ok nt ds (σ.put o.dst v ws) a' w' → K a' w') : wpOne V.P ops o Q K a w := by
  unfold wpOne
  have go : ∀ (h : (evVal V fid o).val σ = some (v, ws)), o.wp V.P a w K Q ∨ (o.asks V.P a w ∧ LetsOut Q) := fun h => .inl (evVal_holds hG hJ hh hd h hn)
  unfold opRd at h
  split at h
  · rename_i hg
    rw [if_pos (by simp [Region.wanted, hg])]
    exact go h
  · rename_i j want hg
    split at h
    · rename_i d hj
      simp only [Rd.val] at h
      change (match look σ.tm d with | .bool b => _ | .tup [] => _ | _ => _ : Rd (AV × Wr)).val σ = _ at h
      split at h
      · rename_i b hb
        obtain ⟨mu, hr, hj'⟩ := hh
        have hy := yielded_of hr hj hb
        cases hbw : b == want with
        | true =>
          rw [hbw] at h
          rw [if_pos (by simpa [Region.wanted, hg, hy] using hbw)]
          exact go h
        | false =>
          rw [hbw] at h
          rw [if_neg (by simpa [Region.wanted, hg, hy] using hbw)]
          have h2 := val_ret (show (Rd.ret (AV.tup [], ([] : Wr))).val σ = some (v, ws) from h)
          injection h2 with h2 h3
          subst h2 h3
          exact hn _ _ (Holds.skip ⟨mu, hr, hj'⟩ hd)
      · rename_i hb
        obtain ⟨mu, hr, hj'⟩ := hh
        have hy := yielded_skip hr hj hb
        rw [if_neg (by simp [Region.wanted, hg, hy])]
        have h2 := val_ret (show (Rd.ret (AV.tup [], ([] : Wr))).val σ = some (v, ws) from h)
        injection h2 with h2 h3
        subst h2 h3
        exact hn _ _ (Holds.skip ⟨mu, hr, hj'⟩ hd)
      · simp [Rd.val] at h
    · simp [Rd.val] at h

theorem Holds.drawn (hJ : Stays J) (hh : Holds J w0 ok nt ds σ a w) (d : Nat) : Holds J w0 ok nt ds σ a { w with drawn := d } := by
  obtain ⟨mu, hr, hj⟩ := hh
  have hm : Mono (cx w σ.ob mu ok) (cx { w with drawn := d } σ.ob mu ok) := mono_of (fun b hb => ⟨hb, rfl⟩) (fun id => .inr (.inr (.inl ⟨rfl, rfl, fun _ _ => rfl⟩)))
  refine ⟨mu, ⟨⟨fun id => (hr.mem.obj id).keep hm rfl rfl (fun _ _ => rfl), hr.mem.inj, hr.mem.base, ?_, hr.mem.okn⟩, fun t ht => hm.v _ _ (hr.tm t ht), hr.far, hr.size, hr.defers⟩, hJ _ _ hj hm⟩
  obtain ⟨h1, h2, h3, h4, h5⟩ := hr.mem.ext
  exact ⟨h1, h2, h3, h4, h5⟩

/-- What is listed. -/
def inSet (listed : Array Bool) (j : Nat) : Bool := listed.getD j false

theorem ready_spec {listed : Array Bool} (hs : listed.size = ops.size) {i : Nat} (h : i ∈ Region.ready .any ops listed) :
    i < ops.size ∧ inSet listed i = false ∧ ∃ o, ops[i]? = some o ∧ ∀ e ∈ o.after.toList, Region.binds .any e = true → inSet listed e.on = true := by
  unfold Region.ready at h
  simp only [List.mem_filter, List.mem_range, Bool.and_eq_true] at h
  obtain ⟨hi, h1, h2⟩ := h
  refine ⟨hi, ?_, ?_⟩
  · unfold inSet
    have hi' : i < listed.size := by omega
    rw [Array.getD_eq_getD_getElem?, Array.getElem?_eq_getElem hi'] at h1 ⊢
    simpa using h1
  · have hg : ops[i]? = some ops[i] := Array.getElem?_eq_getElem hi
    refine ⟨ops[i], hg, fun e he hb => ?_⟩
    rw [hg] at h2
    simp only [Option.map_some, Option.getD_some, Array.all_eq_true_iff_forall_mem] at h2
    have := h2 e (by simpa using he)
    rw [hb] at this
    simpa [inSet] using this

theorem ready_of {listed : Array Bool} (hs : listed.size = ops.size) {i : Nat} {o : Oper} (ho : ops[i]? = some o) (hn : inSet listed i = false)
    (he : ∀ e ∈ o.after.toList, Region.binds .any e = true → inSet listed e.on = true) : i ∈ Region.ready .any ops listed := by
  obtain ⟨hi, hg⟩ := Array.getElem?_eq_some_iff.1 ho
  unfold Region.ready
  simp only [List.mem_filter, List.mem_range, Bool.and_eq_true]
  refine ⟨hi, ?_, ?_⟩
  · unfold inSet at hn
    have hi' : i < listed.size := by omega
    rw [Array.getD_eq_getD_getElem?, Array.getElem?_eq_getElem hi'] at hn ⊢
    simpa using hn
  · rw [ho]
    simp only [Option.map_some, Option.getD_some, Array.all_eq_true_iff_forall_mem]
    intro e hem
    cases hb : Region.binds .any e with
    | false => simp
    | true => simpa [inSet] using he e (by simpa using hem) hb

theorem inSet_set (listed : Array Bool) {i : Nat} (hi : i < listed.size) (j : Nat) : inSet (listed.setIfInBounds i true) j = (inSet listed j || decide (j = i)) := by
  unfold inSet
  rw [Array.getD_eq_getD_getElem?, Array.getD_eq_getD_getElem?, Array.getElem?_setIfInBounds]
  by_cases h : i = j
  · subst h; simp [hi]
  · have : ¬ j = i := fun e => h e.symm
    simp [h, this]

theorem cnt_set (listed : Array Bool) {i : Nat} (hi : i < listed.size) (h : inSet listed i = false) : (listed.setIfInBounds i true).toList.count false + 1 = listed.toList.count false := by
  have hl : i < listed.toList.length := by simpa using hi
  have he : listed.toList[i] = false := by
    unfold inSet at h
    rw [Array.getD_eq_getD_getElem?, Array.getElem?_eq_getElem hi] at h
    simpa using h
  rw [Array.toList_setIfInBounds, List.count_set hl, he]
  have : 0 < listed.toList.count false := List.count_pos_iff.2 (he ▸ List.getElem_mem hl)
  have e : (true == false) = false := rfl
  rw [e]
  simp only [beq_self_eq_true, if_true, Bool.false_eq_true, if_false]
  omega

theorem cnt_zero {listed : Array Bool} (h : listed.toList.count false = 0) {j : Nat} (hj : j < listed.size) : inSet listed j = true := by
  rw [List.count_eq_zero] at h
  unfold inSet
  rw [Array.getD_eq_getD_getElem?, Array.getElem?_eq_getElem hj]
  cases hb : listed[j] with
  | true => rfl
  | false =>
    exfalso
    apply h
    rw [← hb]
    exact Array.mem_toList_iff.2 (Array.getElem_mem hj)

theorem cnt_pos {listed : Array Bool} {m : Nat} (h : listed.toList.count false = m + 1) : ∃ j, j < listed.size ∧ inSet listed j = false := by
  have : 0 < listed.toList.count false := by omega
  rw [List.count_pos_iff] at this
  obtain ⟨j, hj, hjv⟩ := List.getElem_of_mem this
  refine ⟨j, by simpa using hj, ?_⟩
  unfold inSet
  have hj' : j < listed.size := by simpa using hj
  rw [Array.getD_eq_getD_getElem?, Array.getElem?_eq_getElem hj']
  simpa using hjv

theorem inSet_lt {listed : Array Bool} {j : Nat} (h : inSet listed j = true) : j < listed.size := by
  apply Classical.byContradiction
  intro hn
  unfold inSet at h
  rw [Array.getD_eq_getD_getElem?, Array.getElem?_eq_none (by omega)] at h
  cases h

theorem wpOp_one {Q : Exit → Act → World → Prop} {K : Act → World → Prop} {i : Nat} (ho : ops[i]? = some o) (h : wpOne V.P ops o Q K a w) : wpOp V.P ops Q i K a w := by
  unfold wpOp
  rw [ho]
  exact h

/-- The rest, one by one. -/
theorem draw_tail {ρ : Type} {inl : Inl ρ} {k : St → Option ρ} {r : ρ} {Q : Exit → Act → World → Prop} (hG : GoodEnv V) (hI : InlOK V inl) (hJ : Stays J)
    (hback : backOk 0 ops.toList = true) (hwait : ∀ m, n ≤ m → m < ops.size → waitsAll (beforeL ops.toList 0 []) m = true)
    (hn : ∀ σ' a' w', Holds J w0 ok nt ds σ' a' w' → k σ' = some r → Q .normal a' w') :
    ∀ (fuel i : Nat) (listed : Array Bool) (σ : St) (a : Act) (w : World), n ≤ i → i ≤ ops.size → listed.size = ops.size → (∀ j, inSet listed j = decide (j < i)) → listed.toList.count false = fuel →
      Holds J w0 ok nt ds σ a w → opsK V inl fid nt ops (ops.toList.drop i) σ k = some r → wpAny V.P .any ops Q fuel listed a w := by
  intro fuel
  induction fuel with
  | zero =>
    intro i listed σ a w hni his hs hset hc hh h
    have hi : i = ops.size := by
      apply Classical.byContradiction
      intro hne
      have hlt : i < listed.size := by omega
      have := cnt_zero hc hlt
      rw [hset i] at this
      simp at this
    refine ⟨?_, ?_⟩
    · rw [List.eq_nil_iff_forall_not_mem]
      intro j hj
      obtain ⟨h1, h2, _⟩ := ready_spec hs hj
      have := cnt_zero hc (j := j) (by omega)
      rw [h2] at this
      cases this
    · rw [hi, List.drop_eq_nil_of_le (by simp)] at h
      exact hn _ _ _ hh h
  | succ fuel ih =>
    intro i listed σ a w hni his hs hset hc hh h
    have hi : i < ops.size := by
      apply Classical.byContradiction
      intro hne
      obtain ⟨j, hj, hjf⟩ := cnt_pos hc
      rw [hset j] at hjf
      have := of_decide_eq_false hjf
      omega
    have ho : ops[i]? = some ops[i] := Array.getElem?_eq_getElem hi
    have hnot : inSet listed i = false := by rw [hset i]; simp
    have hedges : EdgesIn ops (inSet listed) := by
      intro j o' hj hoj e he hb
      rw [hset] at hj ⊢
      have hj := of_decide_eq_true hj
      have := backOk_spec _ _ hback j o' (by simpa using hoj) e he hb
      simp; omega
    have hr : i ∈ Region.ready .any ops listed := by
      refine ready_of hs ho hnot fun e he hb => ?_
      have := backOk_spec _ _ hback i ops[i] (by simp [ho]) e he hb
      rw [hset]; simp; omega
    refine ⟨fun e => (by rw [e] at hr; cases hr), fun j hj => ?_⟩
    obtain ⟨h1, h2, oj, hoj, hej⟩ := ready_spec hs hj
    have hji : j = i := by
      apply Classical.byContradiction
      intro hne
      rw [hset j] at h2
      have h2 := of_decide_eq_false h2
      have hw := hwait j (by omega) h1
      have hb := List.all_eq_true.1 hw i (List.mem_range.2 (by omega))
      have := bef_done hedges j oj hoj hej i hb
      rw [hnot] at this
      cases this
    subst hji
    refine wpOp_one ho ?_
    have hd : ops.toList.drop j = ops[j] :: ops.toList.drop (j + 1) := by
      rw [List.drop_eq_getElem_cons (by simpa using hi)]
      simp
    rw [hd] at h
    refine opK_ok hG hI hJ hh h fun σ' a' w' hh' h' => ?_
    refine ih (j + 1) _ σ' a' w' (by omega) (by omega) (by simp [hs]) (fun m => ?_) ?_ hh' h'
    · rw [inSet_set _ (by omega), hset m]
      by_cases h1 : m < j
      · simp [h1]; omega
      · by_cases h2 : m = j
        · simp [h2]
        · have : ¬ m < j + 1 := by omega
          simp [h1, h2, this]
    · have := cnt_set listed (i := j) (by omega) hnot
      omega

/-- The first ones, in any order. -/
theorem draw_head {ρ : Type} {inl : Inl ρ} {k : St → Option ρ} {r : ρ} {Q : Exit → Act → World → Prop} {σ0 σn : St} {txs : List (Nat × Tx)} (hG : GoodEnv V) (hI : InlOK V inl) (hJ : Stays J)
    (hback : backOk 0 ops.toList = true) (hwait : ∀ m, n ≤ m → m < ops.size → waitsAll (beforeL ops.toList 0 []) m = true) (hns : n ≤ ops.size)
    (hrun : TxRun V fid nt ops (beforeL ops.toList 0 []) n σ0 txs) (hln : σn.like (app txs σ0)) (hk : opsK V inl fid nt ops (ops.toList.drop n) σn k = some r)
    (hn : ∀ σ' a' w', Holds J w0 ok nt ds σ' a' w' → k σ' = some r → Q .normal a' w') :
    ∀ (fuel : Nat) (listed : Array Bool) (a : Act) (w : World), listed.size = ops.size → EdgesIn ops (inSet listed) → (∀ j, inSet listed j = true → j < n) → listed.toList.count false = fuel →
      Holds J w0 ok nt ds (canon txs σ0 (inSet listed)) a w → wpAny V.P .any ops Q fuel listed a w := by
  intro fuel
  induction fuel with
  | zero =>
    intro listed a w hs hedges hlt hc hh
    refine draw_tail hG hI hJ hback hwait hn 0 n listed σn a w (Nat.le_refl _) hns hs (fun j => ?_) hc (hh.like ?_) hk
    · by_cases hj : j < n
      · rw [cnt_zero hc (by omega)]; simp [hj]
      · cases hb : inSet listed j with
        | false => simp [hj]
        | true => exact (hj (hlt j hb)).elim
    · have : txs.filter (fun p => inSet listed p.1) = txs := by
        rw [List.filter_eq_self]
        intro p hp
        obtain ⟨i, hi⟩ := List.getElem?_of_mem hp
        rw [hrun.idx i p hi]
        have := (List.getElem?_eq_some_iff.1 hi).1
        exact cnt_zero hc (by have := hrun.len; omega)
      unfold canon
      rw [this]
      exact hln.symm
  | succ fuel ih =>
    intro listed a w hs hedges hlt hc hh
    by_cases hall : ∀ j, j < n → inSet listed j = true
    · refine draw_tail hG hI hJ hback hwait hn (fuel + 1) n listed σn a w (Nat.le_refl _) hns hs (fun j => ?_) hc (hh.like ?_) hk
      · by_cases hj : j < n
        · rw [hall j hj]; simp [hj]
        · cases hb : inSet listed j with
          | false => simp [hj]
          | true => exact (hj (hlt j hb)).elim
      · have : txs.filter (fun p => inSet listed p.1) = txs := by
          rw [List.filter_eq_self]
          intro p hp
          obtain ⟨i, hi⟩ := List.getElem?_of_mem hp
          rw [hrun.idx i p hi]
          have := (List.getElem?_eq_some_iff.1 hi).1
          exact hall i (by have := hrun.len; omega)
        unfold canon
        rw [this]
        exact hln.symm
    · refine ⟨fun e => ?_, fun i hi => ?_⟩
      · exfalso
        have hex : ∃ j, j < n ∧ inSet listed j = false := by
          apply Classical.byContradiction
          intro hno
          apply hall
          intro j hj
          cases hb : inSet listed j with
          | true => rfl
          | false => exact (hno ⟨j, hj, hb⟩).elim
        have least : ∀ m, (∃ j, j < m ∧ inSet listed j = false) → ∃ j, inSet listed j = false ∧ (∀ i, i < j → inSet listed i = true) ∧ j < m := by
          intro m
          induction m with
          | zero => rintro ⟨j, hj, _⟩; omega
          | succ m ihm =>
            rintro ⟨j, hj, hjf⟩
            by_cases hlow : ∃ j, j < m ∧ inSet listed j = false
            · obtain ⟨j', h1, h2, h3⟩ := ihm hlow
              exact ⟨j', h1, h2, by omega⟩
            · refine ⟨m, ?_, fun i hi => ?_, by omega⟩
              · have : j = m := by
                  apply Classical.byContradiction
                  intro hne
                  exact hlow ⟨j, by omega, hjf⟩
                rw [← this]; exact hjf
              · cases hb : inSet listed i with
                | true => rfl
                | false => exact (hlow ⟨i, hi, hb⟩).elim
        obtain ⟨j, hjf, hbelow, hjn⟩ := least n hex
        have hjs : j < ops.size := by omega
        have hr : j ∈ Region.ready .any ops listed := ready_of hs (Array.getElem?_eq_getElem hjs) hjf fun e he hb =>
          hbelow _ (by have := backOk_spec _ _ hback j ops[j] (by simp [hjs]) e he hb; omega)
        rw [e] at hr
        cases hr
      · obtain ⟨h1, h2, o, ho, he⟩ := ready_spec hs hi
        have hbd := bef_done hedges i o ho he
        have hin : i < n := by
          apply Classical.byContradiction
          intro hnn
          apply hall
          intro j hj
          have hw := hwait i (by omega) h1
          exact hbd j (List.all_eq_true.1 hw j (List.mem_range.2 (by omega)))
        have hlen := hrun.len
        have hp : txs[i]? = some txs[i] := List.getElem?_eq_getElem (by omega)
        obtain ⟨o', ho', hd, hdst, hval⟩ := hrun.op i _ hp
        rw [ho] at ho'
        obtain rfl := Option.some.inj ho'
        have hv := hval (canon txs σ0 (inSet listed)) fun l hl => canon_reads hrun hedges.closed hp h2 hbd hl
        refine wpOp_one ho (opRd_holds hG hJ hh hd hv fun a' w' hh' => ?_)
        have hset : ∀ j, inSet (listed.setIfInBounds i true) j = (inSet listed j || decide (j = i)) := fun j => inSet_set _ (by omega) j
        refine ih _ a' w' (by simp [hs]) ?_ ?_ ?_ (hh'.like ?_)
        · intro j oj hj hoj e hem hb
          rw [hset] at hj ⊢
          simp only [Bool.or_eq_true, decide_eq_true_eq] at hj ⊢
          rcases hj with hj | hj
          · exact .inl (hedges j oj hj hoj e hem hb)
          · subst hj
            rw [ho] at hoj
            obtain rfl := Option.some.inj hoj
            exact .inl (he e hem hb)
        · intro j hj
          rw [hset] at hj
          simp only [Bool.or_eq_true, decide_eq_true_eq] at hj
          rcases hj with hj | hj
          · exact hlt j hj
          · omega
        · have := cnt_set listed (i := i) (by omega) h2
          omega
        · have := canon_step hrun hedges.closed hp h2 (S' := inSet (listed.setIfInBounds i true)) (fun j _ => hset j)
          unfold Tx.put at this
          rw [hdst] at this
          exact this

theorem regK_ok {ρ : Type} {inl : Inl ρ} {k : St → Option ρ} {r : ρ} {Q : Exit → Act → World → Prop} {id : Nat} {draw : Bool} (hG : GoodEnv V) (hI : InlOK V inl) (hJ : Stays J)
    (hh : Holds J w0 ok nt ds σ a w) (h : regK V inl fid nt ops draw σ k = some r) (hn : ∀ σ' a' w', Holds J w0 ok nt ds σ' a' w' → k σ' = some r → Q .normal a' w') : (Code.region id ops draw).wp V.P Q a w := by
  unfold regK at h
  cases draw with
  | false => exact wp_region_list (opsK_ok hG hI hJ _ hh h hn)
  | true =>
    simp only [cond_true] at h
    rw [forceL_eq, CheckFast.force_eq] at h
    cases hback : backOk 0 ops.toList with
    | false => rw [hback] at h; cases h
    | true =>
      rw [hback] at h
      simp only [cond_true] at h
      have hns : drawnLen (beforeL ops.toList 0 []) ops.toList.length ≤ ops.size := by
        have := drawnLen_le (beforeL ops.toList 0 []) ops.toList.length
        simpa using this
      have hwait : ∀ m, drawnLen (beforeL ops.toList 0 []) ops.toList.length ≤ m → m < ops.size → waitsAll (beforeL ops.toList 0 []) m = true :=
        fun m h1 h2 => drawnLen_spec _ _ m h1 (by simpa using h2)
      obtain ⟨txs, σn, hrun, hk, hln⟩ := txRun_of hns h
      have hnone : ∀ j, inSet (Array.replicate ops.size false) j = false := by
        intro j
        unfold inSet
        rw [Array.getD_eq_getD_getElem?, Array.getElem?_replicate]
        split <;> rfl
      refine wp_region_any hG.2.1 (draw_head hG hI hJ hback hwait hns hrun hln hk hn ops.size _ a _ (by simp) (fun j oj hj => by rw [hnone] at hj; cases hj)
        (fun j hj => by rw [hnone] at hj; cases hj) (by simp) ?_)
      have : txs.filter (fun p => inSet (Array.replicate ops.size false) p.1) = [] := by
        rw [List.filter_eq_nil_iff]
        intro p _
        rw [hnone]; simp
      unfold canon
      rw [this]
      exact hh.drawn hJ _

end
end Go.Proofs.Mill
