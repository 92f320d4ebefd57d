/-
  A region whose order is drawn and that writes: what holds is told of which operations are done. Nothing of a program in sight.
-/
import Derived.Test.YtlkpkinmmjcbcaaL7
namespace Go.Mor
open Go.RowKit

def setB (ls : Nat → Bool) (i : Nat) : Nat → Bool := fun j => match Nat.beq j i with
  | true => true
  | false => ls j
def setV (vs : Nat → Value) (i : Nat) (v : Value) : Nat → Value := fun j => match Nat.beq j i with
  | true => v
  | false => vs j

def Closed (c : Code) (ls : Nat → Bool) : Prop := ∀ j, ls j = true → ∀ k, k ∈ predsOf c j → ls k = true

/-- Does the j-th operation come behind the i-th, whatever the order? -/
def reach (c : Code) : Nat → Nat → Nat → Bool
  | 0, _, _ => false
  | n + 1, j, i => memN (predsOf c j) i || (predsOf c j).any (fun k => reach c n k i)

theorem notyet {c : Code} {ls : Nat → Bool} (hc : Closed c ls) {i : Nat} (hi : ls i = false) : ∀ {n j : Nat}, reach c n j i = true → ls j = false
  | 0, j, h => by simp [reach] at h
  | n + 1, j, h => by
    cases hq : ls j with
    | false => rfl
    | true =>
      exfalso
      simp only [reach, Bool.or_eq_true, List.any_eq_true] at h
      rcases h with h | ⟨k, hk, h⟩
      · rw [hc j hq i (memN_iff.1 h)] at hi
        cases hi
      · have := notyet hc hi h
        rw [hc j hq k hk] at this
        cases this

theorem donebefore {c : Code} {ls : Nat → Bool} (hc : Closed c ls) {i : Nat} (hp : ∀ k, k ∈ predsOf c i → ls k = true) : ∀ {n j : Nat}, reach c n i j = true → ls j = true := by
  have key : ∀ {n i' j : Nat}, ls i' = true → reach c n i' j = true → ls j = true := by
    intro n
    induction n with
    | zero => intro i' j _ h; simp [reach] at h
    | succ n ih =>
      intro i' j hi h
      simp only [reach, Bool.or_eq_true, List.any_eq_true] at h
      rcases h with h | ⟨k, hk, h⟩
      · exact hc i' hi j (memN_iff.1 h)
      · exact ih (hc i' hi k hk) h
  intro n j h
  cases n with
  | zero => simp [reach] at h
  | succ n =>
    simp only [reach, Bool.or_eq_true, List.any_eq_true] at h
    rcases h with h | ⟨k, hk, h⟩
    · exact hp j (memN_iff.1 h)
    · exact key (hp k hk) h

def OpOKJ (P : Program) (c : Code) (Q : Exit → Act → World → Prop) (N : Nat) (env0 : Env) (sp : Nat → Spec) (J : (Nat → Bool) → (Nat → Value) → World → Prop) (i : Nat) : Prop :=
  ∀ (a : Act) (w : World) (ls : Nat → Bool) (vs : Nat → Value) (rest : Env), J ls vs w → ls i = false → Closed c ls → (∀ j, j ∈ predsOf c i → ls j = true ∧ (sp j).ok (vs j) w) → Fr a N (predE c i sp vs env0 ++ rest) →
    ∃ b, (∀ g, (coreAt c i).map (·.2.2.2) = some g → guardE c g (predE c i sp vs env0 ++ rest) = some b) ∧
      (b = true → From P (one c i) (fun a' w' => ∃ v, a' = a.put (dstAt c i) v ∧ (sp i).ok v w' ∧ J (setB ls i) (setV vs i v) w') Q 0 a w) ∧ (b = false → (sp i).ok undef w ∧ J (setB ls i) (setV vs i undef) w)

section
variable {P : Program} {c : Code} {K : Act → World → Prop} {Q : Exit → Act → World → Prop} {N : Nat} {env0 : Env} {sp : Nat → Spec} {J : (Nat → Bool) → (Nat → Value) → World → Prop}

/-- What is known while the region runs. -/
def KnownJ (c : Code) (N : Nat) (env0 : Env) (sp : Nat → Spec) (J : (Nat → Bool) → (Nat → Value) → World → Prop) (listed : Array Bool) (a : Act) (w : World) : Prop :=
  ∃ (ls : Nat → Bool) (vs : Nat → Value), (∀ j, j < listed.size → ls j = listed.getD j false) ∧ (∀ j, listed.size ≤ j → ls j = false) ∧ J ls vs w ∧ a.defers = [] ∧ a.tmps.size = N ∧ Closed c ls ∧
  (∀ j, ls j = true → (sp j).ok (vs j) w ∧ ∀ d, dstAt c j = some d → a.tmps[d]? = some (vs j)) ∧
  (∀ t v, (t, v) ∈ env0 → (∀ j, ls j = true → dstAt c j ≠ some t) → a.tmps[t]? = some v)

theorem drawJ_step (hd : dstsOk c = true) (hdn : ∀ i d, dstAt c i = some d → d < N) (hdet : ∀ j v w w', (sp j).ok v w → (sp j).ok v w') {i : Nat} (hi : OpOKJ P c Q N env0 sp J i)
    {listed : Array Bool} {a : Act} {w : World} (hn : listed.size = (opsOf c).size) (hr : i ∈ Region.ready .any (opsOf c) listed) (hk : KnownJ c N env0 sp J listed a w)
    {G : Act → World → Prop} (hG : ∀ a' w', KnownJ c N env0 sp J (listed.setIfInBounds i true) a' w' → G a' w') : wpOp P (opsOf c) (Exit.then K Q) i G a w := by
  obtain ⟨hlt, hnl, o, ho, hpre⟩ := ready_spec hr
  obtain ⟨ls, vs, hls, hls', hJ, hdef, hsz, hcl, hvs, hbase⟩ := hk
  have hnl' : ls i = false := by
    rw [hls i (by omega)]
    have : i < listed.size := by omega
    simp [Array.getD, this] at hnl ⊢
    exact hnl
  have hlts : ∀ j, ls j = true → j < listed.size := by
    intro j hj
    rcases Nat.lt_or_ge j listed.size with h | h
    · exact h
    · rw [hls' j h] at hj; cases hj
  have hpl : ∀ j, j ∈ predsOf c i → ls j = true := by
    intro j hj
    simp only [predsOf, ho, List.mem_map, List.mem_filter] at hj
    obtain ⟨e, ⟨he, hb⟩, rfl⟩ := hj
    have h1 := hpre e he hb
    have h2 : e.on < listed.size := by
      rcases Nat.lt_or_ge e.on listed.size with h | h
      · exact h
      · have h3 : ¬ (e.on < listed.size) := by omega
        simp [Array.getD, h3] at h1
    rw [hls _ h2]
    exact h1
  have hdi : dstAt c i = o.dst := by simp [dstAt, ho]
  have hF : Fr a N (predE c i sp vs env0 ++ []) := by
    refine ⟨hdef, hsz, fun t v hv => ?_⟩
    rw [List.append_nil] at hv
    rcases look_append hv with h1 | h1
    · obtain ⟨j, hj, hdj, rfl⟩ := look_vals h1
      obtain ⟨h2, h3⟩ := hvs j (hpl j hj)
      rw [Spec.val_ok h2]
      exact h3 t hdj
    · obtain ⟨h2, h3⟩ := base_spec h1
      refine hbase t v h2 (fun j hj hdj => ?_)
      have := hcl j hj i (h3 j hdj)
      rw [hnl'] at this
      cases this
  obtain ⟨b, hb, hrun, hskip⟩ := hi a w ls vs [] hJ hnl' hcl (fun j hj => ⟨hpl j hj, (hvs j (hpl j hj)).1⟩) hF
  have hcore : coreAt c i = some (o.dst, o.op, o.type, o.guard) := by simp [coreAt, ho]
  have hw := guard_ok (c := c) hF rfl (hb _ (by rw [hcore]; rfl))
  have hsi : ∀ j, setB ls i j = true → j = i ∨ ls j = true := by
    intro j hj
    simp only [setB] at hj
    cases hq : Nat.beq j i with
    | true => exact .inl (Nat.eq_of_beq_eq_true hq)
    | false => rw [hq] at hj; exact .inr hj
  have hsi' : ∀ j, ls j = true → setB ls i j = true := by
    intro j hj
    simp only [setB]
    cases hq : Nat.beq j i <;> simp [hj]
  have hsii : setB ls i i = true := by simp [setB]
  have hvi : setV vs i = fun v j => if j = i then v else vs j := by
    funext v j
    simp only [setV]
    cases hq : Nat.beq j i with
    | true => simp [Nat.eq_of_beq_eq_true hq]
    | false =>
      have : j ≠ i := fun e => by subst e; simp at hq
      simp [this]
  -- what is known behind it
  have next : ∀ v w', (sp i).ok v w' → J (setB ls i) (setV vs i v) w' → KnownJ c N env0 sp J (listed.setIfInBounds i true) (a.put o.dst v) w' := by
    intro v w' hv hJ'
    refine ⟨setB ls i, setV vs i v, ?_, ?_, hJ', by cases hdd : o.dst <;> simp [Act.put, hdef], by cases hdd : o.dst <;> simp [Act.put, hsz], ?_, ?_, ?_⟩
    · intro j hj
      have hj' : j < listed.size := by simpa using hj
      by_cases e : i = j
      · subst e
        rw [hsii]
        simp [Array.getD_eq_getD_getElem?, hj']
      · have hb : Nat.beq j i = false := by
          cases hq : Nat.beq j i with
          | false => rfl
          | true => exact absurd (Nat.eq_of_beq_eq_true hq).symm e
        simp only [setB, hb]
        rw [hls j hj']
        simp [Array.getD_eq_getD_getElem?, Array.getElem?_setIfInBounds_ne e]
    · intro j hj
      have hj' : listed.size ≤ j := by simpa using hj
      have hb : Nat.beq j i = false := by
        cases hq : Nat.beq j i with
        | false => rfl
        | true => have := Nat.eq_of_beq_eq_true hq; omega
      simp only [setB, hb]
      exact hls' j hj'
    · intro j hj k hk
      rcases hsi j hj with rfl | h1
      · exact hsi' k (hpl k hk)
      · exact hsi' k (hcl j h1 k hk)
    · intro j hj
      rw [hvi]
      rcases hsi j hj with rfl | h1
      · refine ⟨by simpa using hv, fun d hdj => ?_⟩
        rw [hdi] at hdj
        simp only [hdj, Act.put, if_true]
        have := hdn j d (by rw [hdi]; exact hdj)
        rw [Array.getElem?_setIfInBounds_self_of_lt (by omega)]
      · have hne : j ≠ i := fun e => by subst e; rw [hnl'] at h1; cases h1
        obtain ⟨h2, h3⟩ := hvs j h1
        refine ⟨by simpa [hne] using hdet j _ _ _ h2, fun d hdj => ?_⟩
        simp only [hne, if_false]
        cases hdd : o.dst with
        | none => exact h3 d hdj
        | some d' =>
          simp only [Act.put]
          have : d' ≠ d := fun e => by
            subst e
            exact hne (dsts_ne hd hdj (by rw [hdi]; exact hdd))
          rw [Array.getElem?_setIfInBounds_ne this]
          exact h3 d hdj
    · intro t u htu hj
      have h1 := hbase t u htu (fun j hj' => hj j (hsi' j hj'))
      cases hdd : o.dst with
      | none => exact h1
      | some d' =>
        simp only [Act.put]
        have : d' ≠ t := fun e => by
          subst e
          exact hj i hsii (by rw [hdi]; exact hdd)
        rw [Array.getElem?_setIfInBounds_ne this]
        exact h1
  unfold wpOp
  rw [ho]
  simp only []
  rw [hw]
  cases b with
  | false =>
    simp only [Bool.false_eq_true, if_false]
    obtain ⟨h1, h2⟩ := hskip rfl
    exact hG _ _ (next undef w h1 h2)
  | true =>
    simp only [if_true]
    have h1 := hrun rfl
    unfold From at h1
    rw [one_core ho] at h1
    simp only [List.drop_zero] at h1
    unfold wpList at h1
    rw [if_pos (by simp [Region.wanted])] at h1
    rcases h1 with h1 | ⟨h1, h2⟩
    · refine .inl ?_
      have h3 : o.wp P a w (fun a' w' => ∃ v, a' = a.put (dstAt c i) v ∧ (sp i).ok v w' ∧ J (setB ls i) (setV vs i v) w') (Exit.then K Q) := by
        have this : o.wp P a w (fun a' w' => ∃ v, a' = a.put (dstAt c i) v ∧ (sp i).ok v w' ∧ J (setB ls i) (setV vs i v) w') (Exit.then (fun a' w' => ∃ v, a' = a.put (dstAt c i) v ∧ (sp i).ok v w' ∧ J (setB ls i) (setV vs i v) w') Q) := h1
        unfold Oper.wp at this ⊢
        generalize (execOp a.eval o).run P w = r at *
        cases r with
        | ok n w' =>
          cases n <;> simp only [Oper.upon] at this ⊢ <;> first
            | exact this
            | exact Calls.mono this (fun e w'' he => by cases e <;> exact he)
        | halt x w' => cases x <;> simp only [Oper.upon] at this ⊢ <;> exact this
      refine Oper.wp_mono ?_ h3
      rintro a' w' ⟨v, rfl, hv, hJv⟩
      rw [hdi]
      exact hG _ _ (next v w' hv hJv)
    · refine .inr ⟨h1, ?_⟩
      obtain ⟨a0, w0, h0⟩ := h2
      exact ⟨a0, w0, h0⟩

theorem drawJ_all (hd : dstsOk c = true) (hdn : ∀ i d, dstAt c i = some d → d < N) (hdet : ∀ j v w w', (sp j).ok v w → (sp j).ok v w') (hpl : predsLt c = true) (hops : ∀ i, i < (opsOf c).size → OpOKJ P c Q N env0 sp J i)
    (hend : ∀ a w, (∀ listed : Array Bool, listed.size = (opsOf c).size → (∀ j, j < (opsOf c).size → listed.getD j false = true) → KnownJ c N env0 sp J listed a w → K a w)) :
    ∀ (fuel : Nat) (listed : Array Bool) (a : Act) (w : World), listed.size = (opsOf c).size → ((List.range (opsOf c).size).filter (fun j => !listed.getD j false)).length ≤ fuel → KnownJ c N env0 sp J listed a w →
      wpAny P .any (opsOf c) (Exit.then K Q) fuel listed a w := by
  have none_ready : ∀ listed : Array Bool, listed.size = (opsOf c).size → Region.ready .any (opsOf c) listed = [] → ∀ j, j < (opsOf c).size → listed.getD j false = true := by
    intro listed hsz hr j
    induction j using Nat.strongRecOn with
    | _ j ih =>
      intro hj
      cases hq : listed.getD j false with
      | true => rfl
      | false =>
        exfalso
        have : j ∈ Region.ready .any (opsOf c) listed := by
          simp only [Region.ready, List.mem_filter, List.mem_range, Bool.and_eq_true, Bool.not_eq_true']
          have hjl : j < listed.size := by omega
          refine ⟨hj, ?_, ?_⟩
          · simp [Array.getD, hjl] at hq ⊢
            exact hq
          · have ho : (opsOf c)[j]? = some (opsOf c)[j] := by simp [hj]
            simp only [ho, Option.map_some, Option.getD_some]
            rw [Array.all_eq_true_iff_forall_mem]
            intro e he
            cases hb : Region.binds .any e with
            | false => rfl
            | true =>
              have hmem : e.on ∈ predsOf c j := by
                simp only [predsOf, ho, List.mem_map, List.mem_filter]
                exact ⟨e, ⟨Array.mem_toList_iff.2 he, hb⟩, rfl⟩
              have hlt : e.on < j := by
                simp only [predsLt, List.all_eq_true, List.mem_range] at hpl
                have := hpl j hj e.on hmem
                simpa [Nat.blt_eq] using this
              simp [ih e.on hlt (by omega)]
        rw [hr] at this
        simp at this
  intro fuel
  induction fuel with
  | zero =>
    intro listed a w hsz hf hk
    have hall : ∀ j, j < (opsOf c).size → listed.getD j false = true := by
      intro j hj
      cases hq : listed.getD j false with
      | true => rfl
      | false =>
        have : j ∈ (List.range (opsOf c).size).filter (fun j => !listed.getD j false) := List.mem_filter.2 ⟨List.mem_range.2 hj, by rw [hq]; rfl⟩
        have := List.length_pos_of_mem this
        omega
    refine ⟨?_, hend a w listed hsz hall hk⟩
    cases hr : Region.ready .any (opsOf c) listed with
    | nil => rfl
    | cons i r =>
      exfalso
      have hi : i ∈ Region.ready .any (opsOf c) listed := by rw [hr]; simp
      obtain ⟨h1, h2, _⟩ := ready_spec hi
      have := hall i h1
      have hil : i < listed.size := by omega
      simp [Array.getD, hil] at h2 this
      rw [h2] at this
      cases this
  | succ fuel ih =>
    intro listed a w hsz hf hk
    refine ⟨fun hr => hend a w listed hsz (none_ready listed hsz hr) hk, fun i hi => ?_⟩
    obtain ⟨h1, h2, _⟩ := ready_spec hi
    refine drawJ_step hd hdn hdet (hops i h1) hsz hi hk (fun a' w' hk' => ?_)
    refine ih _ a' w' (by simpa using hsz) ?_ hk'
    have hil : i < listed.size := by omega
    have hni : listed.getD i false = false := by
      simp [Array.getD, hil] at h2 ⊢
      exact h2
    have hlt : ((List.range (opsOf c).size).filter (fun j => !(listed.setIfInBounds i true).getD j false)).length < ((List.range (opsOf c).size).filter (fun j => !listed.getD j false)).length := by
      have hsub : ((List.range (opsOf c).size).filter (fun j => !(listed.setIfInBounds i true).getD j false)) = ((List.range (opsOf c).size).filter (fun j => !listed.getD j false)).filter (fun j => !(Nat.beq j i)) := by
        rw [List.filter_filter]
        apply List.filter_congr
        intro j _
        by_cases e : i = j
        · subst e
          simp [Array.getD_eq_getD_getElem?, hil]
        · have hb : Nat.beq j i = false := by
            cases hq : Nat.beq j i with
            | false => rfl
            | true => exact absurd (Nat.eq_of_beq_eq_true hq).symm e
          simp [Array.getD_eq_getD_getElem?, Array.getElem?_setIfInBounds_ne e, hb]
      rw [hsub]
      have hmem : i ∈ (List.range (opsOf c).size).filter (fun j => !listed.getD j false) := List.mem_filter.2 ⟨List.mem_range.2 h1, by rw [hni]; rfl⟩
      refine List.length_filter_lt_length_iff_exists.2 ⟨i, hmem, by simp⟩
    omega

/-- A region that draws its order and writes. -/
theorem W_drawJ (hk : kind c = .region true) (hm : P.follows .mixedOrders = true) {a : Act} {wr : World} (sp : Nat → Spec) (J : (Nat → Bool) → (Nat → Value) → World → Prop) (hd : dstsOk c = true) (hpl : predsLt c = true) (hF : Fr a N env0) (hkeys : keysOk env0 = true)
    (hdn : (List.range (opsOf c).size).all (fun i => okd (dstAt c i) N) = true) (hdet : ∀ j v w w', (sp j).ok v w → (sp j).ok v w')
    (h0 : J (fun _ => false) (fun _ => undef) wr.drew)
    (hops : ∀ i, i < (opsOf c).size → OpOKJ P c Q N env0 sp J i)
    (h : ∀ a' w' (ls : Nat → Bool) (vs : Nat → Value), (∀ j, j < (opsOf c).size → ls j = true) → J ls vs w' → (∀ j, j < (opsOf c).size → (sp j).ok (vs j) w') → Fr a' N (valsE c sp vs (List.range (opsOf c).size) ++ restE c env0) → K a' w') : W P c K Q a wr := by
  have hdn' : ∀ i d, dstAt c i = some d → d < N := by
    intro i d hi
    have hlt : i < (opsOf c).size := by
      simp only [dstAt] at hi
      cases ho : (opsOf c)[i]? with
      | none => simp [ho] at hi
      | some o => exact (Array.getElem?_eq_some_iff.1 ho).1
    simp only [List.all_eq_true, List.mem_range] at hdn
    have := hdn i hlt
    rw [hi] at this
    simpa [okd, Nat.blt_eq] using this
  cases c <;> simp [kind] at hk
  rename_i id ops dr
  subst hk
  refine wp_region_any hm ?_
  have h1 : KnownJ (.region id ops true) N env0 sp J (Array.replicate ops.size false) a { wr with drawn := wr.drawn + 1 } := by
    refine ⟨fun _ => false, fun _ => undef, ?_, fun _ _ => rfl, h0, hF.defers, hF.size, (fun _ hj => absurd hj (by simp)), (fun _ hj => absurd hj (by simp)), fun t v htv _ => hF.slot t v (keys_look hkeys htv)⟩
    intro j hj
    simp at hj
    simp [Array.getD_eq_getD_getElem?, hj]
  refine drawJ_all (c := .region id ops true) hd hdn' hdet hpl hops ?_ ops.size _ a _ (by simp [opsOf]) ?_ h1
  · intro a' w' listed hsz hall hk
    obtain ⟨ls, vs, hls, _, hJ, hdef, hsz', _, hvs, hbase⟩ := hk
    have hlt : ∀ j, j < (opsOf (.region id ops true)).size → ls j = true := fun j hj => by rw [hls j (by omega)]; exact hall j hj
    refine h a' w' ls vs hlt hJ (fun j hj => (hvs j (hlt j hj)).1) ⟨hdef, hsz', fun t v hv => ?_⟩
    rcases look_append hv with h1 | h1
    · obtain ⟨j, hj, hdj, rfl⟩ := look_vals h1
      obtain ⟨h2, h3⟩ := hvs j (hlt j (List.mem_range.1 hj))
      rw [Spec.val_ok h2]
      exact h3 t hdj
    · obtain ⟨h2, h3⟩ := look_rest h1
      exact hbase t v h2 (fun j _ => h3 j)
  · refine Nat.le_trans (List.length_filter_le _ _) ?_
    simp [opsOf]
end

/-- A value of which the region's own word tells. -/
def Spec.free : Spec := .any (fun _ _ => True) (fun _ _ _ _ _ => trivial)
def detL : List Spec → Bool
  | [] => true
  | .det _ :: r => detL r
  | .any _ _ :: _ => false
theorem op_doneJ {c : Code} {i : Nat} {d : Option Nat} {a a' : Act} {w' : World} {v : Value} {s : Spec} {Z : Value → Prop} (hd : dstAt c i = d) (ea : a' = a.put d v) (h : s.ok v w') (hJ : Z v) :
    ∃ v, a' = a.put (dstAt c i) v ∧ s.ok v w' ∧ Z v := ⟨v, by rw [hd]; exact ea, h, hJ⟩
/-- Values told ahead, or told by the region's own word: no world turns them. -/
inductive Plain : List Spec → Prop where
  | nil : Plain []
  | det {v r} : Plain r → Plain (.det v :: r)
  | free {r} : Plain r → Plain (Spec.free :: r)
theorem plain_ok {l : List Spec} (h : Plain l) : ∀ (j : Nat) (v : Value) (w w' : World), (specAt l j).ok v w → (specAt l j).ok v w' := by
  induction h with
  | nil => intro j v w w' h; exact h
  | det _ ih =>
    intro j v w w' h
    cases j with
    | zero => exact h
    | succ j => exact ih j v w w' h
  | free _ ih =>
    intro j v w w' h
    cases j with
    | zero => exact h
    | succ j => exact ih j v w w' h

/-! ### two things as one -/
def Res.and (r s : Res) : Res where
  fp := fun g => r.fp g ∨ s.fp g
  holds w := r.holds w ∧ s.holds w
  stable h hw := ⟨r.stable (fun g hg => h g (.inl hg)) hw.1, s.stable (fun g hg => h g (.inr hg)) hw.2⟩
  lt hw hg := hg.elim (r.lt hw.1) (s.lt hw.2)
theorem Mem.init2 {w : World} {r s : Res} (hr : r.holds w) (hs : s.holds w) (ha : ∀ g, r.fp g → ¬ s.fp g) : Mem (r.and s).fp w w [r, s] := by
  refine ⟨rfl, rfl, rfl, Nat.le_refl _, fun _ _ _ => rfl, ?_, ?_⟩
  · intro q hq
    simp only [List.mem_cons, List.not_mem_nil, or_false] at hq
    rcases hq with rfl | rfl
    · exact ⟨hr, fun g hg => .inl (.inl hg)⟩
    · exact ⟨hs, fun g hg => .inl (.inr hg)⟩
  · refine List.pairwise_cons.2 ⟨?_, List.pairwise_singleton _ _⟩
    intro q hq
    simp only [List.mem_singleton] at hq
    subst hq
    exact ha
section
variable {S : Nat → Prop} {w0 w w' : World} {L : List Res}
theorem perm_front {α : Type} {L : List α} {i : Nat} {r : α} (hi : L[i]? = some r) : L.Perm (r :: L.eraseIdx i) := by
  induction L generalizing i with
  | nil => simp at hi
  | cons x L ih =>
    cases i with
    | zero => simp at hi; subst hi; simp
    | succ i =>
      simp at hi
      rw [List.eraseIdx_cons_succ]
      exact ((ih hi).cons x).trans (List.Perm.swap r x _)
/-- The i-th thing comes to the front. -/
theorem Mem.front (h : Mem S w0 w L) (i : Nat) {r : Res} (hi : L[i]? = some r) : Mem S w0 w (r :: L.eraseIdx i) := h.perm (perm_front hi)
theorem Mem.join {r s : Res} (h : Mem S w0 w (r :: s :: L)) : Mem S w0 w (r.and s :: L) := by
  have hp := List.pairwise_cons.1 h.apart
  have hq := List.pairwise_cons.1 hp.2
  refine ⟨h.os, h.tape, h.output, h.size, h.kept, ?_, List.pairwise_cons.2 ⟨?_, hq.2⟩⟩
  · intro q hq'
    rcases List.mem_cons.1 hq' with rfl | hq'
    · have h1 := h.own r (List.mem_cons_self ..)
      have h2 := h.own s (List.mem_cons_of_mem _ (List.mem_cons_self ..))
      exact ⟨⟨h1.1, h2.1⟩, fun g hg => hg.elim (h1.2 g) (h2.2 g)⟩
    · exact h.own q (List.mem_cons_of_mem _ (List.mem_cons_of_mem _ hq'))
  · intro q hq' g hg hg'
    rcases hg with hg | hg
    · exact hp.1 q (List.mem_cons_of_mem _ hq') g hg hg'
    · exact hq.1 q hq' g hg hg'
/-- A call that turns two things. -/
theorem Mem.mod2 {Lr : List Res} {r s r' s' : Res} (h : Mem S w0 w (r :: s :: L)) (h' : Mem (r.and s).fp w w' (r' :: s' :: Lr)) : Mem S w0 w' (r' :: s' :: (L ++ Lr)) := by
  have hp' := List.pairwise_cons.1 h'.apart
  have h1 := h.join.mod 0 rfl (r' := r') (Lr := s' :: Lr) h'
  simp only [List.set_cons_zero, List.cons_append] at h1
  refine h1.perm (List.Perm.cons r' ?_)
  exact List.perm_middle
end
end Go.Mor
