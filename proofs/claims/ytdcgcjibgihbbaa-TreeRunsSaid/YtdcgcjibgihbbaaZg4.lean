/-
  Texts of the proof, part 4.
-/
import Derived.Test.YtdcgcjibgihbbaaZg3
import Derived.Orders
set_option maxRecDepth 10000
namespace Go.Mor
open Go.RowKit
abbrev Kp (w w' : World) : Prop := Mem noS w w' []
theorem Kp.refl (w : World) : Kp w w := Mem.init w
theorem Kp.trans {a b c : World} (h : Kp a b) (h' : Kp b c) : Kp a c := by simpa using h.call h'
theorem Mem.then_ {S : Nat → Prop} {w0 w w' : World} {L : List Res} (h : Mem S w0 w L) (h' : Kp w w') : Mem S w0 w' L := by simpa using h.call h'
theorem Mem.cast {S : Nat → Prop} {w0 w : World} {L L' : List Res} (h : Mem S w0 w L) (e : L = L') : Mem S w0 w L' := e ▸ h
inductive Spec where
  | det (v : Value)
  | any (Φ : Value → World → Prop) (h : ∀ v w w', Kp w w' → Φ v w → Φ v w')
def Spec.ok : Spec → Value → World → Prop
  | .det u, v, _ => v = u
  | .any Φ _, v, w => Φ v w
def Spec.val : Spec → Value → Value
  | .det u, _ => u
  | .any _ _, v => v
theorem Spec.val_ok {s : Spec} {v : Value} {w : World} (h : s.ok v w) : s.val v = v := by
  cases s with
  | det u => exact h.symm
  | any Φ _ => rfl
theorem Spec.stable (s : Spec) (v : Value) (w w' : World) (hK : Kp w w') (h : s.ok v w) : s.ok v w' := by
  cases s with
  | det u => exact h
  | any Φ hs => exact hs v w w' hK h
def specAt : List Spec → Nat → Spec
  | [], _ => .det undef
  | s :: _, 0 => s
  | _ :: r, n + 1 => specAt r n
def dstAt (c : Code) (j : Nat) : Option Nat := ((opsOf c)[j]?).bind (·.dst)
def predsOf (c : Code) (i : Nat) : List Nat := match (opsOf c)[i]? with
  | some o => (o.after.toList.filter (fun e => Region.binds .any e)).map (·.on)
  | none => []
def memN : List Nat → Nat → Bool
  | [], _ => false
  | x :: r, t => match Nat.beq x t with
    | true => true
    | false => memN r t
theorem memN_iff {l : List Nat} {t : Nat} : memN l t = true ↔ t ∈ l := by
  induction l with
  | nil => simp [memN]
  | cons x r ih =>
    unfold memN
    cases hq : Nat.beq x t with
    | true => simp [Nat.eq_of_beq_eq_true hq]
    | false =>
      have hne : ¬ t = x := fun e => by subst e; simp at hq
      simp [ih, hne]
def freeAt (c : Code) (i t : Nat) : Nat → Bool
  | 0 => true
  | j + 1 => freeAt c i t j && (match dstAt c j with
    | some d => match Nat.beq d t with
      | true => memN (predsOf c j) i
      | false => true
    | none => true)
def baseE (c : Code) (i : Nat) : Env → Env
  | [] => []
  | (t, v) :: r => match freeAt c i t (opsOf c).size with
    | true => (t, v) :: baseE c i r
    | false => baseE c i r
def valsE (c : Code) (sp : Nat → Spec) (vs : Nat → Value) : List Nat → Env
  | [] => []
  | j :: r => match dstAt c j with
    | some d => (d, (sp j).val (vs j)) :: valsE c sp vs r
    | none => valsE c sp vs r
def predE (c : Code) (i : Nat) (sp : Nat → Spec) (vs : Nat → Value) (env0 : Env) : Env := valsE c sp vs (predsOf c i) ++ baseE c i env0
def one (c : Code) (i : Nat) : Code := match (opsOf c)[i]? with
  | some o => .region 0 #[{ o with guard := none }] false
  | none => .skip
def OpOK (P : Program) (c : Code) (Q : Exit → Act → World → Prop) (N : FN) (env0 : Env) (wr : World) (sp : Nat → Spec) (i : Nat) : Prop :=
  ∀ (a : Act) (w : World) (vs : Nat → Value) (rest : Env), Kp wr w → (∀ j, j ∈ predsOf c i → (sp j).ok (vs j) w) → Fr a N (predE c i sp vs env0 ++ rest) →
    ∃ b, (∀ g, (coreAt c i).map (·.2.2.2) = some g → guardE c g (predE c i sp vs env0 ++ rest) = some b) ∧
      (b = true → From P (one c i) (fun a' w' => ∃ v, a' = a.put (dstAt c i) v ∧ Kp w w' ∧ (sp i).ok v w') Q 0 a w) ∧ (b = false → (sp i).ok undef w)
def dstsOk (c : Code) : Bool := (List.range (opsOf c).size).all fun i => (List.range i).all fun j => match dstAt c i, dstAt c j with
  | some d, some e => !(Nat.beq d e)
  | _, _ => true
theorem dsts_ne {c : Code} (h : dstsOk c = true) {i j d : Nat} (hi : dstAt c i = some d) (hj : dstAt c j = some d) : i = j := by
  have lt : ∀ {k e}, dstAt c k = some e → k < (opsOf c).size := by
    intro k e hk
    simp only [dstAt] at hk
    cases ho : (opsOf c)[k]? with
    | none => simp [ho] at hk
    | some o => exact (Array.getElem?_eq_some_iff.1 ho).1
  have key : ∀ {i j d}, dstAt c i = some d → dstAt c j = some d → j < i → False := by
    intro i j d hi hj hlt
    simp only [dstsOk, List.all_eq_true, List.mem_range] at h
    have := h i (lt hi) j hlt
    simp [hi, hj] at this
  rcases Nat.lt_trichotomy i j with h1 | h1 | h1
  · exact (key hj hi h1).elim
  · exact h1
  · exact (key hi hj h1).elim
theorem look_append {E F : Env} {t : Nat} {v : Value} (h : look (E ++ F) t = some v) : look E t = some v ∨ look F t = some v := by
  induction E with
  | nil => exact .inr h
  | cons x r ih =>
    obtain ⟨k, u⟩ := x
    simp only [List.cons_append, look] at h ⊢
    cases hq : Nat.beq k t with
    | true => rw [hq] at h; exact .inl h
    | false => rw [hq] at h; exact ih h
theorem look_vals {c : Code} {sp : Nat → Spec} {vs : Nat → Value} {l : List Nat} {t : Nat} {v : Value} (h : look (valsE c sp vs l) t = some v) : ∃ j, j ∈ l ∧ dstAt c j = some t ∧ v = (sp j).val (vs j) := by
  induction l with
  | nil => simp [valsE, look] at h
  | cons j r ih =>
    unfold valsE at h
    cases hd : dstAt c j with
    | none =>
      rw [hd] at h
      obtain ⟨j', h1, h2⟩ := ih h
      exact ⟨j', List.mem_cons_of_mem _ h1, h2⟩
    | some d =>
      rw [hd] at h
      simp only [look] at h
      cases hq : Nat.beq d t with
      | true =>
        rw [hq] at h
        injection h with h
        have := Nat.eq_of_beq_eq_true hq
        subst this
        exact ⟨j, List.mem_cons_self .., hd, h.symm⟩
      | false =>
        rw [hq] at h
        obtain ⟨j', h1, h2⟩ := ih h
        exact ⟨j', List.mem_cons_of_mem _ h1, h2⟩
theorem free_spec {c : Code} {i t : Nat} : ∀ {n : Nat}, freeAt c i t n = true → ∀ j, j < n → dstAt c j = some t → i ∈ predsOf c j
  | 0, _, j, hj, _ => absurd hj (by omega)
  | n + 1, h, j, hj, hd => by
    simp only [freeAt, Bool.and_eq_true] at h
    by_cases e : j = n
    · subst e
      have h2 := h.2
      rw [hd] at h2
      simp at h2
      exact memN_iff.1 h2
    · exact free_spec h.1 j (by omega) hd
theorem base_spec {c : Code} {i : Nat} : ∀ {env : Env} {t : Nat} {v : Value}, look (baseE c i env) t = some v → (t, v) ∈ env ∧ ∀ j, dstAt c j = some t → i ∈ predsOf c j
  | [], t, v, h => by simp [baseE, look] at h
  | (k, u) :: r, t, v, h => by
    unfold baseE at h
    cases hf : freeAt c i k (opsOf c).size with
    | false =>
      rw [hf] at h
      obtain ⟨h1, h2⟩ := base_spec h
      exact ⟨List.mem_cons_of_mem _ h1, h2⟩
    | true =>
      rw [hf] at h
      simp only [look] at h
      cases hq : Nat.beq k t with
      | false =>
        rw [hq] at h
        obtain ⟨h1, h2⟩ := base_spec h
        exact ⟨List.mem_cons_of_mem _ h1, h2⟩
      | true =>
        rw [hq] at h
        injection h with h
        have := Nat.eq_of_beq_eq_true hq
        subst this
        subst h
        refine ⟨List.mem_cons_self .., fun j hj => free_spec hf j ?_ hj⟩
        simp only [dstAt] at hj
        cases ho : (opsOf c)[j]? with
        | none => simp [ho] at hj
        | some o => exact (Array.getElem?_eq_some_iff.1 ho).1
def keysOk : Env → Bool
  | [] => true
  | (k, _) :: r => !(memN (r.map (·.1)) k) && keysOk r
theorem keys_look : ∀ {env : Env}, keysOk env = true → ∀ {t : Nat} {v : Value}, (t, v) ∈ env → look env t = some v
  | [], _, t, v, h => by simp at h
  | (k, u) :: r, hk, t, v, h => by
    simp only [keysOk, Bool.and_eq_true, Bool.not_eq_true'] at hk
    simp only [look]
    rcases List.mem_cons.1 h with h | h
    · injection h with h1 h2
      subst h1
      subst h2
      simp
    · cases hq : Nat.beq k t with
      | false => exact keys_look hk.2 h
      | true =>
        have := Nat.eq_of_beq_eq_true hq
        subst this
        have hm : memN (r.map (·.1)) k = true := memN_iff.2 (List.mem_map.2 ⟨_, h, rfl⟩)
        rw [hm] at hk
        cases hk.1
def restE (c : Code) : Env → Env
  | [] => []
  | (t, v) :: r => match memN ((List.range (opsOf c).size).filterMap (dstAt c)) t with
    | true => restE c r
    | false => (t, v) :: restE c r
theorem look_rest {c : Code} : ∀ {env : Env} {t : Nat} {v : Value}, look (restE c env) t = some v → (t, v) ∈ env ∧ ∀ j, dstAt c j ≠ some t
  | [], t, v, h => by simp [restE, look] at h
  | (k, u) :: r, t, v, h => by
    unfold restE at h
    cases hm : memN ((List.range (opsOf c).size).filterMap (dstAt c)) k with
    | true =>
      rw [hm] at h
      obtain ⟨h1, h2⟩ := look_rest h
      exact ⟨List.mem_cons_of_mem _ h1, h2⟩
    | false =>
      rw [hm] at h
      simp only [look] at h
      cases hq : Nat.beq k t with
      | false =>
        rw [hq] at h
        obtain ⟨h1, h2⟩ := look_rest h
        exact ⟨List.mem_cons_of_mem _ h1, h2⟩
      | true =>
        rw [hq] at h
        injection h with h
        have := Nat.eq_of_beq_eq_true hq
        subst this
        subst h
        refine ⟨List.mem_cons_self .., fun j hj => ?_⟩
        have hlt : j < (opsOf c).size := by
          simp only [dstAt] at hj
          cases ho : (opsOf c)[j]? with
          | none => simp [ho] at hj
          | some o => exact (Array.getElem?_eq_some_iff.1 ho).1
        have : memN ((List.range (opsOf c).size).filterMap (dstAt c)) k = true := memN_iff.2 (List.mem_filterMap.2 ⟨j, List.mem_range.2 hlt, hj⟩)
        rw [this] at hm
        cases hm
def predsLt (c : Code) : Bool := (List.range (opsOf c).size).all fun i => (predsOf c i).all fun j => Nat.blt j i
section
variable {P : Program} {c : Code} {K : Act → World → Prop} {Q : Exit → Act → World → Prop} {N : FN} {env0 : Env} {wr : World} {sp : Nat → Spec}
def Known (c : Code) (N : FN) (env0 : Env) (wr : World) (sp : Nat → Spec) (listed : Array Bool) (a : Act) (w : World) : Prop :=
  Kp wr w ∧ a.defers = N.D ∧ a.tmps.size = N.n ∧ (∀ j, listed.getD j false = true → ∀ i, i ∈ predsOf c j → listed.getD i false = true) ∧
  (∃ vs : Nat → Value, ∀ j, listed.getD j false = true → (sp j).ok (vs j) w ∧ ∀ d, dstAt c j = some d → a.tmps[d]? = some (vs j)) ∧
  (∀ t v, (t, v) ∈ env0 → (∀ j, listed.getD j false = true → dstAt c j ≠ some t) → a.tmps[t]? = some v)
theorem one_core {i : Nat} {o : Oper} (ho : (opsOf c)[i]? = some o) : opsOf (one c i) = #[{ o with guard := none }] := by
  unfold one
  rw [ho]
  rfl
theorem ready_spec {ops : Array Oper} {listed : Array Bool} {i : Nat} (h : i ∈ Region.ready .any ops listed) : i < ops.size ∧ listed.getD i true = false ∧ ∃ o, ops[i]? = some o ∧ ∀ e, e ∈ o.after.toList → Region.binds .any e = true → listed.getD e.on false = true := by
  simp only [Region.ready, List.mem_filter, List.mem_range, Bool.and_eq_true, Bool.not_eq_true'] at h
  obtain ⟨h1, h2, h3⟩ := h
  refine ⟨h1, h2, ?_⟩
  cases ho : ops[i]? with
  | none => simp [ho] at h3
  | some o =>
    refine ⟨o, rfl, fun e he hb => ?_⟩
    simp only [ho, Option.map_some, Option.getD_some] at h3
    have h4 := (Array.all_eq_true_iff_forall_mem.1 h3) e (Array.mem_toList_iff.1 he)
    simpa [hb] using h4
theorem draw_step (hd : dstsOk c = true) (hdn : ∀ i d, dstAt c i = some d → d < N.n) {i : Nat} (hi : OpOK P c Q N env0 wr sp i)
    {listed : Array Bool} {a : Act} {w : World} (hn : listed.size = (opsOf c).size) (hr : i ∈ Region.ready .any (opsOf c) listed) (hk : Known c N env0 wr sp listed a w)
    {G : Act → World → Prop} (hG : ∀ a' w', Known c N env0 wr sp (listed.setIfInBounds i true) a' w' → G a' w') : wpOp P (opsOf c) (Exit.then K Q) i G a w := by
  obtain ⟨hlt, hnl, o, ho, hpre⟩ := ready_spec hr
  obtain ⟨hkp, hdef, hsz, hcl, ⟨vs, hvs⟩, hbase⟩ := hk
  have hnl' : listed.getD i false = false := by
    have : i < listed.size := by omega
    simp [Array.getD, this] at hnl ⊢
    exact hnl
  have hpl : ∀ j, j ∈ predsOf c i → listed.getD j false = true := by
    intro j hj
    simp only [predsOf, ho, List.mem_map, List.mem_filter] at hj
    obtain ⟨e, ⟨he, hb⟩, rfl⟩ := hj
    exact hpre e he hb
  have hdi : dstAt c i = o.dst := by simp [dstAt, ho]
  have hF : Fr a N (predE c i sp vs env0 ++ []) := by
    refine ⟨hdef, hsz, fun t v hv => ?_⟩
    rw [List.append_nil] at hv
    rcases look_append hv with h1 | h1
    · obtain ⟨j, hj, hdj, rfl⟩ := look_vals h1
      obtain ⟨h2, h3⟩ := hvs j (hpl j hj)
      rw [Spec.val_ok h2]
      exact h3 t hdj
    · obtain ⟨h2, h3⟩ := base_spec h1
      refine hbase t v h2 (fun j hj hdj => ?_)
      have := hcl j hj i (h3 j hdj)
      rw [hnl'] at this
      cases this
  obtain ⟨b, hb, hrun, hskip⟩ := hi a w vs [] hkp (fun j hj => (hvs j (hpl j hj)).1) hF
  have hcore : coreAt c i = some (o.dst, o.op, o.type, o.guard) := by simp [coreAt, ho]
  have hw := guard_ok (c := c) hF rfl (hb _ (by rw [hcore]; rfl))
  -- what is known behind it
  have next : ∀ v w', Kp w w' → (sp i).ok v w' → Known c N env0 wr sp (listed.setIfInBounds i true) (a.put o.dst v) w' := by
    intro v w' hkp' hv
    have hget : ∀ j, (listed.setIfInBounds i true).getD j false = true → j = i ∨ listed.getD j false = true := by
      intro j hj
      by_cases e : i = j
      · exact .inl e.symm
      · refine .inr ?_
        simpa [Array.getD_eq_getD_getElem?, Array.getElem?_setIfInBounds_ne e] using hj
    have hget' : ∀ j, listed.getD j false = true → (listed.setIfInBounds i true).getD j false = true := by
      intro j hj
      by_cases e : i = j
      · subst e
        have : i < listed.size := by omega
        simp [Array.getD_eq_getD_getElem?, this]
      · simpa [Array.getD_eq_getD_getElem?, Array.getElem?_setIfInBounds_ne e] using hj
    refine ⟨hkp.trans hkp', by cases hdd : o.dst <;> simp [Act.put, hdef], by cases hdd : o.dst <;> simp [Act.put, hsz], ?_, ⟨fun j => if j = i then v else vs j, ?_⟩, ?_⟩
    · intro j hj k hk
      rcases hget j hj with rfl | h1
      · exact hget' k (hpl k hk)
      · exact hget' k (hcl j h1 k hk)
    · intro j hj
      rcases hget j hj with rfl | h1
      · refine ⟨by simpa using hv, fun d hdj => ?_⟩
        rw [hdi] at hdj
        simp only [hdj, Act.put, if_true]
        have := hdn j d (by rw [hdi]; exact hdj)
        rw [Array.getElem?_setIfInBounds_self_of_lt (by omega)]
      · have hne : j ≠ i := fun e => by subst e; rw [hnl'] at h1; cases h1
        obtain ⟨h2, h3⟩ := hvs j h1
        refine ⟨by simpa [hne] using (sp j).stable _ _ _ hkp' h2, fun d hdj => ?_⟩
        simp only [hne, if_false]
        cases hdd : o.dst with
        | none => exact h3 d hdj
        | some d' =>
          simp only [Act.put]
          have : d' ≠ d := fun e => by
            subst e
            exact hne (dsts_ne hd hdj (by rw [hdi]; exact hdd))
          rw [Array.getElem?_setIfInBounds_ne this]
          exact h3 d hdj
    · intro t u htu hj
      have h1 := hbase t u htu (fun j hj' => hj j (hget' j hj'))
      cases hdd : o.dst with
      | none => exact h1
      | some d' =>
        simp only [Act.put]
        have : d' ≠ t := fun e => by
          subst e
          have hi' : (listed.setIfInBounds i true).getD i false = true := by
            have : i < listed.size := by omega
            simp [Array.getD_eq_getD_getElem?, this]
          exact hj i hi' (by rw [hdi]; exact hdd)
        rw [Array.getElem?_setIfInBounds_ne this]
        exact h1
  unfold wpOp
  rw [ho]
  simp only []
  rw [hw]
  cases b with
  | false =>
    simp only [Bool.false_eq_true, if_false]
    exact hG _ _ (next undef w (Kp.refl w) (hskip rfl))
  | true =>
    simp only [if_true]
    have h1 := hrun rfl
    unfold From at h1
    rw [one_core ho] at h1
    simp only [List.drop_zero] at h1
    unfold wpList at h1
    rw [if_pos (by simp [Region.wanted])] at h1
    rcases h1 with h1 | ⟨h1, h2⟩
    · refine .inl ?_
      have e1 : ∀ (K' : Act → World → Prop) (Q' : Exit → Act → World → Prop), ({ o with guard := none } : Oper).wp P a w K' Q' = o.wp P a w K' Q' := fun _ _ => rfl
      rw [e1] at h1
      -- the two posts part at the normal end alone
      have : o.wp P a w (fun a' w' => ∃ v, a' = a.put (dstAt c i) v ∧ Kp w w' ∧ (sp i).ok v w') (Exit.then (fun a' w' => ∃ v, a' = a.put (dstAt c i) v ∧ Kp w w' ∧ (sp i).ok v w') Q) := h1
      have h3 : o.wp P a w (fun a' w' => ∃ v, a' = a.put (dstAt c i) v ∧ Kp w w' ∧ (sp i).ok v w') (Exit.then K Q) := by
        unfold Oper.wp at this ⊢
        generalize (execOp a.eval o).run P w = r at *
        cases r with
        | ok n w' =>
          cases n <;> simp only [Oper.upon] at this ⊢ <;> first
            | exact this
            | exact Calls.mono this (fun e w'' he => by cases e <;> exact he)
        | halt x w' => cases x <;> simp only [Oper.upon] at this ⊢ <;> exact this
      refine Oper.wp_mono ?_ h3
      rintro a' w' ⟨v, rfl, hkv, hv⟩
      rw [hdi]
      exact hG _ _ (next v w' hkv hv)
    · refine .inr ⟨?_, ?_⟩
      · exact h1
      · obtain ⟨a0, w0, h0⟩ := h2
        exact ⟨a0, w0, h0⟩
theorem draw_all (hd : dstsOk c = true) (hdn : ∀ i d, dstAt c i = some d → d < N.n) (hpl : predsLt c = true) (hops : ∀ i, i < (opsOf c).size → OpOK P c Q N env0 wr sp i)
    (hend : ∀ a w, (∀ listed : Array Bool, (∀ j, j < (opsOf c).size → listed.getD j false = true) → Known c N env0 wr sp listed a w → K a w)) :
    ∀ (fuel : Nat) (listed : Array Bool) (a : Act) (w : World), listed.size = (opsOf c).size → ((List.range (opsOf c).size).filter (fun j => !listed.getD j false)).length ≤ fuel → Known c N env0 wr sp listed a w →
      wpAny P .any (opsOf c) (Exit.then K Q) fuel listed a w := by
  have none_ready : ∀ listed : Array Bool, listed.size = (opsOf c).size → Region.ready .any (opsOf c) listed = [] → ∀ j, j < (opsOf c).size → listed.getD j false = true := by
    intro listed hsz hr j
    induction j using Nat.strongRecOn with
    | _ j ih =>
      intro hj
      cases hq : listed.getD j false with
      | true => rfl
      | false =>
        exfalso
        have : j ∈ Region.ready .any (opsOf c) listed := by
          simp only [Region.ready, List.mem_filter, List.mem_range, Bool.and_eq_true, Bool.not_eq_true']
          have hjl : j < listed.size := by omega
          refine ⟨hj, ?_, ?_⟩
          · simp [Array.getD, hjl] at hq ⊢
            exact hq
          · have ho : (opsOf c)[j]? = some (opsOf c)[j] := by simp [hj]
            simp only [ho, Option.map_some, Option.getD_some]
            rw [Array.all_eq_true_iff_forall_mem]
            intro e he
            cases hb : Region.binds .any e with
            | false => rfl
            | true =>
              have hmem : e.on ∈ predsOf c j := by
                simp only [predsOf, ho, List.mem_map, List.mem_filter]
                exact ⟨e, ⟨Array.mem_toList_iff.2 he, hb⟩, rfl⟩
              have hlt : e.on < j := by
                simp only [predsLt, List.all_eq_true, List.mem_range] at hpl
                have := hpl j hj e.on hmem
                simpa [Nat.blt_eq] using this
              simp [ih e.on hlt (by omega)]
        rw [hr] at this
        simp at this
  intro fuel
  induction fuel with
  | zero =>
    intro listed a w hsz hf hk
    have hall : ∀ j, j < (opsOf c).size → listed.getD j false = true := by
      intro j hj
      cases hq : listed.getD j false with
      | true => rfl
      | false =>
        have : j ∈ (List.range (opsOf c).size).filter (fun j => !listed.getD j false) := List.mem_filter.2 ⟨List.mem_range.2 hj, by rw [hq]; rfl⟩
        have := List.length_pos_of_mem this
        omega
    refine ⟨?_, hend a w listed hall hk⟩
    cases hr : Region.ready .any (opsOf c) listed with
    | nil => rfl
    | cons i r =>
      exfalso
      have hi : i ∈ Region.ready .any (opsOf c) listed := by rw [hr]; simp
      obtain ⟨h1, h2, _⟩ := ready_spec hi
      have := hall i h1
      have hil : i < listed.size := by omega
      simp [Array.getD, hil] at h2 this
      rw [h2] at this
      cases this
  | succ fuel ih =>
    intro listed a w hsz hf hk
    refine ⟨fun hr => hend a w listed (none_ready listed hsz hr) hk, fun i hi => ?_⟩
    obtain ⟨h1, h2, _⟩ := ready_spec hi
    refine draw_step hd hdn (hops i h1) hsz hi hk (fun a' w' hk' => ?_)
    refine ih _ a' w' (by simpa using hsz) ?_ hk'
    -- one fewer is left
    have hil : i < listed.size := by omega
    have hni : listed.getD i false = false := by
      simp [Array.getD, hil] at h2 ⊢
      exact h2
    have hlt : ((List.range (opsOf c).size).filter (fun j => !(listed.setIfInBounds i true).getD j false)).length < ((List.range (opsOf c).size).filter (fun j => !listed.getD j false)).length := by
      have hsub : ((List.range (opsOf c).size).filter (fun j => !(listed.setIfInBounds i true).getD j false)) = ((List.range (opsOf c).size).filter (fun j => !listed.getD j false)).filter (fun j => !(Nat.beq j i)) := by
        rw [List.filter_filter]
        apply List.filter_congr
        intro j _
        by_cases e : i = j
        · subst e
          simp [Array.getD_eq_getD_getElem?, hil]
        · have hb : Nat.beq j i = false := by
            cases hq : Nat.beq j i with
            | false => rfl
            | true => exact absurd (Nat.eq_of_beq_eq_true hq).symm e
          simp [Array.getD_eq_getD_getElem?, Array.getElem?_setIfInBounds_ne e, hb]
      rw [hsub]
      have hmem : i ∈ (List.range (opsOf c).size).filter (fun j => !listed.getD j false) := List.mem_filter.2 ⟨List.mem_range.2 h1, by rw [hni]; rfl⟩
      refine List.length_filter_lt_length_iff_exists.2 ⟨i, hmem, by simp⟩
    omega
theorem W_draw (hk : kind c = .region true) (hm : P.follows .mixedOrders = true) {a : Act} (sp : Nat → Spec) (hd : dstsOk c = true) (hpl : predsLt c = true) (hF : Fr a N env0) (hkeys : keysOk env0 = true)
    (hdn : (List.range (opsOf c).size).all (fun i => okd (dstAt c i) N) = true)
    (hops : ∀ i, i < (opsOf c).size → OpOK P c Q N env0 wr sp i)
    (h : ∀ a' w' (vs : Nat → Value), Kp wr w' → (∀ j, j < (opsOf c).size → (sp j).ok (vs j) w') → Fr a' N (valsE c sp vs (List.range (opsOf c).size) ++ restE c env0) → K a' w') : W P c K Q a wr := by
  have hdn' : ∀ i d, dstAt c i = some d → d < N.n := by
    intro i d hi
    have hlt : i < (opsOf c).size := by
      simp only [dstAt] at hi
      cases ho : (opsOf c)[i]? with
      | none => simp [ho] at hi
      | some o => exact (Array.getElem?_eq_some_iff.1 ho).1
    simp only [List.all_eq_true, List.mem_range] at hdn
    have := hdn i hlt
    rw [hi] at this
    simpa [okd, Nat.blt_eq] using this
  cases c <;> simp [kind] at hk
  rename_i id ops dr
  subst hk
  refine wp_region_any hm ?_
  have h0 : Known (.region id ops true) N env0 wr sp (Array.replicate ops.size false) a { wr with drawn := wr.drawn + 1 } := by
    refine ⟨Mem.drew wr, hF.defers, hF.size, ?_, ⟨fun _ => undef, ?_⟩, fun t v htv _ => hF.slot t v (keys_look hkeys htv)⟩
    · intro j hj
      simp [Array.getD_eq_getD_getElem?, Array.getElem?_replicate] at hj
      split at hj <;> simp at hj
    · intro j hj
      simp [Array.getD_eq_getD_getElem?, Array.getElem?_replicate] at hj
      split at hj <;> simp at hj
  refine draw_all (c := .region id ops true) hd hdn' hpl hops ?_ ops.size _ a _ (by simp [opsOf]) ?_ h0
  · intro a' w' listed hall hk
    obtain ⟨hkp, hdef, hsz, _, ⟨vs, hvs⟩, hbase⟩ := hk
    refine h a' w' vs hkp (fun j hj => (hvs j (hall j hj)).1) ⟨hdef, hsz, fun t v hv => ?_⟩
    rcases look_append hv with h1 | h1
    · obtain ⟨j, hj, hdj, rfl⟩ := look_vals h1
      obtain ⟨h2, h3⟩ := hvs j (hall j (List.mem_range.1 hj))
      rw [Spec.val_ok h2]
      exact h3 t hdj
    · obtain ⟨h2, h3⟩ := look_rest h1
      exact hbase t v h2 (fun j _ => h3 j)
  · refine Nat.le_trans (List.length_filter_le _ _) ?_
    simp [opsOf]
end
theorem lt_zero_all {p : Nat → Prop} : ∀ i, i < 0 → p i := fun i h => absurd h (by omega)
theorem lt_succ_all {p : Nat → Prop} {n : Nat} (h : ∀ i, i < n → p i) (hn : p n) : ∀ i, i < n + 1 → p i := fun i hi => by
  by_cases e : i = n
  · subst e; exact hn
  · exact h i (by omega)
theorem opok_guard {c : Code} {i : Nat} {E : Env} {b : Bool} {g0 : Option (Nat × Bool)} (h0 : (coreAt c i).map (·.2.2.2) = some g0) (h : guardE c g0 E = some b) :
    ∀ g, (coreAt c i).map (·.2.2.2) = some g → guardE c g E = some b := by
  intro g hg
  rw [h0] at hg
  injection hg with hg
  subst hg
  exact h
def Spec.sl (n : Nat) (xs : List Value) : Spec := .any (fun v w => ∃ A c, v = .slice A n c ∧ (Res.rd A xs).holds w)
  (fun _ _ _ hK ⟨A, c, hv, h⟩ => ⟨A, c, hv, (Res.rd A xs).stable (fun g hg => hK.kept g ((Res.rd A xs).lt h hg) (fun h => h)) h⟩)
theorem RO.of {w : World} {r : Res} (h : r.holds w) : RO noS w r := ⟨h, fun _ _ h => h⟩
end Go.Mor
namespace Go.Mor
open Go.RowKit
section
variable {P : Program} {c : Code} {K : Act → World → Prop} {Q : Exit → Act → World → Prop} {a : Act} {w w0 : World} {S : Nat → Prop} {L : List Res} {k k' : Nat} {N : FN} {env : Env}
variable {d : Option Nat} {ty : Nat} {g : Option (Nat × Bool)}
end
end Go.Mor
namespace Go.Mor
open Go.RowKit
def setB (ls : Nat → Bool) (i : Nat) : Nat → Bool := fun j => match Nat.beq j i with
  | true => true
  | false => ls j
def setV (vs : Nat → Value) (i : Nat) (v : Value) : Nat → Value := fun j => match Nat.beq j i with
  | true => v
  | false => vs j
def Closed (c : Code) (ls : Nat → Bool) : Prop := ∀ j, ls j = true → ∀ k, k ∈ predsOf c j → ls k = true
def reach (c : Code) : Nat → Nat → Nat → Bool
  | 0, _, _ => false
  | n + 1, j, i => memN (predsOf c j) i || (predsOf c j).any (fun k => reach c n k i)
theorem notyet {c : Code} {ls : Nat → Bool} (hc : Closed c ls) {i : Nat} (hi : ls i = false) : ∀ {n j : Nat}, reach c n j i = true → ls j = false
  | 0, j, h => by simp [reach] at h
  | n + 1, j, h => by
    cases hq : ls j with
    | false => rfl
    | true =>
      exfalso
      simp only [reach, Bool.or_eq_true, List.any_eq_true] at h
      rcases h with h | ⟨k, hk, h⟩
      · rw [hc j hq i (memN_iff.1 h)] at hi
        cases hi
      · have := notyet hc hi h
        rw [hc j hq k hk] at this
        cases this
theorem donebefore {c : Code} {ls : Nat → Bool} (hc : Closed c ls) {i : Nat} (hp : ∀ k, k ∈ predsOf c i → ls k = true) : ∀ {n j : Nat}, reach c n i j = true → ls j = true := by
  have key : ∀ {n i' j : Nat}, ls i' = true → reach c n i' j = true → ls j = true := by
    intro n
    induction n with
    | zero => intro i' j _ h; simp [reach] at h
    | succ n ih =>
      intro i' j hi h
      simp only [reach, Bool.or_eq_true, List.any_eq_true] at h
      rcases h with h | ⟨k, hk, h⟩
      · exact hc i' hi j (memN_iff.1 h)
      · exact ih (hc i' hi k hk) h
  intro n j h
  cases n with
  | zero => simp [reach] at h
  | succ n =>
    simp only [reach, Bool.or_eq_true, List.any_eq_true] at h
    rcases h with h | ⟨k, hk, h⟩
    · exact hp j (memN_iff.1 h)
    · exact key (hp k hk) h
def OpOKJ (P : Program) (c : Code) (Q : Exit → Act → World → Prop) (N : FN) (env0 : Env) (sp : Nat → Spec) (J : (Nat → Bool) → (Nat → Value) → World → Prop) (i : Nat) : Prop :=
  ∀ (a : Act) (w : World) (ls : Nat → Bool) (vs : Nat → Value) (rest : Env), J ls vs w → ls i = false → Closed c ls → (∀ j, j ∈ predsOf c i → ls j = true ∧ (sp j).ok (vs j) w) → Fr a N (predE c i sp vs env0 ++ rest) →
    ∃ b, (∀ g, (coreAt c i).map (·.2.2.2) = some g → guardE c g (predE c i sp vs env0 ++ rest) = some b) ∧
      (b = true → From P (one c i) (fun a' w' => ∃ v, a' = a.put (dstAt c i) v ∧ (sp i).ok v w' ∧ J (setB ls i) (setV vs i v) w') Q 0 a w) ∧ (b = false → (sp i).ok undef w ∧ J (setB ls i) (setV vs i undef) w)
theorem okG {c : Code} {i : Nat} {E : Env} {g0 : Option (Nat × Bool)} {X Y : Prop} (hx : X) (h0 : (coreAt c i).map (·.2.2.2) = some g0 := by kernel_rfl) (h : guardE c g0 E = some true := by kernel_rfl) : ∃ b, (∀ g, (coreAt c i).map (·.2.2.2) = some g → guardE c g E = some b) ∧ (b = true → X) ∧ (b = false → Y) :=
  ⟨true, opok_guard h0 h, fun _ => hx, fun h => Bool.noConfusion h⟩
section
variable {P : Program} {c : Code} {K : Act → World → Prop} {Q : Exit → Act → World → Prop} {N : FN} {env0 : Env} {sp : Nat → Spec} {J : (Nat → Bool) → (Nat → Value) → World → Prop}
def KnownJ (c : Code) (N : FN) (env0 : Env) (sp : Nat → Spec) (J : (Nat → Bool) → (Nat → Value) → World → Prop) (listed : Array Bool) (a : Act) (w : World) : Prop :=
  ∃ (ls : Nat → Bool) (vs : Nat → Value), (∀ j, j < listed.size → ls j = listed.getD j false) ∧ (∀ j, listed.size ≤ j → ls j = false) ∧ J ls vs w ∧ a.defers = N.D ∧ a.tmps.size = N.n ∧ Closed c ls ∧
  (∀ j, ls j = true → (sp j).ok (vs j) w ∧ ∀ d, dstAt c j = some d → a.tmps[d]? = some (vs j)) ∧
  (∀ t v, (t, v) ∈ env0 → (∀ j, ls j = true → dstAt c j ≠ some t) → a.tmps[t]? = some v)
theorem drawJ_step (hd : dstsOk c = true) (hdn : ∀ i d, dstAt c i = some d → d < N.n) (hdet : ∀ j v w w', (sp j).ok v w → (sp j).ok v w') {i : Nat} (hi : OpOKJ P c Q N env0 sp J i)
    {listed : Array Bool} {a : Act} {w : World} (hn : listed.size = (opsOf c).size) (hr : i ∈ Region.ready .any (opsOf c) listed) (hk : KnownJ c N env0 sp J listed a w)
    {G : Act → World → Prop} (hG : ∀ a' w', KnownJ c N env0 sp J (listed.setIfInBounds i true) a' w' → G a' w') : wpOp P (opsOf c) (Exit.then K Q) i G a w := by
  obtain ⟨hlt, hnl, o, ho, hpre⟩ := ready_spec hr
  obtain ⟨ls, vs, hls, hls', hJ, hdef, hsz, hcl, hvs, hbase⟩ := hk
  have hnl' : ls i = false := by
    rw [hls i (by omega)]
    have : i < listed.size := by omega
    simp [Array.getD, this] at hnl ⊢
    exact hnl
  have hlts : ∀ j, ls j = true → j < listed.size := by
    intro j hj
    rcases Nat.lt_or_ge j listed.size with h | h
    · exact h
    · rw [hls' j h] at hj; cases hj
  have hpl : ∀ j, j ∈ predsOf c i → ls j = true := by
    intro j hj
    simp only [predsOf, ho, List.mem_map, List.mem_filter] at hj
    obtain ⟨e, ⟨he, hb⟩, rfl⟩ := hj
    have h1 := hpre e he hb
    have h2 : e.on < listed.size := by
      rcases Nat.lt_or_ge e.on listed.size with h | h
      · exact h
      · have h3 : ¬ (e.on < listed.size) := by omega
        simp [Array.getD, h3] at h1
    rw [hls _ h2]
    exact h1
  have hdi : dstAt c i = o.dst := by simp [dstAt, ho]
  have hF : Fr a N (predE c i sp vs env0 ++ []) := by
    refine ⟨hdef, hsz, fun t v hv => ?_⟩
    rw [List.append_nil] at hv
    rcases look_append hv with h1 | h1
    · obtain ⟨j, hj, hdj, rfl⟩ := look_vals h1
      obtain ⟨h2, h3⟩ := hvs j (hpl j hj)
      rw [Spec.val_ok h2]
      exact h3 t hdj
    · obtain ⟨h2, h3⟩ := base_spec h1
      refine hbase t v h2 (fun j hj hdj => ?_)
      have := hcl j hj i (h3 j hdj)
      rw [hnl'] at this
      cases this
  obtain ⟨b, hb, hrun, hskip⟩ := hi a w ls vs [] hJ hnl' hcl (fun j hj => ⟨hpl j hj, (hvs j (hpl j hj)).1⟩) hF
  have hcore : coreAt c i = some (o.dst, o.op, o.type, o.guard) := by simp [coreAt, ho]
  have hw := guard_ok (c := c) hF rfl (hb _ (by rw [hcore]; rfl))
  have hsi : ∀ j, setB ls i j = true → j = i ∨ ls j = true := by
    intro j hj
    simp only [setB] at hj
    cases hq : Nat.beq j i with
    | true => exact .inl (Nat.eq_of_beq_eq_true hq)
    | false => rw [hq] at hj; exact .inr hj
  have hsi' : ∀ j, ls j = true → setB ls i j = true := by
    intro j hj
    simp only [setB]
    cases hq : Nat.beq j i <;> simp [hj]
  have hsii : setB ls i i = true := by simp [setB]
  have hvi : setV vs i = fun v j => if j = i then v else vs j := by
    funext v j
    simp only [setV]
    cases hq : Nat.beq j i with
    | true => simp [Nat.eq_of_beq_eq_true hq]
    | false =>
      have : j ≠ i := fun e => by subst e; simp at hq
      simp [this]
  -- what is known behind it
  have next : ∀ v w', (sp i).ok v w' → J (setB ls i) (setV vs i v) w' → KnownJ c N env0 sp J (listed.setIfInBounds i true) (a.put o.dst v) w' := by
    intro v w' hv hJ'
    refine ⟨setB ls i, setV vs i v, ?_, ?_, hJ', by cases hdd : o.dst <;> simp [Act.put, hdef], by cases hdd : o.dst <;> simp [Act.put, hsz], ?_, ?_, ?_⟩
    · intro j hj
      have hj' : j < listed.size := by simpa using hj
      by_cases e : i = j
      · subst e
        rw [hsii]
        simp [Array.getD_eq_getD_getElem?, hj']
      · have hb : Nat.beq j i = false := by
          cases hq : Nat.beq j i with
          | false => rfl
          | true => exact absurd (Nat.eq_of_beq_eq_true hq).symm e
        simp only [setB, hb]
        rw [hls j hj']
        simp [Array.getD_eq_getD_getElem?, Array.getElem?_setIfInBounds_ne e]
    · intro j hj
      have hj' : listed.size ≤ j := by simpa using hj
      have hb : Nat.beq j i = false := by
        cases hq : Nat.beq j i with
        | false => rfl
        | true => have := Nat.eq_of_beq_eq_true hq; omega
      simp only [setB, hb]
      exact hls' j hj'
    · intro j hj k hk
      rcases hsi j hj with rfl | h1
      · exact hsi' k (hpl k hk)
      · exact hsi' k (hcl j h1 k hk)
    · intro j hj
      rw [hvi]
      rcases hsi j hj with rfl | h1
      · refine ⟨by simpa using hv, fun d hdj => ?_⟩
        rw [hdi] at hdj
        simp only [hdj, Act.put, if_true]
        have := hdn j d (by rw [hdi]; exact hdj)
        rw [Array.getElem?_setIfInBounds_self_of_lt (by omega)]
      · have hne : j ≠ i := fun e => by subst e; rw [hnl'] at h1; cases h1
        obtain ⟨h2, h3⟩ := hvs j h1
        refine ⟨by simpa [hne] using hdet j _ _ _ h2, fun d hdj => ?_⟩
        simp only [hne, if_false]
        cases hdd : o.dst with
        | none => exact h3 d hdj
        | some d' =>
          simp only [Act.put]
          have : d' ≠ d := fun e => by
            subst e
            exact hne (dsts_ne hd hdj (by rw [hdi]; exact hdd))
          rw [Array.getElem?_setIfInBounds_ne this]
          exact h3 d hdj
    · intro t u htu hj
      have h1 := hbase t u htu (fun j hj' => hj j (hsi' j hj'))
      cases hdd : o.dst with
      | none => exact h1
      | some d' =>
        simp only [Act.put]
        have : d' ≠ t := fun e => by
          subst e
          exact hj i hsii (by rw [hdi]; exact hdd)
        rw [Array.getElem?_setIfInBounds_ne this]
        exact h1
  unfold wpOp
  rw [ho]
  simp only []
  rw [hw]
  cases b with
  | false =>
    simp only [Bool.false_eq_true, if_false]
    obtain ⟨h1, h2⟩ := hskip rfl
    exact hG _ _ (next undef w h1 h2)
  | true =>
    simp only [if_true]
    have h1 := hrun rfl
    unfold From at h1
    rw [one_core ho] at h1
    simp only [List.drop_zero] at h1
    unfold wpList at h1
    rw [if_pos (by simp [Region.wanted])] at h1
    rcases h1 with h1 | ⟨h1, h2⟩
    · refine .inl ?_
      have h3 : o.wp P a w (fun a' w' => ∃ v, a' = a.put (dstAt c i) v ∧ (sp i).ok v w' ∧ J (setB ls i) (setV vs i v) w') (Exit.then K Q) := by
        have this : o.wp P a w (fun a' w' => ∃ v, a' = a.put (dstAt c i) v ∧ (sp i).ok v w' ∧ J (setB ls i) (setV vs i v) w') (Exit.then (fun a' w' => ∃ v, a' = a.put (dstAt c i) v ∧ (sp i).ok v w' ∧ J (setB ls i) (setV vs i v) w') Q) := h1
        unfold Oper.wp at this ⊢
        generalize (execOp a.eval o).run P w = r at *
        cases r with
        | ok n w' =>
          cases n <;> simp only [Oper.upon] at this ⊢ <;> first
            | exact this
            | exact Calls.mono this (fun e w'' he => by cases e <;> exact he)
        | halt x w' => cases x <;> simp only [Oper.upon] at this ⊢ <;> exact this
      refine Oper.wp_mono ?_ h3
      rintro a' w' ⟨v, rfl, hv, hJv⟩
      rw [hdi]
      exact hG _ _ (next v w' hv hJv)
    · refine .inr ⟨h1, ?_⟩
      obtain ⟨a0, w0, h0⟩ := h2
      exact ⟨a0, w0, h0⟩
theorem drawJ_all (hd : dstsOk c = true) (hdn : ∀ i d, dstAt c i = some d → d < N.n) (hdet : ∀ j v w w', (sp j).ok v w → (sp j).ok v w') (hpl : predsLt c = true) (hops : ∀ i, i < (opsOf c).size → OpOKJ P c Q N env0 sp J i)
    (hend : ∀ a w, (∀ listed : Array Bool, listed.size = (opsOf c).size → (∀ j, j < (opsOf c).size → listed.getD j false = true) → KnownJ c N env0 sp J listed a w → K a w)) :
    ∀ (fuel : Nat) (listed : Array Bool) (a : Act) (w : World), listed.size = (opsOf c).size → ((List.range (opsOf c).size).filter (fun j => !listed.getD j false)).length ≤ fuel → KnownJ c N env0 sp J listed a w →
      wpAny P .any (opsOf c) (Exit.then K Q) fuel listed a w := by
  have none_ready : ∀ listed : Array Bool, listed.size = (opsOf c).size → Region.ready .any (opsOf c) listed = [] → ∀ j, j < (opsOf c).size → listed.getD j false = true := by
    intro listed hsz hr j
    induction j using Nat.strongRecOn with
    | _ j ih =>
      intro hj
      cases hq : listed.getD j false with
      | true => rfl
      | false =>
        exfalso
        have : j ∈ Region.ready .any (opsOf c) listed := by
          simp only [Region.ready, List.mem_filter, List.mem_range, Bool.and_eq_true, Bool.not_eq_true']
          have hjl : j < listed.size := by omega
          refine ⟨hj, ?_, ?_⟩
          · simp [Array.getD, hjl] at hq ⊢
            exact hq
          · have ho : (opsOf c)[j]? = some (opsOf c)[j] := by simp [hj]
            simp only [ho, Option.map_some, Option.getD_some]
            rw [Array.all_eq_true_iff_forall_mem]
            intro e he
            cases hb : Region.binds .any e with
            | false => rfl
            | true =>
              have hmem : e.on ∈ predsOf c j := by
                simp only [predsOf, ho, List.mem_map, List.mem_filter]
                exact ⟨e, ⟨Array.mem_toList_iff.2 he, hb⟩, rfl⟩
              have hlt : e.on < j := by
                simp only [predsLt, List.all_eq_true, List.mem_range] at hpl
                have := hpl j hj e.on hmem
                simpa [Nat.blt_eq] using this
              simp [ih e.on hlt (by omega)]
        rw [hr] at this
        simp at this
  intro fuel
  induction fuel with
  | zero =>
    intro listed a w hsz hf hk
    have hall : ∀ j, j < (opsOf c).size → listed.getD j false = true := by
      intro j hj
      cases hq : listed.getD j false with
      | true => rfl
      | false =>
        have : j ∈ (List.range (opsOf c).size).filter (fun j => !listed.getD j false) := List.mem_filter.2 ⟨List.mem_range.2 hj, by rw [hq]; rfl⟩
        have := List.length_pos_of_mem this
        omega
    refine ⟨?_, hend a w listed hsz hall hk⟩
    cases hr : Region.ready .any (opsOf c) listed with
    | nil => rfl
    | cons i r =>
      exfalso
      have hi : i ∈ Region.ready .any (opsOf c) listed := by rw [hr]; simp
      obtain ⟨h1, h2, _⟩ := ready_spec hi
      have := hall i h1
      have hil : i < listed.size := by omega
      simp [Array.getD, hil] at h2 this
      rw [h2] at this
      cases this
  | succ fuel ih =>
    intro listed a w hsz hf hk
    refine ⟨fun hr => hend a w listed hsz (none_ready listed hsz hr) hk, fun i hi => ?_⟩
    obtain ⟨h1, h2, _⟩ := ready_spec hi
    refine drawJ_step hd hdn hdet (hops i h1) hsz hi hk (fun a' w' hk' => ?_)
    refine ih _ a' w' (by simpa using hsz) ?_ hk'
    have hil : i < listed.size := by omega
    have hni : listed.getD i false = false := by
      simp [Array.getD, hil] at h2 ⊢
      exact h2
    have hlt : ((List.range (opsOf c).size).filter (fun j => !(listed.setIfInBounds i true).getD j false)).length < ((List.range (opsOf c).size).filter (fun j => !listed.getD j false)).length := by
      have hsub : ((List.range (opsOf c).size).filter (fun j => !(listed.setIfInBounds i true).getD j false)) = ((List.range (opsOf c).size).filter (fun j => !listed.getD j false)).filter (fun j => !(Nat.beq j i)) := by
        rw [List.filter_filter]
        apply List.filter_congr
        intro j _
        by_cases e : i = j
        · subst e
          simp [Array.getD_eq_getD_getElem?, hil]
        · have hb : Nat.beq j i = false := by
            cases hq : Nat.beq j i with
            | false => rfl
            | true => exact absurd (Nat.eq_of_beq_eq_true hq).symm e
          simp [Array.getD_eq_getD_getElem?, Array.getElem?_setIfInBounds_ne e, hb]
      rw [hsub]
      have hmem : i ∈ (List.range (opsOf c).size).filter (fun j => !listed.getD j false) := List.mem_filter.2 ⟨List.mem_range.2 h1, by rw [hni]; rfl⟩
      refine List.length_filter_lt_length_iff_exists.2 ⟨i, hmem, by simp⟩
    omega
theorem W_drawJ (hk : kind c = .region true) (hm : P.follows .mixedOrders = true) {a : Act} {wr : World} (sp : Nat → Spec) (J : (Nat → Bool) → (Nat → Value) → World → Prop) (hd : dstsOk c = true) (hpl : predsLt c = true) (hF : Fr a N env0) (hkeys : keysOk env0 = true)
    (hdn : (List.range (opsOf c).size).all (fun i => okd (dstAt c i) N) = true) (hdet : ∀ j v w w', (sp j).ok v w → (sp j).ok v w')
    (h0 : J (fun _ => false) (fun _ => undef) wr.drew)
    (hops : ∀ i, i < (opsOf c).size → OpOKJ P c Q N env0 sp J i)
    (h : ∀ a' w' (ls : Nat → Bool) (vs : Nat → Value), (∀ j, j < (opsOf c).size → ls j = true) → J ls vs w' → (∀ j, j < (opsOf c).size → (sp j).ok (vs j) w') → Fr a' N (valsE c sp vs (List.range (opsOf c).size) ++ restE c env0) → K a' w') : W P c K Q a wr := by
  have hdn' : ∀ i d, dstAt c i = some d → d < N.n := by
    intro i d hi
    have hlt : i < (opsOf c).size := by
      simp only [dstAt] at hi
      cases ho : (opsOf c)[i]? with
      | none => simp [ho] at hi
      | some o => exact (Array.getElem?_eq_some_iff.1 ho).1
    simp only [List.all_eq_true, List.mem_range] at hdn
    have := hdn i hlt
    rw [hi] at this
    simpa [okd, Nat.blt_eq] using this
  cases c <;> simp [kind] at hk
  rename_i id ops dr
  subst hk
  refine wp_region_any hm ?_
  have h1 : KnownJ (.region id ops true) N env0 sp J (Array.replicate ops.size false) a { wr with drawn := wr.drawn + 1 } := by
    refine ⟨fun _ => false, fun _ => undef, ?_, fun _ _ => rfl, h0, hF.defers, hF.size, (fun _ hj => absurd hj (by simp)), (fun _ hj => absurd hj (by simp)), fun t v htv _ => hF.slot t v (keys_look hkeys htv)⟩
    intro j hj
    simp at hj
    simp [Array.getD_eq_getD_getElem?, hj]
  refine drawJ_all (c := .region id ops true) hd hdn' hdet hpl hops ?_ ops.size _ a _ (by simp [opsOf]) ?_ h1
  · intro a' w' listed hsz hall hk
    obtain ⟨ls, vs, hls, _, hJ, hdef, hsz', _, hvs, hbase⟩ := hk
    have hlt : ∀ j, j < (opsOf (.region id ops true)).size → ls j = true := fun j hj => by rw [hls j (by omega)]; exact hall j hj
    refine h a' w' ls vs hlt hJ (fun j hj => (hvs j (hlt j hj)).1) ⟨hdef, hsz', fun t v hv => ?_⟩
    rcases look_append hv with h1 | h1
    · obtain ⟨j, hj, hdj, rfl⟩ := look_vals h1
      obtain ⟨h2, h3⟩ := hvs j (hlt j (List.mem_range.1 hj))
      rw [Spec.val_ok h2]
      exact h3 t hdj
    · obtain ⟨h2, h3⟩ := look_rest h1
      exact hbase t v h2 (fun j _ => h3 j)
  · refine Nat.le_trans (List.length_filter_le _ _) ?_
    simp [opsOf]
end
def Spec.free : Spec := .any (fun _ _ => True) (fun _ _ _ _ _ => trivial)
theorem op_doneJ {c : Code} {i : Nat} {d : Option Nat} {a a' : Act} {w' : World} {v : Value} {s : Spec} {Z : Value → Prop} (hd : dstAt c i = d) (ea : a' = a.put d v) (h : s.ok v w') (hJ : Z v) :
    ∃ v, a' = a.put (dstAt c i) v ∧ s.ok v w' ∧ Z v := ⟨v, by rw [hd]; exact ea, h, hJ⟩
inductive Plain : List Spec → Prop where
  | nil : Plain []
  | det {v r} : Plain r → Plain (.det v :: r)
  | free {r} : Plain r → Plain (Spec.free :: r)
theorem plain_ok {l : List Spec} (h : Plain l) : ∀ (j : Nat) (v : Value) (w w' : World), (specAt l j).ok v w → (specAt l j).ok v w' := by
  induction h with
  | nil => intro j v w w' h; exact h
  | det _ ih =>
    intro j v w w' h
    cases j with
    | zero => exact h
    | succ j => exact ih j v w w' h
  | free _ ih =>
    intro j v w w' h
    cases j with
    | zero => exact h
    | succ j => exact ih j v w w' h
section
variable {S : Nat → Prop} {w0 w w' : World} {L : List Res}
end
end Go.Mor
namespace Go.Mor
open Go.RowKit
section
variable {P : Program} {t : TypeId}
end
def tb (ws : List Nat) (i : Nat) : Bool := (ws.getD (i / 64) 0).testBit (i % 64)
end Go.Mor
namespace Go.Mor
open Go.RowKit
structure RowV where
  A : Option Addr
  n : Nat
  c : Nat
  xs : List Value
section
variable {S : Nat → Prop} {w0 w : World} {L : List Res}
end
end Go.Mor
namespace Go.Mor
open Go.RowKit
theorem From_min {P : Program} {c : Code} {K : Act → World → Prop} {Q : Exit → Act → World → Prop} {a : Act} {w : World} {k k' : Nat} {N : FN} {env : Env} {d : Option Nat} {ty : Nat} {g : Option (Nat × Bool)}
    {ts : Array TypeId} {x y : Operand} (hk : coreAt c k = some (d, .call { callee := .builtin .min, args := #[x, y], argTypes := ts }, ty, g)) (hF : Fr a N env) (hg : guardE c g env = some true) (hd : okd d N = true) (hk' : k + 1 = k')
    {kd : IntKind} {i j : Int} (hx : ev env x = some (.int kd i)) (hy : ev env y = some (.int kd j)) (z : Int) (hz : z = if j < i then j else i)
    (h : ∀ a', a' = a.put d (.int kd z) → Fr a' N (putE env d (.int kd z)) → From P c K Q k' a' w) : From P c K Q k a w := by
  refine From_same hk hF hg hd hk' (fun o ho => ?_) h
  unfold execOp
  rw [ho]
  simp only [resolve, invoke, builtin, Sem.run_bind, Sem.run_pure, Result.andThen_ok, List.map_toArray, List.map_cons, List.map_nil, hF.ev hx, hF.ev hy, Builtin.min_, List.foldlM]
  subst hz
  simp [Builtin.min2]
  try (split <;> simp_all <;> omega)
end Go.Mor
namespace Go.Mor
open Go.RowKit
theorem results_cell1 {fn : Func} {t : Tmp} {ty : TypeId} (h : fn.results = #[.cell t ty]) (tmps : Array Value) (P : Program) (w : World) {ad : Addr} {vs : List Value} (hp : tmps.getD t undef = .pointer (some ad)) (ht : aggT P ty = some vs.length)
    (hc : ∀ (j : Nat) (v : Value), vs[j]? = some v → w.cell? (ad.add j) = some v) : (results fn tmps).run P w = .ok (.agg vs.toArray) w := by
  obtain ⟨h1, h2⟩ := isAgg_agg ht w
  have e : tmps[t]?.getD undef = .pointer (some ad) := by simpa using hp
  have ha : (asAddr (.pointer (some ad))).run P w = .ok ad w := rfl
  have hl : (loadVar ty ad).run P w = .ok (.agg vs.toArray) w := by simp [loadVar, h1, h2, run_loadCells_list (P := P) w ad vs hc]
  simp only [results, h]
  simp [Sem.run_bind, Result.andThen, e, ha, hl]
theorem outC {P : Program} {fn : Func} {R : Ending → World → Prop} {a : Act} {w : World} {N : FN} {env : Env} {t : Tmp} {ty : TypeId} {ad : Addr} {vs : List Value} (hF : Fr a N env) (hr : fn.results = #[.cell t ty]) (hv : look env t = some (.pointer (some ad)))
    (ht : aggT P ty = some vs.length) (hc : ∀ (j : Nat) (v : Value), vs[j]? = some v → w.cell? (ad.add j) = some v) (h : R (.returned (.agg vs.toArray)) w) (hD : N.D = [] := by rfl) : bodyPost P fn R .ret a w := by
  refine bodyPost_ret (v := .agg vs.toArray) ?_ (hF.defers.trans hD) h
  refine results_cell1 hr _ _ _ ?_ ht hc
  have := hF.ev (x := .tmp t) hv
  simpa only [Act.eval] using this
end Go.Mor
